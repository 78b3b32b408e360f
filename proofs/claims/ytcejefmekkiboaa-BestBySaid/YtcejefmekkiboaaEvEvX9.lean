/-
  Rules to run the evaluator's code by hand, operation by operation.
-/
import Derived.Test.YtcejefmekkiboaaEvEvX1
set_option linter.unusedVariables false
set_option linter.unusedSimpArgs false
set_option linter.unnecessarySimpa false
namespace Go.Ev
abbrev nx (b:Fl) (R:(Nat→D)→Store→List Fl→Prop):(Nat→D)→Store→List Fl→Prop:=fun ρ1 st1 fl=>R ρ1 st1 (b::fl)
section
variable {Γ:Nat→Option FD} {ρ:Nat→D} {st:Store} {dr:Bool} {R:(Nat→D)→Store→List Fl→Prop} {l:List Op1} {g:Option (Nat×Bool)} {mv:Bool} {k:Nat} {x y c a b i:A} {κ:IntKind} {n m:Int}
theorem li {op:O} {d:D} {f0:Fl} (hg:ao ρ g=some true) (hn:op.isCall=false) (hr:op.run ρ st=some (d,st)) (hm:mv=false) (h:WS Γ dr l (ap ρ k d) st (nx f0 R)) (hf:op.acc false ρ=f0:=by first|rfl|(simp[O.acc, *];done)):WS Γ dr (⟨some k,g,mv,op⟩::l) ρ st R:=by
 subst hm
 exact Hl hg hn (by simpa[O.runM]using hr) h hf
theorem ak (hg:ao ρ g=some false) {op:O} (h:WS Γ dr l (ap ρ k .undef) st (nx .n R)):WS Γ dr (⟨some k,g,mv,op⟩::l) ρ st R:=uN hg h
theorem aB {v:D} (hg:ao ρ g=some true) (hx:x.ev ρ=v) (hm:mv=false) (h:WS Γ dr l (ap ρ k v) st (nx .n R)):WS Γ dr (⟨some k,g,mv,.mov x⟩::l) ρ st R:=
 li hg rfl (by simp[O.run,hx]) hm h
theorem bU {t:Bool} {v:D} (hg:ao ρ g=some true) (hc:c.ev ρ=.bool t) (hx:(if t then a.ev ρ else b.ev ρ)=v) (hm:mv=false) (h:WS Γ dr l (ap ρ k v) st (nx .n R)):WS Γ dr (⟨some k,g,mv,.pick c a b⟩::l) ρ st R:=
 li hg rfl (by simp[O.run,hc,hx]) hm h
theorem Gy {t:Bool} (hg:ao ρ g=some true) (hx:x.ev ρ=.bool t) (hm:mv=false) (h:WS Γ dr l (ap ρ k (.bool (!t))) st (nx .n R)):WS Γ dr (⟨some k,g,mv,.not x⟩::l) ρ st R:=
 li hg rfl (by simp[O.run,hx]) hm h
theorem lg {op:BinOp} {t:Bool} (hg:ao ρ g=some true) (hr:il op (x.ev ρ) (y.ev ρ)=some (.bool t)) (hm:mv=false) (h:WS Γ dr l (ap ρ k (.bool t)) st (nx .n R)):WS Γ dr (⟨some k,g,mv,.bin op x y⟩::l) ρ st R:=
 li hg rfl (by simp[O.run,hr]) hm h
variable (hg:ao ρ g=some true) (hx:x.ev ρ=.int κ n) (hy:y.ev ρ=.int κ m) (hm:mv=false)
include hg hx hy hm
theorem gU (h1:n<m→WS Γ dr l (ap ρ k (.bool true)) st (nx .n R)) (h2:¬n<m→WS Γ dr l (ap ρ k (.bool false)) st (nx .n R)):WS Γ dr (⟨some k,g,mv,.bin .lss x y⟩::l) ρ st R:=by
 by_cases h:n<m
 ·exact lg hg (by simp[il,hx,hy,h]) hm (h1 h)
 ·exact lg hg (by simp only[il,hx,hy];simp[h]) hm (h2 h)
theorem lp (h1:n≤m→WS Γ dr l (ap ρ k (.bool true)) st (nx .n R)) (h2:¬n≤m→WS Γ dr l (ap ρ k (.bool false)) st (nx .n R)):WS Γ dr (⟨some k,g,mv,.bin .leq x y⟩::l) ρ st R:=by
 by_cases h:n≤m
 ·exact lg hg (by simp[il,hx,hy,h]) hm (h1 h)
 ·exact lg hg (by simp only[il,hx,hy];simp[h]) hm (h2 h)
theorem jl (h1:m<n→WS Γ dr l (ap ρ k (.bool true)) st (nx .n R)) (h2:¬m<n→WS Γ dr l (ap ρ k (.bool false)) st (nx .n R)):WS Γ dr (⟨some k,g,mv,.bin .gtr x y⟩::l) ρ st R:=by
 by_cases h:m<n
 ·exact lg hg (by simp[il,hx,hy,h]) hm (h1 h)
 ·exact lg hg (by simp only[il,hx,hy];simp[h]) hm (h2 h)
theorem AF (h1:m≤n→WS Γ dr l (ap ρ k (.bool true)) st (nx .n R)) (h2:¬m≤n→WS Γ dr l (ap ρ k (.bool false)) st (nx .n R)):WS Γ dr (⟨some k,g,mv,.bin .geq x y⟩::l) ρ st R:=by
 by_cases h:m≤n
 ·exact lg hg (by simp[il,hx,hy,h]) hm (h1 h)
 ·exact lg hg (by simp only[il,hx,hy];simp[h]) hm (h2 h)
theorem ln (h1:n=m→WS Γ dr l (ap ρ k (.bool true)) st (nx .n R)) (h2:¬n=m→WS Γ dr l (ap ρ k (.bool false)) st (nx .n R)):WS Γ dr (⟨some k,g,mv,.bin .eql x y⟩::l) ρ st R:=by
 by_cases h:n=m
 ·exact lg hg (by simp[il,hx,hy,h]) hm (h1 h)
 ·exact lg hg (by simp[il,hx,hy,h]) hm (h2 h)
theorem j5 (h1:n=m→WS Γ dr l (ap ρ k (.bool false)) st (nx .n R)) (h2:¬n=m→WS Γ dr l (ap ρ k (.bool true)) st (nx .n R)):WS Γ dr (⟨some k,g,mv,.bin .neq x y⟩::l) ρ st R:=by
 by_cases h:n=m
 ·exact lg hg (by simp[il,hx,hy,h]) hm (h1 h)
 ·exact lg hg (by simp[il,hx,hy,h]) hm (h2 h)
theorem Ft (p:n<m) (h1:WS Γ dr l (ap ρ k (.bool true)) st (nx .n R)):WS Γ dr (⟨some k,g,mv,.bin .lss x y⟩::l) ρ st R:=gU hg hx hy hm (fun _=>h1) (fun q=>absurd p q)
theorem Et (p:m≤n) (h1:WS Γ dr l (ap ρ k (.bool false)) st (nx .n R)):WS Γ dr (⟨some k,g,mv,.bin .lss x y⟩::l) ρ st R:=gU hg hx hy hm (fun _=>absurd p (by omega)) (fun q=>h1)
theorem ek (p:n≤m) (h1:WS Γ dr l (ap ρ k (.bool true)) st (nx .n R)):WS Γ dr (⟨some k,g,mv,.bin .leq x y⟩::l) ρ st R:=lp hg hx hy hm (fun _=>h1) (fun q=>absurd p q)
theorem eH (p:m<n) (h1:WS Γ dr l (ap ρ k (.bool false)) st (nx .n R)):WS Γ dr (⟨some k,g,mv,.bin .leq x y⟩::l) ρ st R:=lp hg hx hy hm (fun _=>absurd p (by omega)) (fun q=>h1)
theorem EU (p:m<n) (h1:WS Γ dr l (ap ρ k (.bool true)) st (nx .n R)):WS Γ dr (⟨some k,g,mv,.bin .gtr x y⟩::l) ρ st R:=jl hg hx hy hm (fun _=>h1) (fun q=>absurd p q)
theorem Ef (p:n≤m) (h1:WS Γ dr l (ap ρ k (.bool false)) st (nx .n R)):WS Γ dr (⟨some k,g,mv,.bin .gtr x y⟩::l) ρ st R:=jl hg hx hy hm (fun _=>absurd p (by omega)) (fun q=>h1)
theorem AE (p:m≤n) (h1:WS Γ dr l (ap ρ k (.bool true)) st (nx .n R)):WS Γ dr (⟨some k,g,mv,.bin .geq x y⟩::l) ρ st R:=AF hg hx hy hm (fun _=>h1) (fun q=>absurd p q)
theorem xB (p:n<m) (h1:WS Γ dr l (ap ρ k (.bool false)) st (nx .n R)):WS Γ dr (⟨some k,g,mv,.bin .geq x y⟩::l) ρ st R:=AF hg hx hy hm (fun _=>absurd p (by omega)) (fun q=>h1)
theorem cb (p:n=m) (h1:WS Γ dr l (ap ρ k (.bool true)) st (nx .n R)):WS Γ dr (⟨some k,g,mv,.bin .eql x y⟩::l) ρ st R:=ln hg hx hy hm (fun _=>h1) (fun q=>absurd p q)
theorem b7 (p:¬n=m) (h1:WS Γ dr l (ap ρ k (.bool false)) st (nx .n R)):WS Γ dr (⟨some k,g,mv,.bin .eql x y⟩::l) ρ st R:=ln hg hx hy hm (fun q=>absurd q p) (fun q=>h1)
theorem cu (p:¬n=m) (h1:WS Γ dr l (ap ρ k (.bool true)) st (nx .n R)):WS Γ dr (⟨some k,g,mv,.bin .neq x y⟩::l) ρ st R:=j5 hg hx hy hm (fun q=>absurd q p) (fun q=>h1)
theorem ca (p:n=m) (h1:WS Γ dr l (ap ρ k (.bool false)) st (nx .n R)):WS Γ dr (⟨some k,g,mv,.bin .neq x y⟩::l) ρ st R:=j5 hg hx hy hm (fun _=>h1) (fun q=>absurd p q)
theorem Gq {s:Int} (hs:κ.wrap (n+m)=s) (h:WS Γ dr l (ap ρ k (.int κ s)) st (nx .n R)):WS Γ dr (⟨some k,g,mv,.bin .add x y⟩::l) ρ st R:=
 li hg rfl (by simp[O.run,il,hx,hy,hs]) hm h
theorem F3 {s:Int} (hs:κ.wrap (n - m)=s) (h:WS Γ dr l (ap ρ k (.int κ s)) st (nx .n R)):WS Γ dr (⟨some k,g,mv,.bin .sub x y⟩::l) ρ st R:=
 li hg rfl (by simp[O.run,il,hx,hy,hs]) hm h
theorem tp {s:Int} (hs:κ.wrap (n*m)=s) (h:WS Γ dr l (ap ρ k (.int κ s)) st (nx .n R)):WS Γ dr (⟨some k,g,mv,.bin .mul x y⟩::l) ρ st R:=
 li hg rfl (by simp[O.run,il,hx,hy,hs]) hm h
theorem wl {s:Int} (h0:m≠0) (hs:κ.wrap (n.tdiv m)=s) (h:WS Γ dr l (ap ρ k (.int κ s)) st (nx .n R)):WS Γ dr (⟨some k,g,mv,.bin .quo x y⟩::l) ρ st R:=
 li hg rfl (by simp[O.run,il,hx,hy,hs,h0]) hm h
theorem GA {s:Int} (h0:m≠0) (hs:n.tmod m=s) (h:WS Γ dr l (ap ρ k (.int κ s)) st (nx .n R)):WS Γ dr (⟨some k,g,mv,.bin .rem x y⟩::l) ρ st R:=
 li hg rfl (by simp[O.run,il,hx,hy,hs,h0]) hm h
omit hy
theorem qM {κ':IntKind} {s:Int} (hy:y.ev ρ=.int κ' m) (h0:0≤m) (hs:n.fdiv (2 ^ (Nat.min m.toNat κ.bits))=s) (h:WS Γ dr l (ap ρ k (.int κ s)) st (nx .n R)):WS Γ dr (⟨some k,g,mv,.bin .shr x y⟩::l) ρ st R:=
 li hg rfl (by simp[O.run,il,hx,hy,hs,h0]) hm h
theorem fV {κ':IntKind} {s:Int} (hs:κ'.wrap n=s) (h:WS Γ dr l (ap ρ k (.int κ' s)) st (nx .n R)):WS Γ dr (⟨some k,g,mv,.conv κ' x⟩::l) ρ st R:=
 li hg rfl (by simp[O.run,hx,hs]) hm h
theorem qD {κ':IntKind} (hy:y.ev ρ=.int κ' m) (h:WS Γ dr l (ap ρ k (.int κ (if m<n then m else n))) st (nx .n R)):WS Γ dr (⟨some k,g,mv,.min [x,y]⟩::l) ρ st R:=
 li hg rfl (by simp[O.run,zN,hx,hy]) hm h
theorem qY {κ':IntKind} (hy:y.ev ρ=.int κ' m) (h:WS Γ dr l (ap ρ k (.int κ (if m>n then m else n))) st (nx .n R)):WS Γ dr (⟨some k,g,mv,.max [x,y]⟩::l) ρ st R:=
 li hg rfl (by simp[O.run,Aq,hx,hy]) hm h
omit hx
theorem kM {t u:Bool} (hx:x.ev ρ=.bool t) (hy:y.ev ρ=.bool u) (h:WS Γ dr l (ap ρ k (.bool (t==u))) st (nx .n R)):WS Γ dr (⟨some k,g,mv,.eqlB false x y⟩::l) ρ st R:=
 li hg rfl (by simp[O.run,hx,hy]) hm h
theorem EJ {sz:Nat} {offs:List Nat} {cs ds:List D} {e:Bool} (hx:x.ev ρ=.agg cs) (hy:y.ev ρ=.agg ds) (h1:cs.length=sz) (h2:ds.length=sz) (he:mK cs ds offs=some e)
  (ht:e=true→WS Γ dr l (ap ρ k (.bool false)) st (nx .n R)) (hf:e=false→WS Γ dr l (ap ρ k (.bool true)) st (nx .n R)):WS Γ dr (⟨some k,g,mv,.eqlP true sz offs x y⟩::l) ρ st R:=by
 cases e with
 |true=>exact li hg rfl (by simp[O.run,hx,hy,h1,h2,he]) hm (ht rfl)
 |false=>exact li hg rfl (by simp[O.run,hx,hy,h1,h2,he]) hm (hf rfl)
theorem bi {vs:List D} {j:Nat} {d:D} (hx:x.ev ρ=.tuple vs) (hd:vs[j]?=some d) (h:WS Γ dr l (ap ρ k d) st (nx .n R)):WS Γ dr (⟨some k,g,mv,.extract x j⟩::l) ρ st R:=
 li hg rfl (by simp[O.run,hx,hd]) hm h
theorem B0 {f:Nat} {caps:List A} {cs:List D} (hc:caps.map (·.ev ρ)=cs) (h:WS Γ dr l (ap ρ k (.func f cs)) st (nx .n R)):WS Γ dr (⟨some k,g,mv,.mkfunc f caps⟩::l) ρ st R:=
 li hg rfl (by simp[O.run,hc]) hm h
theorem bJ {zero:List D} {fills:List (Nat×Nat×A)} {cs:List D} (hf:jt (fills.map fun f=>(f.1,f.2.1,f.2.2.ev ρ)) zero=some cs) (h:WS Γ dr l (ap ρ k (.agg cs)) st (nx .n R)):WS Γ dr (⟨some k,g,mv,.build zero fills⟩::l) ρ st R:=
 li hg rfl (by simp[O.run,hf]) hm h
theorem jR {t:Tok} {sz:Nat} {xs:List D} (hx:x.ev ρ=.slice t sz xs) (h:WS Γ dr l (ap ρ k (.int .i64 (xs.length:Nat))) st (nx .n R)):WS Γ dr (⟨some k,g,mv,.lenS x⟩::l) ρ st R:=
 li hg rfl (by simp[O.run,hx]) hm h
theorem Fy {α:Type} {ls:List α} {f:α→D} {t:Tok} {sz:Nat} (hx:x.ev ρ=.slice t sz (ls.map f)) (h:WS Γ dr l (ap ρ k (.int .i64 (ls.length:Nat))) st (nx .n R)):WS Γ dr (⟨some k,g,mv,.lenS x⟩::l) ρ st R:=
 jR hg hm hx (by simpa using h)
theorem bD {p off sz nn cc:Nat} (hx:x.ev ρ=.rs p off sz nn cc) (h:WS Γ dr l (ap ρ k (.int .i64 (nn:Nat))) st (nx .n R)):WS Γ dr (⟨some k,g,mv,.lenS x⟩::l) ρ st R:=
 li hg rfl (by simp[O.run,hx]) hm h
theorem dT {t:Tok} {sz s j:Nat} {xs:List D} (hx:x.ev ρ=.slice t s xs) (hi:i.ev ρ=.int κ (j:Int)) (hs:s=sz) (hj:j<xs.length) (h:WS Γ dr l (ap ρ k (.eptr sz xs j 0)) st (nx .n R)):WS Γ dr (⟨some k,g,mv,.iaddrS sz x i⟩::l) ρ st R:=
 li hg rfl (by simp[O.run,hx,hi,bL,hj,hs]) hm h
theorem aA {p off sz j nn cc:Nat} (hx:x.ev ρ=.rs p off sz nn cc) (hi:i.ev ρ=.int κ (j:Int)) (hj:j<nn) (h:WS Γ dr l (ap ρ k (.ptr p (off+j*sz))) st (nx .n R)):WS Γ dr (⟨some k,g,mv,.iaddrS sz x i⟩::l) ρ st R:=
 li hg rfl (by simp[O.run,hx,hi,bL,hj]) hm h
theorem qR {nn sz j:Nat} {agg:Bool} {cs:List D} {d:D} (hx:x.ev ρ=.agg cs) (hi:bL (i.ev ρ)=some j) (hj:j<nn) (hc:cut agg sz (j*sz) cs=some d) (h:WS Γ dr l (ap ρ k d) st (nx .n R)):WS Γ dr (⟨some k,g,mv,.indexA nn sz agg x i⟩::l) ρ st R:=
 li hg rfl (by simp[O.run,hx,hi,hj,hc]) hm h
theorem C5 {p off o:Nat} (hx:x.ev ρ=.ptr p o) (h:WS Γ dr l (ap ρ k (.ptr p (o+off))) st (nx .n R)):WS Γ dr (⟨some k,g,mv,.faddr off x⟩::l) ρ st R:=
 li hg rfl (by simp[O.run,hx]) hm h
theorem eN {s p off o:Nat} {xs:List D} (hx:x.ev ρ=.eptr s xs p o) (h:WS Γ dr l (ap ρ k (.eptr s xs p (o+off))) st (nx .n R)):WS Γ dr (⟨some k,g,mv,.faddr off x⟩::l) ρ st R:=
 li hg rfl (by simp[O.run,hx]) hm h
theorem C2 {α:Type} {ls:List α} {f:α→D} {v:α} {s j off sz:Nat} {agg:Bool} {d:D} (hx:x.ev ρ=.eptr s (ls.map f) j off) (hv:ls[j]?=some v) (hc:cut agg sz off (f v).cells=some d) (h:WS Γ dr l (ap ρ k d) st (nx .n R)):WS Γ dr (⟨some k,g,mv,.load agg sz x⟩::l) ρ st R:=
 li hg rfl (by simp[O.run,hx,hv,hc]) hm h
theorem ai {cs:List D} {p off sz:Nat} {agg:Bool} {d:D} (hx:x.ev ρ=.ptr p off) (hb:(st.boxes p).bind Box.cs=some cs) (hl:st.lim≤p) (hc:cut agg sz off cs=some d) (h:WS Γ dr l (ap ρ k d) st (nx (.r p) R)):WS Γ dr (⟨some k,g,mv,.load agg sz x⟩::l) ρ st R:=
 li hg rfl (by simp[O.run,hx,Store.cellsAt,hb,Nat.not_lt.mpr hl,hc]) hm h
theorem fT {cs:List D} {p off sz:Nat} {agg:Bool} {d:D} (hx:x.ev ρ=.ptr p off) (hb:(st.boxes p).bind Box.cs=some cs) (hl:p<st.lim) (hc:cut agg sz off (cs.map D.strip1)=some d) (h:WS Γ dr l (ap ρ k d) st (nx (.r p) R)):WS Γ dr (⟨some k,g,mv,.load agg sz x⟩::l) ρ st R:=
 li hg rfl (by simp[O.run,hx,Store.cellsAt,hb,hl,hc]) hm h
theorem av {zero:List D} (h:WS Γ dr l (ap ρ k (.ptr st.next 0)) {st with boxes:=ap st.boxes st.next (some (.cells zero)),next:=st.next+1} (nx .f R)):WS Γ dr (⟨some k,g,mv,.alloc zero⟩::l) ρ st R:=by
 subst hm
 exact Hl hg rfl rfl h
theorem cm {sz:Nat} {cs:List D} (hx:x.ev ρ=.agg cs) (h1:cs.length=sz) (h2:cs.all D.one=true) (h:WS Γ dr l (ap ρ k (.ptr st.next 0)) {st with boxes:=ap st.boxes st.next (some (.cells cs)),next:=st.next+1} (nx .f R)):WS Γ dr (⟨some k,g,mv,.box sz x⟩::l) ρ st R:=by
 subst hm
 refine Hl (d:=.ptr st.next 0) hg rfl ?_ h
 simp only[O.runM,O.run,hx,D.cells]
 rw[if_pos ⟨h1,h2⟩]
theorem uv {v:D} (hx:x.ev ρ=v) (h1:v.cells=[v]) (h2:v.one=true) (h:WS Γ dr l (ap ρ k (.ptr st.next 0)) {st with boxes:=ap st.boxes st.next (some (.cells [v])),next:=st.next+1} (nx .f R)):WS Γ dr (⟨some k,g,mv,.box 1 x⟩::l) ρ st R:=by
 subst hm
 refine Hl (d:=.ptr st.next 0) hg rfl ?_ h
 simp only[O.runM,O.run,hx,h1]
 rw[if_pos ⟨rfl,by simp[h2]⟩]
theorem bg {sz:Nat} {xs:List A} {ys:List D} (h0:(xs.all fun x=>(x.ev ρ).strip.cells.length==sz&&(x.ev ρ).strip.cells.all D.plain)=true) (h1:xs.length*sz≤16777216) (hy:(xs.map fun x=>(x.ev ρ).strip)=ys) (h:WS Γ dr l (ap ρ k (.slice .exact sz ys)) st (nx .n R)):WS Γ dr (⟨some k,g,mv,.bslice sz xs⟩::l) ρ st R:=by
 subst hm
 refine Hl (d:=.slice .exact sz ys) (st1:=st) hg rfl ?_ h
 simp only[O.runM,O.run,h0,h1,decide_true,Bool.and_self,if_true,hy]
end
section
variable {Γ:Nat→Option FD} {ρ:Nat→D} {st:Store} {dr:Bool} {R:(Nat→D)→Store→List Fl→Prop} {l:List Op1} {g:Option (Nat×Bool)} {mv:Bool} {k:Nat} {x y c a b i:A}
theorem am {v:D} {p off sz:Nat} {bx:Box} {cs cs':List D} (hg:ao ρ g=some true) (ha:a.ev ρ=.ptr p off) (hb:st.boxes p=some bx) (hcs:bx.cs=some cs) (hl:st.lim≤p) (hx:x.ev ρ=v) (hf:jt [(off,sz,v)] cs=some cs') (hm:mv=false)
  (h:WS Γ dr l ρ {st with boxes:=ap st.boxes p (some (bx.set cs'))} (nx (.w p) R)):WS Γ dr (⟨none,g,mv,.store sz a x⟩::l) ρ st R:=by
 subst hm
 refine Hl (d:=.undef) hg rfl ?_ h
 simp only[O.runM,O.run,ha,Nat.not_lt.mpr hl,if_false,hb,Option.bind_some,hcs,hx,hf,Option.map_some]
theorem dh {α:Type} {ls:List α} {f:α→D} {t:Tok} {sz s j:Nat} {e:A} (hg:ao ρ g=some true) (hx:x.ev ρ=.slice t s (ls.map f)) (hs:s=sz∨ls=[]) (he:bL (e.ev ρ)=some j) (hj:j≤ls.length) (hm:mv=false)
  (h:∀t',WS Γ dr l (ap ρ k (.slice t' sz ((ls.drop j).map f))) st (nx .n R)):WS Γ dr (⟨some k,g,mv,.slice sz x (some e) none none⟩::l) ρ st R:=by
 have:∃t',O.run (.slice sz x (some e) none none) ρ st=some (.slice t' sz ((ls.drop j).map f),st):=by
  apply Exists.intro
  have hb:((ls.map f).isEmpty||s==sz)=true:=by rcases hs with rfl|rfl<;>simp
  simp only[O.run,hx,Option.map_some,Option.map_none,lc,hb,if_true,he,List.length_map,Option.getD_none,Nat.le_refl,and_self,and_true,hj,List.map_drop]
  rw[List.take_of_length_le (by simp)]
 obtain⟨t',ht⟩:=this
 exact li hg rfl ht hm (h t')
theorem cg {α:Type} {ls:List α} {f:α→D} {t:Tok} {sz s j:Nat} {e:A} (hg:ao ρ g=some true) (hx:x.ev ρ=.slice t s (ls.map f)) (hs:s=sz∨ls=[]) (he:bL (e.ev ρ)=some j) (hj:j≤ls.length) (hm:mv=false)
  (h:∀t',WS Γ dr l (ap ρ k (.slice t' sz ((ls.take j).map f))) st (nx .n R)):WS Γ dr (⟨some k,g,mv,.slice sz x none (some e) none⟩::l) ρ st R:=by
 have:∃t',O.run (.slice sz x none (some e) none) ρ st=some (.slice t' sz ((ls.take j).map f),st):=by
  apply Exists.intro
  have hb:((ls.map f).isEmpty||s==sz)=true:=by rcases hs with rfl|rfl<;>simp
  simp only[O.run,hx,Option.map_some,Option.map_none,lc,hb,if_true,he,List.length_map,Option.getD_none,Nat.zero_le,and_self,and_true,hj,List.map_take,List.drop_zero,Nat.le_refl,true_and]
  rfl
 obtain⟨t',ht⟩:=this
 exact li hg rfl ht hm (h t')
theorem DN {κ:IntKind} (a b c x y z:Int):mK [.int κ a,.int κ b,.int κ c] [.int κ x,.int κ y,.int κ z] [0,1,2]=some (decide (a=x∧b=y∧c=z)):=by
 simp only[mK,List.getElem?_cons_zero,List.getElem?_cons_succ,if_true,Option.map_some,Bool.and_true,Bool.decide_and]
 congr 1
theorem aY {f:Nat→Option Box} {k:Nat} {b:Box} {cs:List D} (h:b.cs=some cs):(ap f k (some b) k).bind Box.cs=some cs:=by rw[ae];exact h
theorem eG {f:Nat→Option Box} {k j:Nat} {v:Option Box} {cs:List D} (hn:j≠k) (h:(f j).bind Box.cs=some cs):(ap f k v j).bind Box.cs=some cs:=by rw[ab _ _ hn];exact h
def D.still:D→Bool
 | .slice .fresh _ _| .slice .row _ _| .agg (.slice .fresh _ _::_)=>false
 | .tuple (.slice .fresh _ _::_)| .tuple (.slice .row _ _::_)| .tuple (.agg (.slice .fresh _ _::_)::_)=>false
 |_=>true
theorem iK {r:D} (h:r.still=true):aw mv r st=(r,st):=by
 have hA:∀v:D,(match v with| .slice .row _ _=>false|_=>true)=true→ej st mv v=(v,st):=by
  intro v hv
  cases v with
  |slice t sz xs=>cases t<;>first|rfl|simp at hv
  |_=>rfl
 unfold aw
 cases r with
 |tuple vs=>
  cases vs with
  |nil=>rfl
  |cons v vs=>
   cases v with
   |slice t sz xs=>cases t<;>first|rfl|simp[D.still]at h
   |agg cs=>
    cases cs with
    |nil=>rfl
    |cons c cs=>
     cases c with
     |slice t sz xs=>cases t<;>first|rfl|simp[D.still]at h
     |_=>rfl
   |_=>rfl
 |slice t sz xs=>cases t<;>first|rfl|simp[D.still]at h
 |agg cs=>
  cases cs with
  |nil=>rfl
  |cons c cs=>
   cases c with
   |slice t sz xs=>cases t<;>first|rfl|simp[D.still]at h
   |_=>rfl
 |_=>rfl
theorem mb {r:D} (h:r.still=true):aF r=false:=by
 cases r with
 |tuple vs=>
  cases vs with
  |nil=>rfl
  |cons v vs=>
   cases v with
   |slice t sz xs=>cases t<;>first|rfl|simp[D.still]at h
   |agg cs=>
    cases cs with
    |nil=>rfl
    |cons c cs=>
     cases c with
     |slice t sz xs=>cases t<;>first|rfl|simp[D.still]at h
     |_=>rfl
   |_=>rfl
 |slice t sz xs=>cases t<;>first|rfl|simp[D.still]at h
 |agg cs=>
  cases cs with
  |nil=>rfl
  |cons c cs=>
   cases c with
   |slice t sz xs=>cases t<;>first|rfl|simp[D.still]at h
   |_=>rfl
 |_=>rfl
theorem dE {f:A} {as:List A} {fn:Nat} {caps:List D} {r:D} (hg:ao ρ g=some true) (hf:f.ev ρ=.func fn caps) (ha:((as.map (·.ev ρ)++caps).map D.strip).all D.freeA=true) (hr:EvP Γ fn ((as.map (·.ev ρ)++caps).map D.strip) r)
  (hs:r.still=true) (hm:mv=false) (h:WS Γ dr l (ap ρ k r) st (nx .n R)):WS Γ dr (⟨some k,g,mv,.call f as⟩::l) ρ st R:=
 cx hg rfl hf ha hr (fun _=>⟨mb hs,hm⟩) (iK hs) h
theorem fF {f:A} {as:List A} {fn:Nat} {caps:List D} {t:Bool} (hg:ao ρ g=some true) (hf:f.ev ρ=.func fn caps) (ha:((as.map (·.ev ρ)++caps).map D.strip).all D.freeA=true) (hr:EvP Γ fn ((as.map (·.ev ρ)++caps).map D.strip) (.bool t))
  (hm:mv=false) (h1:t=true→WS Γ dr l (ap ρ k (.bool true)) st (nx .n R)) (h2:t=false→WS Γ dr l (ap ρ k (.bool false)) st (nx .n R)):WS Γ dr (⟨some k,g,mv,.call f as⟩::l) ρ st R:=by
 cases t with
 |true=>exact dE hg hf ha hr rfl hm (h1 rfl)
 |false=>exact dE hg hf ha hr rfl hm (h2 rfl)
def EvX (Γ:Nat→Option FD) (f:Nat) (ds:List D) (P:D→Prop):Prop:=∃r,P r∧EvP Γ f ds r
def Tok.dull:Tok→Bool
 | .own _| .fresh=>false
 |_=>true
def GQ {α:Type} (e:α→D) (sz:Nat) (ls:List α) (r:D):Prop:=∃t s,r=.slice t s (ls.map e)∧(s=sz∨ls=[])
def IsT {α:Type} (e:α→D) (sz:Nat) (ls:List α) (vs:List D) (r:D):Prop:=∃t s,r=.tuple (.slice t s (ls.map e)::vs)∧(s=sz∨ls=[])
def Au {α:Type} (e:α→D) (sz:Nat) (ls:List α) (r:D):Prop:=∃t s,r=.slice t s (ls.map e)∧(s=sz∨ls=[])∧t.dull=true
theorem jB {α:Type} {ls:List α} {s sz:Nat} (h:s=sz∨ls=[]) (h0:0<ls.length):s=sz:=by
 rcases h with h|h
 ·exact h
 ·simp[h]at h0
theorem jG {α:Type} {e:α→D} {f:A} {as:List A} {fn:Nat} {caps:List D} {sz:Nat} {xs:List α} (hg:ao ρ g=some true) (hf:f.ev ρ=.func fn caps) (ha:((as.map (·.ev ρ)++caps).map D.strip).all D.freeA=true) (hr:EvX Γ fn ((as.map (·.ev ρ)++caps).map D.strip) (GQ e sz xs))
  (hm:mv=false) (h:∀t s,(s=sz∨xs=[])→∀tk nt,WS Γ false l (ap ρ k (.slice t s (xs.map e))) {st with toks:=tk,ntok:=nt} (nx .n R)):WS Γ false (⟨some k,g,mv,.call f as⟩::l) ρ st R:=by
 subst hm
 obtain⟨r,⟨t,s,rfl,hs⟩,hr⟩:=hr
 have key:∃t' tk nt,aw false (.slice t s (xs.map e)) st=(.slice t' s (xs.map e),{st with toks:=tk,ntok:=nt}):=by
  cases t<;>exact⟨_,_,_,rfl⟩
 obtain⟨t',tk,nt,e⟩:=key
 exact cx hg rfl hf ha hr (fun h=>by cases h) e (h t' s hs tk nt)
theorem cD {α:Type} {e:α→D} {f:A} {as:List A} {fn:Nat} {caps:List D} {sz:Nat} {xs:List α} (hg:ao ρ g=some true) (hf:f.ev ρ=.func fn caps) (ha:((as.map (·.ev ρ)++caps).map D.strip).all D.freeA=true) (hr:EvX Γ fn ((as.map (·.ev ρ)++caps).map D.strip) (Au e sz xs))
  (hm:mv=false) (h:∀t s,(s=sz∨xs=[])→t.dull=true→WS Γ dr l (ap ρ k (.slice t s (xs.map e))) st (nx .n R)):WS Γ dr (⟨some k,g,mv,.call f as⟩::l) ρ st R:=by
 subst hm
 obtain⟨r,⟨t,s,rfl,hs,ht⟩,hr⟩:=hr
 have key:∃t',aw false (.slice t s (xs.map e)) st=(.slice t' s (xs.map e),st)∧t'.dull=true:=by
  cases t<;>first|(cases ht;done)|exact⟨_,rfl,rfl⟩
 obtain⟨t',e,ht'⟩:=key
 exact cx hg rfl hf ha hr (fun h=>⟨by cases t<;>first|(cases ht;done)|rfl,rfl⟩) e (h t' s hs ht')
theorem iu {α:Type} {e:α→D} {f:A} {as:List A} {fn:Nat} {caps:List D} {sz:Nat} {xs:List α} {vs:List D} (hg:ao ρ g=some true) (hf:f.ev ρ=.func fn caps) (ha:((as.map (·.ev ρ)++caps).map D.strip).all D.freeA=true) (hr:EvX Γ fn ((as.map (·.ev ρ)++caps).map D.strip) (IsT e sz xs vs))
  (hm:mv=false) (h:∀t s,(s=sz∨xs=[])→∀tk nt,WS Γ false l (ap ρ k (.tuple (.slice t s (xs.map e)::vs))) {st with toks:=tk,ntok:=nt} (nx .n R)):WS Γ false (⟨some k,g,mv,.call f as⟩::l) ρ st R:=by
 subst hm
 obtain⟨r,⟨t,s,rfl,hs⟩,hr⟩:=hr
 have key:∃t' tk nt,aw false (.tuple (.slice t s (xs.map e)::vs)) st=(.tuple (.slice t' s (xs.map e)::vs),{st with toks:=tk,ntok:=nt}):=by
  cases t<;>exact⟨_,_,_,rfl⟩
 obtain⟨t',tk,nt,e⟩:=key
 exact cx hg rfl hf ha hr (fun h=>by cases h) e (h t' s hs tk nt)
theorem eQ {d:D} (h:d.ground1=true):d.free1=true∧d.strip1=d∧d.strip=d∧a8 st d=none:=by cases d<;>simp_all[D.ground1,D.free1,D.strip1,D.strip,a8]
theorem eD {d:D} (h:d.ground=true):d.strip=d:=by
 have hc:∀cs:List D,cs.all D.ground1=true→cs.map D.strip1=cs:=fun cs h=>by
  rw[List.all_eq_true]at h
  exact(List.map_congr_left fun x hx=>(eQ (st:=Store.empty) (h x hx)).2.1).trans (List.map_id' _)
 cases d with
 |agg cs=>simp only[D.ground]at h;simp only[D.strip,hc _ h]
 |tuple vs=>
  simp only[D.ground,List.all_eq_true]at h
  simp only[D.strip]
  congr 1
  refine(List.map_congr_left fun x hx=>?_).trans (List.map_id' _)
  have:=h x hx
  cases x with
  |agg cs=>simp only at this;simp only[hc _ this]
  |_=>simp_all[D.ground1,D.strip1]
 |_=>simp_all[D.ground,D.ground1,D.strip]
theorem jw {d:D} (h:d.ground=true):d.free=true:=by
 have hc:∀cs:List D,cs.all D.ground1=true→cs.all D.free1=true:=fun cs h=>by
  rw[List.all_eq_true]at h ⊢
  exact fun x hx=>(eQ (st:=Store.empty) (h x hx)).1
 cases d with
 |agg cs=>simp only[D.ground]at h;simp only[D.free,hc _ h]
 |tuple vs=>
  simp only[D.ground,List.all_eq_true]at h
  simp only[D.free,List.all_eq_true]
  intro x hx
  have:=h x hx
  cases x with
  |agg cs=>exact hc _ this
  |_=>simp_all[D.ground1,D.free1]
 |_=>simp_all[D.ground,D.ground1,D.free,D.free1]
theorem uA {v:D} {vs:List D} (h:(D.tuple (v::vs)).ground=true):v.ground=true∧(∀w∈vs,w.ground=true):=by
 simp only[D.ground,List.all_eq_true,List.mem_cons,forall_eq_or_imp]at h
 refine⟨?_,fun w hw=>?_⟩
 ·have:=h.1
  cases v<;>simp_all[D.ground,D.ground1]
 ·have:=h.2 w hw
  cases w<;>simp_all[D.ground,D.ground1]
theorem lq {d:D} (h:d.ground=true):aU st d=d:=by
 cases d with
 |agg cs=>
  have:=eD h
  cases cs with
  |nil=>rfl
  |cons c cs=>
   simp only[D.ground,List.all_cons,Bool.and_eq_true]at h
   simp only[D.strip,List.map_cons]at this
   simp only[aU,(eQ (st:=st) h.1).2.2.2,Option.getD_none,this]
 |tuple vs=>
  have:=eD h
  simp only[aU,a8,Option.getD_none,this]
 |_=>simp_all[D.ground,D.ground1,aU,a8,D.strip]
theorem wg {r:D} (h:r.ground=true):eE st r=some r:=by
 simp only[eE,jw h,if_true,fv]
 split
 ·rename_i v vs
  obtain⟨h1,h2⟩:=uA h
  rw[lq h1]
  congr 2
  congr 1
  exact(List.map_congr_left fun x hx=>eD (h2 x hx)).trans (List.map_id' _)
 ·rw[lq h]
theorem bM {X0:X} {rs:List Rs} {r r':D} (hx:X0=.normal∨X0=.ret) (h1:aI ρ st rs=some r') (hg:r'.ground=true) (he:r'=r):(X0=.normal∨X0=.ret)∧(aI ρ st rs).bind (eE st)=some r:=by
 subst he
 exact⟨hx,by rw[h1];exact wg hg⟩
theorem aK {X0:X} {rs:List Rs} {t u:Bool} (hx:X0=.normal∨X0=.ret) (h1:aI ρ st rs=some (.bool t)) (he:t=u):(X0=.normal∨X0=.ret)∧(aI ρ st rs).bind (eE st)=some (.bool u):=bM hx h1 rfl (by rw[he])
theorem fJ {X0:X} {rs:List Rs} {κ:IntKind} {t u:Int} (hx:X0=.normal∨X0=.ret) (h1:aI ρ st rs=some (.int κ t)) (he:t=u):(X0=.normal∨X0=.ret)∧(aI ρ st rs).bind (eE st)=some (.int κ u):=bM hx h1 rfl (by rw[he])
theorem zg {t:Tok} {sz:Nat} {xs:List D}:∃t',eE st (.slice t sz xs)=some (.slice t' sz xs):=by
 simp only[eE,D.free,D.free1,if_true,fv,aU]
 cases t with
 |own k=>simp only[a8];split<;>exact⟨_,rfl⟩
 |_=>exact⟨_,rfl⟩
theorem AN {α:Type} {e:α→D} {X0:X} {rs:List Rs} {t:Tok} {sz s:Nat} {xs ys:List α} (hx:X0=.normal∨X0=.ret) (h1:aI ρ st rs=some (.slice t s (xs.map e))) (hs:s=sz∨xs=[]) (he:xs=ys):(X0=.normal∨X0=.ret)∧∃r,(aI ρ st rs).bind (eE st)=some r∧GQ e sz ys r:=by
 subst he
 obtain⟨t',e'⟩:=zg (st:=st) (t:=t) (sz:=s) (xs:=xs.map e)
 exact⟨hx,_,by rw[h1];exact e',t',s,rfl,hs⟩
theorem nh {α:Type} {e:α→D} {sz:Nat} {X0:X} {rs:List Rs} {ys:List α} {t:Tok} {s:Nat} (ht:t.dull=true) (hs:s=sz∨ys=[]) (h:(X0=.normal∨X0=.ret)∧(aI ρ st rs).bind (eE st)=some (.slice t s (ys.map e))):(X0=.normal∨X0=.ret)∧∃r,(aI ρ st rs).bind (eE st)=some r∧Au e sz ys r:=⟨h.1,_,h.2,t,s,rfl,hs,ht⟩
theorem xf {α:Type} {e:α→D} {X0:X} {rs:List Rs} {t:Tok} {sz s:Nat} {xs ys:List α} {vs us:List D} (hx:X0=.normal∨X0=.ret) (h1:aI ρ st rs=some (.tuple (.slice t s (xs.map e)::vs))) (hg:(D.tuple vs).ground=true) (hs:s=sz∨xs=[]) (he:xs=ys) (hv:vs=us):(X0=.normal∨X0=.ret)∧∃r,(aI ρ st rs).bind (eE st)=some r∧IsT e sz ys us r:=by
 subst he hv
 have hgs:∀w∈vs,w.ground=true:=fun w hw=>by
  simp only[D.ground,List.all_eq_true]at hg
  have:=hg w hw
  cases w<;>simp_all[D.ground,D.ground1]
 have hf:(D.tuple (.slice t s (xs.map e)::vs)).free=true:=by
  have:=jw hg
  simp only[D.free,List.all_cons,Bool.and_eq_true]at this ⊢
  exact⟨rfl,this⟩
 have:∃t',eE st (.tuple (.slice t s (xs.map e)::vs))=some (.tuple (.slice t' s (xs.map e)::vs)):=by
  simp only[eE,hf,if_true,fv,aU]
  rw[show vs.map D.strip=vs from(List.map_congr_left fun x hx=>eD (hgs x hx)).trans (List.map_id' _)]
  cases t with
  |own k=>simp only[a8];split<;>exact⟨_,rfl⟩
  |_=>exact⟨_,rfl⟩
 obtain⟨t',e'⟩:=this
 exact⟨hx,_,by rw[h1];exact e',t',s,rfl,hs⟩
theorem bR {f:Nat} {cf:CF} {ds:List D} {P:D→Prop} (hf:Γ f=some (.code cf)) (hro:cf.ro=true) (h:WC Γ cf.body (enter ds) Store.empty (fun x ρ1 st1=>(x=.normal∨x=.ret)∧∃r,(aI ρ1 st1 cf.res).bind (eE st1)=some r∧P r)):EvX Γ f ds P:=by
 obtain⟨x,ρ1,st1,h1,h2,r,h3,h4⟩:=h
 exact⟨r,h4,aJ hf hro ⟨x,ρ1,st1,h1,h2,h3⟩⟩
theorem aj {x:A} {a b:C} {Q:X→(Nat→D)→Store→Prop} (hx:x.ev ρ=.bool true) (h:WC Γ a ρ st Q):WC Γ (.cond x a b) ρ st Q:=Hu hx (by simpa using h)
theorem ah {x:A} {a b:C} {Q:X→(Nat→D)→Store→Prop} (hx:x.ev ρ=.bool false) (h:WC Γ b ρ st Q):WC Γ (.cond x a b) ρ st Q:=Hu hx (by simpa using h)
theorem aa {k:Nat} {v:D} (h:ρ k=v):ap ρ k v=ρ:=by
 funext i
 by_cases hi:i=k
 ·subst hi;simp[ap,h]
 ·simp[ap,hi]
end
end Go.Ev
namespace Go.Ev
theorem au {bef:List (List Nat)} {fl:List Fl} {p:Prop} (h:bB bef fl=true) (hp:p):bB bef fl=true∧p:=⟨h,hp⟩
theorem ea {x:Int} (h: -9223372036854775808≤x∧x≤9223372036854775807):IntKind.i64.wrap x=x:=IntWalk.i64_in x h
end Go.Ev
namespace Go.Ev
section
variable {Γ:Nat→Option FD} {ρ:Nat→D} {st:Store} {dr:Bool} {R:(Nat→D)→Store→List Fl→Prop} {l:List Op1} {g:Option (Nat×Bool)} {mv:Bool} {k:Option Nat}
theorem al {l:List Op1} (h:WS Γ dr l ρ st R):WS Γ dr l ρ st R:=h
end
end Go.Ev
/-
  Rules to run the evaluator's code by hand: rows of the store.
-/
namespace Go.Ev
def RowIs (st:Store) (p sz:Nat) (xs:List D):Prop:=st.lim≤p∧p<st.next∧∃cs,st.boxes p=some (.row cs)∧xs.length*sz≤cs.length∧cs.take (xs.length*sz)=xs.flatMap D.cells∧cs.all D.plain=true
def eb (sz:Nat) (d:D):Prop:=d.cells.length=sz∧d.cells.all D.plain=true
theorem bT {sz:Nat}:∀{xs:List D},(∀d∈xs,d.cells.length=sz)→(xs.flatMap D.cells).length=xs.length*sz
 |[],h=>by simp
 |d::xs,h=>by
  rw[List.flatMap_cons,List.length_append,bT (fun x hx=>h x (List.mem_cons_of_mem _ hx)),h d List.mem_cons_self,List.length_cons]
  rw[Nat.add_mul];omega
theorem nu {sz:Nat}:∀{xs:List D},(∀d∈xs,d.cells.length=sz)→∀{i:Nat} {d:D},xs[i]?=some d→((xs.flatMap D.cells).drop (i*sz)).take sz=d.cells
 |[],h,i,d,hd=>by simp at hd
 |x::xs,h,0,d,hd=>by
  simp only[List.getElem?_cons_zero,Option.some.injEq]at hd
  subst hd
  rw[List.flatMap_cons,Nat.zero_mul,List.drop_zero,List.take_append_of_le_length (by rw[h x List.mem_cons_self];exact Nat.le_refl _),List.take_of_length_le (by rw[h x List.mem_cons_self];exact Nat.le_refl _)]
 |x::xs,h,i+1,d,hd=>by
  rw[List.flatMap_cons,show (i+1)*sz=x.cells.length+i*sz by rw[h x List.mem_cons_self,Nat.add_mul];omega,List.drop_append,]
  rw[List.drop_of_length_le (by omega),List.nil_append,Nat.add_sub_cancel_left]
  exact nu (fun y hy=>h y (List.mem_cons_of_mem _ hy)) (by simpa using hd)
theorem pL {sz:Nat} {xs:List D} {cs:List D} (h:∀d∈xs,d.cells.length=sz∧sy d.cells=d) (hc:cs.take (xs.length*sz)=xs.flatMap D.cells):ct sz xs.length cs=xs:=by
 apply List.ext_getElem?
 intro i
 unfold ct
 rw[List.getElem?_map]
 by_cases hi:i<xs.length
 ·rw[List.getElem?_range hi,Option.map_some,List.getElem?_eq_getElem hi]
  congr 1
  have hx:=h xs[i] (List.getElem_mem hi)
  have h1:=nu (sz:=sz) (fun d hd=>(h d hd).1) (List.getElem?_eq_getElem hi)
  rw[←hc,List.drop_take,List.take_take]at h1
  rw[Nat.min_eq_left (by rw[←Nat.sub_mul];exact Nat.le_mul_of_pos_left _ (by omega))]at h1
  rw[h1]
  exact hx.2
 ·rw[List.getElem?_eq_none (by simpa using hi),List.getElem?_eq_none (by omega)]
  rfl
section
variable {Γ:Nat→Option FD} {ρ:Nat→D} {st:Store} {dr:Bool} {R:(Nat→D)→Store→List Fl→Prop} {l:List Op1} {g:Option (Nat×Bool)} {mv:Bool} {k:Nat} {x y i:A}
theorem RowIs.app {p sz n c bytes:Nat} {t:Tok} {s:Nat} {xs ys:List D} (hR:RowIs st p sz xs) (hn:n=xs.length) (hs:s=sz∨ys=[]) (hxs:∀d∈xs,d.cells.length=sz) (hys:∀d∈ys,eb sz d) (hb:(n+ys.length)*bytes≤140737488355328):
  ∃p' c' st',iE sz bytes (.rs p 0 sz n c) (.slice t s ys) st=some (.rs p' 0 sz (n+ys.length) c',st')∧st'.lim=st.lim∧st'.tlim=st.tlim∧st'.toks=st.toks∧st'.ntok=st.ntok∧RowIs st' p' sz (xs++ys)∧(∀q,q≠p→q<st.next→st'.boxes q=st.boxes q)∧st.next≤st'.next∧(p'=p∨st.next≤p'):=by
 subst hn
 obtain⟨hl,hp,cs,hb0,hlen,htk,hpl⟩:=hR
 have hm:lk sz (.slice t s ys) st=some (ys.flatMap D.cells,ys.length):=by
  simp only[lk]
  rw[if_pos (by rcases hs with rfl|rfl<;>simp)]
 have hyl:=bT (fun d hd=>(hys d hd).1)
 have hyp:(ys.flatMap D.cells).all D.plain=true:=by
  rw[List.all_eq_true]
  intro c hc
  obtain⟨d,hd,hcd⟩:=List.mem_flatMap.mp hc
  exact List.all_eq_true.mp (hys d hd).2 c hcd
 have hxl:=bT hxs
 have e:(xs.length+ys.length)*sz=xs.length*sz+ys.length*sz:=Nat.add_mul _ _ _
 have hlen':(xs++ys).length*sz=xs.length*sz+ys.length*sz:=by rw[List.length_append,e]
 simp only[iE,hm,Option.bind_some,hb0]
 by_cases hfit:xs.length+ys.length≤c∧0+(xs.length+ys.length)*sz≤cs.length
 ·rw[if_pos ⟨trivial,hl,by omega⟩,if_pos hfit]
  refine⟨_,_,_,rfl,rfl,rfl,rfl,rfl,⟨hl,hp,_,ae _ _ _,?_,?_,?_⟩,fun q hq _=>by simp[ap,hq],Nat.le_refl _,.inl rfl⟩
  ·simp only[List.length_append,List.length_take,List.length_drop,hyl]
   rw[Nat.add_mul]
   omega
  ·rw[hlen',Nat.zero_add,Nat.zero_add,List.flatMap_append,htk]
   rw[List.take_append_of_le_length (by rw[List.length_append,hyl,hxl];exact Nat.le_refl _),List.take_of_length_le (by rw[List.length_append,hyl,hxl];exact Nat.le_refl _)]
  ·rw[List.all_append,List.all_append,hyp,Bool.and_true]
   rw[List.all_eq_true]at hpl
   simp only[Bool.and_eq_true,List.all_eq_true]
   exact⟨fun c hc=>hpl c (List.mem_of_mem_take hc),fun c hc=>hpl c (List.mem_of_mem_drop hc)⟩
 ·rw[if_pos ⟨trivial,hl,by omega⟩,if_neg hfit,if_pos ⟨trivial,hb⟩]
  refine⟨_,_,_,rfl,rfl,rfl,rfl,rfl,⟨Nat.le_of_lt (Nat.lt_of_le_of_lt hl hp),Nat.lt_succ_self _,_,ae _ _ _,?_,?_,?_⟩,fun q hq hq2=>?_,Nat.le_succ _,.inr (Nat.le_refl _)⟩
  ·simp only[htk,List.length_append,hyl,hxl,e];exact Nat.le_refl _
  ·rw[htk,List.flatMap_append,hlen',List.take_of_length_le (by rw[List.length_append,hyl,hxl];exact Nat.le_refl _)]
  ·rw[List.all_append,hyp,Bool.and_true]
   rw[List.all_eq_true]at hpl ⊢
   exact fun c hc=>hpl c (List.mem_of_mem_take hc)
  ·simp only
   rw[ab _ _ (by omega),ab _ _ hq]
theorem rp {p sz n c bytes:Nat} {t:Tok} {s:Nat} {xs ys:List D} (hg:ao ρ g=some true) (hx:x.ev ρ=.rs p 0 sz n c) (hy:y.ev ρ=.slice t s ys) (hR:RowIs st p sz xs) (hn:n=xs.length) (hs:s=sz∨ys=[]) (hxs:∀d∈xs,d.cells.length=sz) (hys:∀d∈ys,eb sz d) (hb:(n+ys.length)*bytes≤140737488355328)
  (h:∀p' c' st',st'.lim=st.lim→st'.tlim=st.tlim→st'.toks=st.toks→st'.ntok=st.ntok→RowIs st' p' sz (xs++ys)→(∀q,q≠p→q<st.next→st'.boxes q=st.boxes q)→st.next≤st'.next→(p'=p∨st.next≤p')→WS Γ dr l (ap ρ k (.rs p' 0 sz (n+ys.length) c')) st' (nx .f R)):WS Γ dr (⟨some k,g,mv,.append sz bytes x y⟩::l) ρ st R:=by
 obtain⟨p',c',st',h1,h2,h3,h4,h5,h6,h7,h8,h9⟩:=RowIs.app (t:=t) (c:=c) hR hn hs hxs hys hb
 refine Hl hg rfl ?_ (h p' c' st' h2 h3 h4 h5 h6 h7 h8 h9)
 cases mv<;>simp only[O.runM,O.run,hx,hy,iJ,eZ,h1]
theorem ko {sz bytes s0 s:Nat} {t0 t:Tok} {xs ys:List D} (hg:ao ρ g=some true) (hx:x.ev ρ=.slice t0 s0 xs) (ht:t0=.exact∨t0=.isnil) (hs0:s0=sz∨xs=[]) (hy:y.ev ρ=.slice t s ys) (hm:mv=true) (hs:s=sz∨ys=[]) (h0:0<ys.length) (hxs:∀d∈xs,eb sz d) (hys:∀d∈ys,eb sz d) (hb:(xs.length+ys.length)*bytes≤140737488355328)
  (hl:st.lim≤st.next)
  (h:∀st',st'.lim=st.lim→st'.tlim=st.tlim→st'.toks=st.toks→st'.ntok=st.ntok→RowIs st' st.next sz (xs++ys)→(∀q,q<st.next→st'.boxes q=st.boxes q)→st'.next=st.next+1→WS Γ dr l (ap ρ k (.rs st.next 0 sz (xs.length+ys.length) (xs.length+ys.length))) st' (nx .f R)):WS Γ dr (⟨some k,g,mv,.append sz bytes x y⟩::l) ρ st R:=by
 subst hm
 have hmo:lk sz (.slice t s ys) st=some (ys.flatMap D.cells,ys.length):=by
  simp only[lk]
  rw[if_pos (by rcases hs with rfl|rfl<;>simp)]
 have hyl:=bT (fun d hd=>(hys d hd).1)
 have hxl:=bT (fun d hd=>(hxs d hd).1)
 have hpl:∀{zs:List D},(∀d∈zs,eb sz d)→(zs.flatMap D.cells).all D.plain=true:=fun hz=>by
  rw[List.all_eq_true]
  intro c hc
  obtain⟨d,hd,hcd⟩:=List.mem_flatMap.mp hc
  exact List.all_eq_true.mp (hz d hd).2 c hcd
 refine Hl (d:=.rs st.next 0 sz (xs.length+ys.length) (xs.length+ys.length)) hg rfl ?_ (h {st with boxes:=ap st.boxes st.next (some (.row (xs.flatMap D.cells++ys.flatMap D.cells))),next:=st.next+1} rfl rfl rfl rfl ⟨hl,Nat.lt_succ_self _,_,ae _ _ _,?_,?_,?_⟩ (fun q hq=>ab _ _ (by omega)) rfl)
 ·have hc:(s0=sz∨xs.isEmpty):=by rcases hs0 with h|h<;>simp[h]
  rcases ht with rfl|rfl<;>simp only[O.runM,hx,hy,iJ,hmo,Option.bind_some]<;>rw[if_pos ⟨hc,hb,h0⟩]
 ·rw[List.length_append,List.length_append,hyl,hxl,Nat.add_mul];exact Nat.le_refl _
 ·rw[List.flatMap_append,List.take_of_length_le (by rw[List.length_append,List.length_append,hyl,hxl,Nat.add_mul];exact Nat.le_refl _)]
 ·rw[List.all_append,hpl hxs,hpl hys];rfl
theorem nr {p off sz n c j:Nat} (hg:ao ρ g=some true) (hx:x.ev ρ=.rs p off sz n c) (hi:bL (i.ev ρ)=some j) (hj:j≤c) (hm:mv=false)
  (h:WS Γ dr l (ap ρ k (.rs p off sz j c)) st (nx .n R)):WS Γ dr (⟨some k,g,mv,.slice sz x none (some i) none⟩::l) ρ st R:=
 li hg rfl (by simp[O.run,hx,lc,hi,hj]) hm h
theorem nl {p off sz n c j:Nat} (hg:ao ρ g=some true) (hx:x.ev ρ=.rs p off sz n c) (hi:bL (i.ev ρ)=some j) (hj:j≤n) (hc:n≤c) (hm:mv=false)
  (h:WS Γ dr l (ap ρ k (.rs p (off+j*sz) sz (n - j) (c - j))) st (nx .n R)):WS Γ dr (⟨some k,g,mv,.slice sz x (some i) none none⟩::l) ρ st R:=
 li hg rfl (by simp[O.run,hx,lc,hi,hj,hc]) hm h
theorem xE {f:A} {as:List A} {fn:Nat} {caps:List D} {sz:Nat} {xs:List D} (hg:ao ρ g=some true) (hf:f.ev ρ=.func fn caps) (ha:((as.map (·.ev ρ)++caps).map D.strip).all D.freeA=true) (hr:EvP Γ fn ((as.map (·.ev ρ)++caps).map D.strip) (.slice .row sz xs))
  (hm:mv=true) (hd:dr=false) (hxs:∀d∈xs,eb sz d) (hl:st.lim≤st.next)
  (h:∀st',st'.lim=st.lim→st'.tlim=st.tlim→st'.toks=st.toks→st'.ntok=st.ntok→RowIs st' st.next sz xs→(∀q,q<st.next→st'.boxes q=st.boxes q)→st'.next=st.next+1→WS Γ false l (ap ρ k (.rs st.next 0 sz xs.length xs.length)) st' (nx .n R)):WS Γ dr (⟨some k,g,mv,.call f as⟩::l) ρ st R:=by
 subst hm hd
 have hxl:=bT (fun d hd=>(hxs d hd).1)
 refine cx hg rfl hf ha hr (fun h=>by cases h) rfl (h {st with boxes:=ap st.boxes st.next (some (.row (xs.flatMap D.cells))),next:=st.next+1} rfl rfl rfl rfl ⟨hl,Nat.lt_succ_self _,_,ae _ _ _,?_,?_,?_⟩ (fun q hq=>ab _ _ (by omega)) rfl)
 ·rw[hxl];exact Nat.le_refl _
 ·rw[List.take_of_length_le (by rw[hxl];exact Nat.le_refl _)]
 ·rw[List.all_eq_true]
  intro c hc
  obtain⟨d,hd,hcd⟩:=List.mem_flatMap.mp hc
  exact List.all_eq_true.mp (hxs d hd).2 c hcd
theorem vI {f:A} {as:List A} {fn:Nat} {caps:List D} {r:D} (hg:ao ρ g=some true) (hf:f.ev ρ=.func fn caps) (ha:((as.map (·.ev ρ)++caps).map D.strip).all D.freeA=true) (hr:EvP Γ fn ((as.map (·.ev ρ)++caps).map D.strip) r)
  (hs:r.still=true) (h:WS Γ false l (ap ρ k r) st (nx .n R)):WS Γ false (⟨some k,g,mv,.call f as⟩::l) ρ st R:=
 cx hg rfl hf ha hr (fun h=>by cases h) (iK hs) h
theorem oi {X0:X} {rs:List Rs} {p sz n c:Nat} {xs:List D} (hx:X0=.normal∨X0=.ret) (h1:aI ρ st rs=some (.rs p 0 sz n c)) (hn:n=xs.length) (h0:0<sz) (hR:RowIs st p sz xs) (hxs:∀d∈xs,d.cells.length=sz∧sy d.cells=d):(X0=.normal∨X0=.ret)∧(aI ρ st rs).bind (eE st)=some (.slice .row sz xs):=by
 subst hn
 obtain⟨hl,hp,cs,hb0,hlen,htk,hpl⟩:=hR
 refine⟨hx,?_⟩
 rw[h1]
 simp only[Option.bind_some,eE,D.free,D.free1,Bool.false_eq_true,if_false,Cf,eR,hb0]
 rw[if_pos ⟨trivial,hlen,h0,hpl⟩,pL hxs htk]
end
end Go.Ev
/-
  More fuel changes nothing.
-/
namespace Go.Ev
variable {Γ:Nat→Option FD}
theorem EY {n:Nat} {f:Nat} {ds:List D} {st:Store} {x:D×Store} (h:aQ Γ n f ds st=some x) (hall:(ds.map D.strip).all D.freeA=true) (m:Nat) (es:List D):aM Γ m f es=none:=by
 cases n with
 |zero=>simp[aQ]at h
 |succ n=>
  cases m with
  |zero=>rfl
  |succ m=>
   simp only[aQ]at h
   split at h
   ·rename_i cf hf
    split at h
    ·first|(rw[if_pos hall]at h;cases h)|cases h
    ·rename_i hro
     simp only[aM,hf,hro];rfl
   ·rename_i F hf
    simp only[aM,hf]
   ·cases h
theorem yM {n:Nat} {f:Nat} {ds:List D} {st:Store} {x:D×Store} (h:aQ Γ n f ds st=some x) (m:Nat) (hP:∀f ds r,aM Γ (n - 1) f ds=some r→aM Γ (m - 1) f ds=some r):bs Γ m f ds st=none:=by
 cases n with
 |zero=>simp[aQ]at h
 |succ n=>
  cases m with
  |zero=>rfl
  |succ m=>
   simp only[aQ]at h
   split at h
   ·rename_i cf hf
    split at h
    ·split at h
     ·cases h
     rename_i hnf
     split at h
     ·rename_i hfz
      simp only[Bool.and_eq_true]at hfz
      split at h
      ·rename_i r0 hr0
       split at h
       ·cases h
       rename_i hap
       simp only[bs]
       have hP:=hP _ _ _ hr0
       simp only[Nat.add_sub_cancel]at hP
       rw[if_neg hnf,if_pos hfz.1.1,if_pos hfz.1.2,hP]
       simp only[hap]
       rfl
      ·cases h
     ·cases h
    ·rename_i hro
     simp only[bs]
     split
     ·cases m with
      |zero=>rfl
      |succ m=>simp only[aM,hf,hro];rfl
     split
     ·split
      ·cases m with
       |zero=>rfl
       |succ m=>simp only[aM,hf,hro];rfl
      ·rfl
     ·simp only[hf,hro];rfl
   ·rename_i F hf
    simp only[bs]
    split
    ·cases m with
     |zero=>rfl
     |succ m=>simp only[aM,hf]
    split
    ·split
     ·cases m with
      |zero=>rfl
      |succ m=>simp only[aM,hf]
     ·rfl
    ·simp only[hf]
   ·cases h
theorem mono (n:Nat):(∀f ds r,aM Γ n f ds=some r→aM Γ (n+1) f ds=some r)∧(∀f ds st r,bs Γ n f ds st=some r→bs Γ (n+1) f ds st=some r)∧(∀f ds st r,aQ Γ n f ds st=some r→aQ Γ (n+1) f ds st=some r)∧
  (∀d l ρ st r,bt Γ n d l ρ st=some r→bt Γ (n+1) d l ρ st=some r)∧(∀l ρ st r,bp Γ n l ρ st=some r→bp Γ (n+1) l ρ st=some r)∧(∀c ρ st r,aW Γ n c ρ st=some r→aW Γ (n+1) c ρ st=some r):=by
 induction n using Nat.strongRecOn with
 |_ n IH=>
 cases n with
 |zero=>
  refine⟨fun f ds r h=>by simp[aM]at h,fun f ds st r h=>by simp[bs]at h,fun f ds st r h=>by simp[aQ]at h,fun d l ρ st r h=>?_,fun l ρ st r h=>?_,fun c ρ st r h=>by simp[aW]at h⟩
  ·cases l with
   |nil=>simpa[bt]using h
   |cons=>simp[bt]at h
  ·cases l with
   |nil=>simpa[bp]using h
   |cons=>simp[bp]at h
 |succ n=>
  obtain⟨iP,iRO,iRW,iO,iD,iC⟩:=IH n (Nat.lt_succ_self n)
  have iQ:∀f ds r,aM Γ (n - 1) f ds=some r→aM Γ (n+1 - 1) f ds=some r:=by
   cases n with
   |zero=>intro f ds r h;simp[aM]at h
   |succ k=>exact(IH k (by omega)).1
  refine⟨fun f ds r h=>?_,fun f ds st r h=>?_,fun f ds st r h=>?_,fun d l ρ st r h=>?_,fun l ρ st r h=>?_,fun c ρ st r h=>?_⟩
  ·rw[aM]at h ⊢
   split at h
   ·rename_i cf hf
    split at h
    ·rename_i hro
     rw[if_pos hro]
     cases hr:aW Γ n cf.body (enter ds) Store.empty with
     |none=>rw[hr]at h;cases h
     |some y=>rw[iC _ _ _ _ hr];rw[hr]at h;exact h
    ·cases h
   ·rename_i F hf;exact h
   ·cases h
  ·rw[bs]at h ⊢
   split at h
   ·rename_i ha
    rw[if_pos ha]
    exact iP _ _ _ h
   ·rename_i ha
    rw[if_neg ha]
    split at h
    ·rename_i hse
     rw[if_pos hse]
     split at h
     ·rename_i hse2
      rw[if_pos hse2]
      cases hp:aM Γ n f (ds.map (seen st))with
      |none=>rw[hp]at h;cases h
      |some y=>rw[iP _ _ _ hp];rw[hp]at h;exact h
     ·cases h
    rename_i hse
    rw[if_neg hse]
    split at h
    ·rename_i cf hf
     split at h
     ·rename_i hro
      rw[if_pos hro]
      cases hr:aW Γ n cf.body (enter (ds.map D.strip)) {st with lim:=st.next,tlim:=st.ntok}with
      |none=>rw[hr]at h;cases h
      |some y=>rw[iC _ _ _ _ hr];rw[hr]at h;exact h
     ·cases h
    ·exact h
    ·cases h
  ·rw[aQ]at h ⊢
   split at h
   ·rename_i cf hf
    split at h
    ·rename_i hro
     rw[if_pos hro]
     split at h
     ·cases h
     rename_i hnf
     rw[if_neg hnf]
     split at h
     ·rename_i hfz
      rw[if_pos hfz]
      cases hp:aM Γ n f (ds.map (seen st))with
      |none=>rw[hp]at h;cases h
      |some y=>rw[iP _ _ _ hp];rw[hp]at h;exact h
     ·cases h
    ·rename_i hro
     rw[if_neg hro]
     cases hr:aW Γ n cf.body (enter (ds.map D.strip)) st with
     |none=>rw[hr]at h;cases h
     |some y=>rw[iC _ _ _ _ hr];rw[hr]at h;exact h
   ·exact h
   ·cases h
  ·cases l with
   |nil=>simpa[bt]using h
   |cons o l=>
    rw[bt]at h ⊢
    split at h
    ·cases h
    ·exact iO _ _ _ _ _ h
    ·rename_i hgx
     clear hgx
     obtain⟨dst,gd,mv,op⟩:=o
     simp only at h ⊢
     cases op
     case call fa args=>
      simp only at h ⊢
      cases hfa:fa.ev ρ with
      |func f caps=>
       rw[hfa]at h
       simp only at h ⊢
       cases hro:bs Γ n f (args.map (·.ev ρ)++caps) st with
       |some r1=>
        rw[iRO _ _ _ _ hro]
        rw[hro]at h
        simp only at h ⊢
        split at h
        ·rename_i d' st' he
         try rw[he]
         exact iO _ _ _ _ _ h
        ·cases h
       |none=>
        rw[hro]at h
        simp only at h
        cases d with
        |true=>simp at h
        |false=>
         simp only[Bool.false_eq_true,if_false]at h
         cases hrw:aQ Γ n f (args.map (·.ev ρ)++caps) st with
         |none=>rw[hrw]at h;cases h
         |some y=>
          rw[yM hrw (n+1) iQ]
          simp only[Bool.false_eq_true,if_false]
          rw[iRW _ _ _ _ hrw]
          rw[hrw]at h
          exact iO _ _ _ _ _ h
      |_=>rw[hfa]at h;cases h
     all_goals
      simp only at h ⊢
      split at h
      ·rename_i d' st' he
       try rw[he]
       exact iO _ _ _ _ _ h
      ·cases h
  ·cases l with
   |nil=>simpa[bp]using h
   |cons o l=>
    rw[bp]at h ⊢
    have hD:∀(ρ':Nat→D) (st':Store) (fl:Fl),(match bp Γ n l ρ' st' with|some (a,b,c)=>some (a,b,fl::c)|none=>none)=some r→(match bp Γ (n+1) l ρ' st' with|some (a,b,c)=>some (a,b,fl::c)|none=>none)=some r:=fun ρ' st' fl h=>by
     cases hr:bp Γ n l ρ' st' with
     |none=>rw[hr]at h;cases h
     |some y=>rw[iD _ _ _ _ hr];rw[hr]at h;exact h
    split at h
    ·cases h
    ·exact hD _ _ _ h
    ·rename_i hgx
     clear hgx
     obtain⟨dst,gd,mv,op⟩:=o
     simp only at h ⊢
     cases op
     case call fa args=>
      simp only at h ⊢
      cases hfa:fa.ev ρ with
      |func f caps=>
       rw[hfa]at h
       simp only at h ⊢
       by_cases ha:((args.map (·.ev ρ)++caps).map D.strip).all D.freeA=true
       ·rw[if_pos ha]at h ⊢
        cases hp:aM Γ n f ((args.map (·.ev ρ)++caps).map D.strip)with
        |none=>
         rw[hp]at h
         simp only at h
         cases hrw:aQ Γ n f (args.map (·.ev ρ)++caps) st with
         |none=>rw[hrw]at h;cases h
         |some y=>
          rw[EY hrw ha (n+1)]
          simp only
          rw[iRW _ _ _ _ hrw]
          rw[hrw]at h
          exact hD _ _ _ h
        |some r1=>
         rw[iP _ _ _ hp]
         rw[hp]at h
         simp only at h ⊢
         by_cases hf:aF r1=true
         ·rw[if_pos hf]at h ⊢
          by_cases hw:(mv&&(r1.free&& !dS r1))=true
          ·rw[if_pos hw]at h ⊢
           exact hD _ _ _ h
          ·rw[if_neg hw]at h;cases h
         ·rw[if_neg hf]at h ⊢
          by_cases hw:(mv&&dS r1)=true
          ·rw[if_pos hw]at h ⊢
           exact hD _ _ _ h
          ·rw[if_neg hw]at h ⊢
           exact hD _ _ _ h
       ·rw[if_neg ha]at h ⊢
        by_cases hmv:mv=true
        ·rw[if_pos hmv]at h ⊢
         cases hcut:lG (args.map (·.ev ρ)++caps)with
         |none=>
          rw[hcut]at h
          simp only at h ⊢
          cases hcn:qZ (args.map (·.ev ρ)++caps)with
          |none=>rw[hcn]at h;cases h
          |some y=>
           obtain⟨p,ps⟩:=y
           rw[hcn]at h
           simp only at h ⊢
           cases hp:aQ Γ n f (args.map (·.ev ρ)++caps) (lx st p ps)with
           |none=>rw[hp]at h;cases h
           |some y=>
            obtain⟨r1,C1⟩:=y
            rw[iRW _ _ _ _ hp]
            rw[hp]at h
            simp only at h ⊢
            by_cases hf:gz r1=true
            ·rw[if_pos hf]at h ⊢
             exact hD _ _ _ h
            ·rw[if_neg hf]at h ⊢
             cases hnr:fA st C1 r1 with
             |none=>rw[hnr]at h;cases h
             |some d=>rw[hnr]at h;exact hD _ _ _ h
         |some y=>
          obtain⟨p,ps⟩:=y
          rw[hcut]at h
          simp only at h ⊢
          by_cases hro:Av Γ f=true
          ·rw[if_pos hro]at h
           rw[if_pos hro]
           by_cases hc:((((args.map (·.ev ρ)++caps).map (seen st)).all D.freeA&&fI st (args.map (·.ev ρ)++caps))=true)
           ·rw[if_pos hc]at h ⊢
            cases hp:aM Γ n f ((args.map (·.ev ρ)++caps).map (seen st))with
            |none=>rw[hp]at h;cases h
            |some r1=>
             rw[iP _ _ _ hp]
             rw[hp]at h
             simp only at h ⊢
             by_cases hf:(r1.free&& !dS r1)=true
             ·rw[if_pos hf]at h ⊢
              exact hD _ _ _ h
             ·rw[if_neg hf]at h;cases h
           ·rw[if_neg hc]at h;cases h
          ·rw[if_neg hro]at h
           by_cases hc:jh st p ps=true
           ·rw[if_pos hc]at h
            cases hp:aQ Γ n f (args.map (·.ev ρ)++caps) (jO st p ps)with
            |none=>rw[hp]at h;cases h
            |some y=>
             obtain⟨r1,C1⟩:=y
             rw[if_neg hro,if_pos hc,iRW _ _ _ _ hp]
             rw[hp]at h
             simp only at h ⊢
             by_cases hf:oc r1 p=true
             ·rw[if_pos hf]at h ⊢
              exact hD _ _ _ h
             ·rw[if_neg hf]at h;cases h
           ·rw[if_neg hc]at h;cases h
        rw[if_neg hmv]at h ⊢
        cases hro:bs Γ n f (args.map (·.ev ρ)++caps) st with
        |some r1=>
         rw[iRO _ _ _ _ hro]
         rw[hro]at h
         simp only at h ⊢
         by_cases hf:aF r1=true
         ·rw[if_pos hf]at h;cases h
         ·rw[if_neg hf]at h ⊢
          exact hD _ _ _ h
        |none=>
         rw[hro]at h
         simp only at h
         cases hrw:aQ Γ n f (args.map (·.ev ρ)++caps) st with
         |none=>rw[hrw]at h;cases h
         |some y=>
          rw[yM hrw (n+1) iQ]
          simp only
          rw[iRW _ _ _ _ hrw]
          rw[hrw]at h
          exact hD _ _ _ h
      |_=>rw[hfa]at h;cases h
     all_goals
      simp only at h ⊢
      split at h
      ·rename_i d' st' a b he
       try rw[he]
       exact hD _ _ _ h
      ·cases h
  ·rw[aW.eq_def]at h ⊢
   simp only at h ⊢
   cases c with
   |skip|exit|ret|goto|bad=>exact h
   |ops d l=>
    simp only at h ⊢
    cases hr:bt Γ n d l ρ st with
    |none=>rw[hr]at h;cases h
    |some y=>rw[iO _ _ _ _ _ hr];rw[hr]at h;exact h
   |draw bef l=>
    simp only at h ⊢
    cases hr:bp Γ n l ρ st with
    |none=>rw[hr]at h;cases h
    |some y=>rw[iD _ _ _ _ hr];rw[hr]at h;exact h
   |drawA bef l=>
    simp only at h ⊢
    cases hr:bp Γ n (gM st.next l) ρ (st.ahead l)with
    |none=>rw[hr]at h;cases h
    |some y=>rw[iD _ _ _ _ hr];rw[hr]at h;exact h
   |seq a b=>
    simp only at h ⊢
    cases hr:aW Γ n a ρ st with
    |none=>rw[hr]at h;cases h
    |some y=>
     rw[iC _ _ _ _ hr]
     rw[hr]at h
     obtain⟨x,ρ1,st1⟩:=y
     cases x with
     |normal=>exact iC _ _ _ _ h
     |_=>exact h
   |cond x a b=>
    simp only at h ⊢
    split at h
    ·exact iC _ _ _ _ h
    ·cases h
   |block id b=>
    simp only at h ⊢
    cases hr:aW Γ n b ρ st with
    |none=>rw[hr]at h;cases h
    |some y=>rw[iC _ _ _ _ hr];rw[hr]at h;exact h
   |loop b=>
    simp only at h ⊢
    cases hr:aW Γ n b ρ st with
    |none=>rw[hr]at h;cases h
    |some y=>
     rw[iC _ _ _ _ hr]
     rw[hr]at h
     obtain⟨x,ρ1,st1⟩:=y
     cases x with
     |normal=>exact iC _ _ _ _ h
     |_=>exact h
   |scope c l rest=>
    simp only at h ⊢
    cases hr:aW Γ n c ρ st with
    |none=>rw[hr]at h;cases h
    |some y=>
     rw[iC _ _ _ _ hr]
     rw[hr]at h
     obtain⟨x,ρ1,st1⟩:=y
     cases x with
     |goto l'=>
      simp only at h ⊢
      split at h
      ·rename_i hl
       rw[if_pos hl]
       exact iC _ _ _ _ h
      ·cases h
     |_=>exact h
   |again l rest=>
    simp only at h ⊢
    cases hr:aW Γ n rest ρ st with
    |none=>rw[hr]at h;cases h
    |some y=>
     rw[iC _ _ _ _ hr]
     rw[hr]at h
     obtain⟨x,ρ1,st1⟩:=y
     cases x with
     |goto l'=>
      simp only at h ⊢
      split at h
      ·rename_i hl
       rw[if_pos hl]
       exact iC _ _ _ _ h
      ·cases h
     |_=>exact h
theorem nv {N f:Nat} {ds:List D} {r:D} (h:aM Γ N f ds=some r):EvP Γ f ds r:=by
 refine⟨N,fun n hn=>?_⟩
 induction n with
 |zero=>rw[Nat.le_zero.mp hn]at h;exact h
 |succ n ih=>
  rcases Nat.lt_or_eq_of_le hn with hlt|rfl
  ·exact(mono n).1 _ _ _ (ih (by omega))
  ·exact h
end Go.Ev
/-
  Rules to run the evaluator's code by hand: more of calls.
-/
namespace Go.Ev
section
variable {Γ:Nat→Option FD} {ρ:Nat→D} {st:Store} {dr:Bool} {R:(Nat→D)→Store→List Fl→Prop} {l:List Op1} {g:Option (Nat×Bool)} {mv:Bool} {k:Nat} {x y:A}
end
end Go.Ev
/-
  Rules to run the evaluator's code by hand: forgetting the slots that are read no more.
-/
namespace Go.Ev
section
variable {Γ:Nat→Option FD} {c a b:C} {ρ:Nat→D} {st:Store} {Q:X→(Nat→D)→Store→Prop} {g:(Nat→D)→Nat→D}
end
end Go.Ev
/-
  Rules to run the evaluator's code by hand: rows that are written to in place, rows of the caller's.
-/
namespace Go.Ev
theorem uj {c:D} (h:c.plain=true):c.strip1=c:=(jD h).2
theorem xo {cs:List D} (h:cs.all D.plain=true):cs.map D.strip1=cs:=by
 rw[List.all_eq_true]at h
 exact(List.map_congr_left fun x hx=>uj (h x hx)).trans (List.map_id' _)
theorem HG {cs:List D} {sz i:Nat} {xs:List D} {x:D} (hc:cs.take (xs.length*sz)=xs.flatMap D.cells) (hxs:∀d∈xs,d.cells.length=sz) (hx:xs[i]?=some x):(cs.drop (i*sz)).take sz=x.cells:=by
 have hi:i<xs.length:=(List.getElem?_eq_some_iff.mp hx).1
 have h1:=nu hxs hx
 rw[←hc,List.drop_take,List.take_take]at h1
 rwa[Nat.min_eq_left (by rw[←Nat.sub_mul];exact Nat.le_mul_of_pos_left _ (by omega))]at h1
theorem DE {cs:List D} {sz i:Nat} {xs ys:List D} (hlen:xs.length*sz≤cs.length) (hc:cs.take (xs.length*sz)=xs.flatMap D.cells) (hxs:∀d∈xs,d.cells.length=sz) (hx:xs[i]?=some (.agg ys)):cut true sz (i*sz) cs=some (.agg ys):=by
 have hi:i<xs.length:=(List.getElem?_eq_some_iff.mp hx).1
 unfold cut
 have h1:=HG hc hxs hx
 have h2:i*sz+sz≤xs.length*sz:=by rw[←Nat.succ_mul];exact Nat.mul_le_mul_right _ hi
 rw[if_pos (by omega),if_pos rfl,h1]
 rfl
def RowAt (st:Store) (p sz:Nat) (xs:List D):Prop:=∃cs,st.boxes p=some (.row cs)∧xs.length*sz≤cs.length∧cs.take (xs.length*sz)=xs.flatMap D.cells∧cs.all D.plain=true
theorem RowIs.at{st:Store} {p sz:Nat} {xs:List D} (h:RowIs st p sz xs):RowAt st p sz xs:=h.2.2
theorem RowAt.of {st st':Store} {p sz:Nat} {xs:List D} (h:RowAt st p sz xs) (hb:st'.boxes p=st.boxes p):RowAt st' p sz xs:=by
 obtain⟨cs,h1,h2⟩:=h
 exact⟨cs,hb.trans h1,h2⟩
theorem RowIs.of {st st':Store} {p sz:Nat} {xs:List D} (h:RowIs st p sz xs) (hl:st'.lim≤p) (hn:p<st'.next) (hb:st'.boxes p=st.boxes p):RowIs st' p sz xs:=⟨hl,hn,h.at.of hb⟩
theorem RowAt.pre {st:Store} {p sz:Nat} {xs ys:List D} (h:RowAt st p sz (xs++ys)) (hxs:∀d∈xs,d.cells.length=sz):RowAt st p sz xs:=by
 obtain⟨cs,h1,h2,h3,h4⟩:=h
 have e:(xs++ys).length*sz=xs.length*sz+ys.length*sz:=by rw[List.length_append,Nat.add_mul]
 refine⟨cs,h1,by omega,?_,h4⟩
 have:=congrArg (List.take (xs.length*sz)) h3
 rw[List.take_take,e,Nat.min_eq_left (by omega),List.flatMap_append,List.take_append_of_le_length (by rw[bT hxs];exact Nat.le_refl _),List.take_of_length_le (l:=xs.flatMap D.cells) (by rw[bT hxs];exact Nat.le_refl _)]at this
 exact this
theorem uU {sz:Nat}:∀{xs:List D},(∀d∈xs,d.cells.length=sz)→∀{i:Nat} {x:D},x.cells.length=sz→i<xs.length→((xs.set i x).flatMap D.cells)=(xs.flatMap D.cells).take (i*sz)++x.cells++(xs.flatMap D.cells).drop (i*sz+sz)
 |[],h,i,x,hx,hi=>by simp at hi
 |d::xs,h,0,x,hx,hi=>by
  have hd:=h d List.mem_cons_self
  simp only[List.set_cons_zero,List.flatMap_cons,Nat.zero_mul,List.take_zero,List.nil_append,Nat.zero_add]
  rw[List.drop_append,List.drop_of_length_le (by omega),List.nil_append,hd,Nat.sub_self,List.drop_zero]
 |d::xs,h,i+1,x,hx,hi=>by
  have hd:=h d List.mem_cons_self
  have ih:=uU (fun y hy=>h y (List.mem_cons_of_mem _ hy)) hx (show i<xs.length by simpa using hi)
  have e:(i+1)*sz=d.cells.length+i*sz:=by rw[Nat.add_mul,hd];omega
  have e2:(i+1)*sz+sz=d.cells.length+(i*sz+sz):=by rw[e];omega
  have t1:(d.cells++xs.flatMap D.cells).take ((i+1)*sz)=d.cells++(xs.flatMap D.cells).take (i*sz):=by rw[e,List.take_length_add_append]
  have t2:(d.cells++xs.flatMap D.cells).drop ((i+1)*sz+sz)=(xs.flatMap D.cells).drop (i*sz+sz):=by rw[e2,List.drop_length_add_append]
  simp only[List.set_cons_succ,List.flatMap_cons]
  rw[ih,t1,t2]
  simp only[List.append_assoc]
section
variable {Γ:Nat→Option FD} {ρ:Nat→D} {st:Store} {dr:Bool} {R:(Nat→D)→Store→List Fl→Prop} {l:List Op1} {g:Option (Nat×Bool)} {mv:Bool} {k:Nat} {x y a i:A}
theorem aH {p off sz j:Nat} {xs ys:List D} (hg:ao ρ g=some true) (hx:x.ev ρ=.ptr p off) (hR:RowAt st p sz xs) (ho:off=j*sz) (hxs:∀d∈xs,d.cells.length=sz) (hj:xs[j]?=some (.agg ys)) (hm:mv=false)
  (h:WS Γ dr l (ap ρ k (.agg ys)) st (nx (.r p) R)):WS Γ dr (⟨some k,g,mv,.load true sz x⟩::l) ρ st R:=by
 obtain⟨cs,h1,h2,h3,h4⟩:=hR
 have hb:(st.boxes p).bind Box.cs=some cs:=by rw[h1];rfl
 have hc:=DE h2 h3 hxs hj
 subst ho
 by_cases hl:p<st.lim
 ·exact fT hg hm hx hb hl (by rw[xo h4];exact hc) h
 ·exact ai hg hm hx hb (Nat.le_of_not_lt hl) hc h
theorem ck {p off sz j:Nat} {xs ys:List D} (hg:ao ρ g=some true) (ha:a.ev ρ=.ptr p off) (hx:x.ev ρ=.agg ys) (hR:RowIs st p sz xs) (ho:off=j*sz) (hxs:∀d∈xs,d.cells.length=sz) (hj:j<xs.length) (hys:ys.length=sz) (hpl:ys.all D.plain=true) (hm:mv=false)
  (h:∀st',st'.lim=st.lim→st'.tlim=st.tlim→st'.toks=st.toks→st'.ntok=st.ntok→st'.next=st.next→RowIs st' p sz (xs.set j (.agg ys))→(∀q,q≠p→st'.boxes q=st.boxes q)→WS Γ dr l ρ st' (nx (.w p) R)):WS Γ dr (⟨none,g,mv,.store sz a x⟩::l) ρ st R:=by
 obtain⟨hl,hp,cs,h1,h2,h3,h4⟩:=hR
 subst ho
 have hsz:j*sz+sz≤xs.length*sz:=by rw[←Nat.succ_mul];exact Nat.mul_le_mul_right _ hj
 have hone:ys.all D.one=true:=by
  rw[List.all_eq_true]at hpl ⊢
  exact fun c hc=>D.plain_one (hpl c hc)
 refine am (cs':=cs.take (j*sz)++ys++cs.drop (j*sz+sz)) hg ha h1 rfl hl hx ?_ hm (h _ rfl rfl rfl rfl rfl ⟨hl,hp,_,ae _ _ _,?_,?_,?_⟩ (fun q hq=>ab _ _ hq))
 ·simp only[jt]
  rw[if_pos (show (D.agg ys).cells.length=sz∧j*sz+sz≤cs.length∧(D.agg ys).cells.all D.one=true from⟨hys,by omega,hone⟩)]
  rfl
 ·simp only[List.length_set,List.length_append,List.length_take,List.length_drop,hys]
  omega
 ·rw[List.length_set,uU hxs (x:=.agg ys) hys hj,←h3]
  have e1:(cs.take (xs.length*sz)).take (j*sz)=cs.take (j*sz):=by rw[List.take_take,Nat.min_eq_left (by omega)]
  have e2:(cs.take (xs.length*sz)).drop (j*sz+sz)=(cs.drop (j*sz+sz)).take (xs.length*sz - (j*sz+sz)):=by rw[List.drop_take]
  rw[e1,e2,List.take_append,List.take_of_length_le (by simp[hys];omega)]
  congr 2
  simp[hys]
  omega
 ·rw[List.all_append,List.all_append,hpl,Bool.and_true]
  rw[List.all_eq_true]at h4
  simp only[Bool.and_eq_true,List.all_eq_true]
  exact⟨fun c hc=>h4 c (List.mem_of_mem_take hc),fun c hc=>h4 c (List.mem_of_mem_drop hc)⟩
theorem qp {p off sz n c j:Nat} {zero xs zs:List D} (hg:ao ρ g=some true) (hx:x.ev ρ=.rs p off sz n c) (hR:RowIs st p sz (xs++zs)) (ho:off=j*sz) (hj:j=xs.length) (hn:n=zs.length) (hxs:∀d∈xs,d.cells.length=sz) (hz:zero.length=sz) (hzp:zero.all D.plain=true) (hm:mv=false)
  (h:∀st',st'.lim=st.lim→st'.tlim=st.tlim→st'.toks=st.toks→st'.ntok=st.ntok→st'.next=st.next→RowIs st' p sz xs→(∀q,q≠p→st'.boxes q=st.boxes q)→WS Γ dr l ρ st' (nx .f R)):WS Γ dr (⟨none,g,mv,.clear zero x⟩::l) ρ st R:=by
 subst hm
 obtain⟨hl,hp,hA⟩:=hR
 have hA':=RowAt.pre hA hxs
 obtain⟨cs,h1,h2,h3,h4⟩:=hA
 obtain⟨cs',h1',h2',h3',_⟩:=hA'
 rw[h1]at h1'
 cases h1'
 subst ho hj hn
 have e:(xs++zs).length*sz=xs.length*sz+zs.length*sz:=by rw[List.length_append,Nat.add_mul]
 by_cases h0:zs.length=0
 ·refine Hl (d:=.undef) (st1:=st) hg rfl (by simp[O.runM,O.run,hx,h0]) (h st rfl rfl rfl rfl rfl ⟨hl,hp,cs,h1,h2',h3',h4⟩ (fun _ _=>rfl))
 ·refine Hl (d:=.undef) (st1:={st with boxes:=ap st.boxes p (some (.row (cs.take (xs.length*sz)++(List.replicate zs.length zero).flatten++cs.drop (xs.length*sz+zs.length*sz))))}) hg rfl ?_ (h _ rfl rfl rfl rfl rfl ⟨hl,hp,_,ae _ _ _,?_,?_,?_⟩ (fun q hq=>ab _ _ hq))
  ·simp only[O.runM,O.run,hx,h0,if_false,Nat.not_lt.mpr hl,h1,Option.bind_some,Box.cs,Box.set]
   rw[if_pos ⟨by omega,hz⟩]
  ·simp only[List.length_append,List.length_take]
   omega
  ·rw[List.append_assoc,List.take_append_of_le_length (by simp;omega),List.take_of_length_le (by simp;omega),h3']
  ·rw[List.all_append,List.all_append]
   rw[List.all_eq_true]at h4
   simp only[Bool.and_eq_true,List.all_eq_true]
   refine⟨⟨fun c hc=>h4 c (List.mem_of_mem_take hc),fun c hc=>?_⟩,fun c hc=>h4 c (List.mem_of_mem_drop hc)⟩
   obtain⟨z,hz1,hz2⟩:=List.mem_flatten.mp hc
   rw[(List.mem_replicate.mp hz1).2]at hz2
   exact List.all_eq_true.mp hzp c hz2
theorem dM {f:A} {as:List A} {fn:Nat} {caps:List D} {r:D} (hg:ao ρ g=some true) (hf:f.ev ρ=.func fn caps) (ha:((as.map (·.ev ρ)++caps).map D.strip).all D.freeA=false) (hr:EvRO Γ fn (as.map (·.ev ρ)++caps) st r)
  (hs:r.still=true) (hm:mv=false) (h:WS Γ dr l (ap ρ k r) st (nx .c R)):WS Γ dr (⟨some k,g,mv,.call f as⟩::l) ρ st R:=
 sC hg rfl hf ha hr (fun _=>⟨mb hs,hm⟩) (iK hs) h
theorem oO {f:A} {as:List A} {fn:Nat} {caps:List D} {t:Bool} (hg:ao ρ g=some true) (hf:f.ev ρ=.func fn caps) (ha:((as.map (·.ev ρ)++caps).map D.strip).all D.freeA=false) (hr:EvRO Γ fn (as.map (·.ev ρ)++caps) st (.bool t))
  (hm:mv=false) (h1:t=true→WS Γ dr l (ap ρ k (.bool true)) st (nx .c R)) (h2:t=false→WS Γ dr l (ap ρ k (.bool false)) st (nx .c R)):WS Γ dr (⟨some k,g,mv,.call f as⟩::l) ρ st R:=by
 cases t with
 |true=>exact dM hg hf ha hr rfl hm (h1 rfl)
 |false=>exact dM hg hf ha hr rfl hm (h2 rfl)
theorem Bw {f:A} {as:List A} {fn:Nat} {caps:List D} {r:D} {st1:Store} (hg:ao ρ g=some true) (hf:f.ev ρ=.func fn caps) (ha:((as.map (·.ev ρ)++caps).map D.strip).all D.freeA=false) (hr:EvRW Γ fn (as.map (·.ev ρ)++caps) st r st1)
  (h:WS Γ dr l (ap ρ k r) st1 (nx .f R)) (hmv:dr=true→mv=false:=by first|exact fun _=>rfl|exact fun h=>nomatch h):WS Γ dr (⟨some k,g,mv,.call f as⟩::l) ρ st R:=
 cp hg rfl hf hr h hmv
end
end Go.Ev
/-
  slices.Clone, as something known: it asks whether the slice is nil, which the evaluator's data doesn't say of an empty one.
-/
namespace Go.Ev
open Go.RowKit
variable {P:Program} {Γ:Nat→Option FD} {B:Nat} {w:World} {g:Ghost} {st:Store}
theorem nK (hk:Known P Γ) (hm:P.follows .mixedOrders=true) {f:Nat} {cf:CF} {ds:List D} {r:D} (hf:Γ f=some (.code cf)) (h:EvP Γ f ds r) {vs:Array Value} (hrel:Rel B w g st) (hv':VRs w ⟨g.S,fun _=>none,fun _=>none⟩ ds vs.toList):Hj P f∧Calls P f vs w (ei B w g st r):=by
 obtain⟨N,hN⟩:=h.get
 cases N with
 |zero=>simp[aM]at hN
 |succ n=>
 have ih:=o8 (P:=P) hk hm n
 simp only[aM,hf]at hN
 have hko:aG P f cf.ro cf.mv=some cf:=hk f _ hf
 obtain⟨fn,c,h1,h2,h3,h4,h5⟩:=dm hko
 refine⟨h3,?_⟩
 split at hN<;>try contradiction
 have hst0:Rel w.heap.size w ⟨g.S,fun _=>none,fun _=>none⟩ Store.empty:=⟨Nat.le_refl _,hrel.S,fun l x hx=>by simp[Store.empty]at hx,fun l l' b x x' hx=>by simp[Store.empty]at hx,fun t r ht=>by simp[Store.empty]at ht,fun t t' r r' ht=>by simp[Store.empty]at ht,fun t r l b x ht=>by simp[Store.empty]at ht,fun l hl=>rfl,fun t ht=>rfl,fun l b hl=>by simp at hl,Nat.le_refl _,Nat.le_refl _⟩
 have fin:∀(x:X) (ρ1:Nat→D) (st1:Store),x=.normal∨x=.ret→aW Γ n cf.body (enter ds) Store.empty=some (x,ρ1,st1)→
   ((aI ρ1 st1 cf.res).bind (eE st1))=some r→Calls P f vs w (ei B w g st r):=by
  intro x ρ1 st1 hx hrun hres
  refine calls_of_wp h1 h2 (wp_mono (ih.code hrun h4 (EnvR.enter_ hv' _) (by simp;omega) hst0) (fun e a' w' he=>?_))
  obtain⟨k1,k2,k3,g1,k4,k5⟩:=he
  obtain⟨r0,hr0,hfr⟩:=Option.bind_eq_some_iff.1 hres
  obtain⟨v,q1,q2⟩:=eh h5 hr0 k4 k5.rel
  have hR:=B9 (g0:=⟨g.S,fun _=>none,fun _=>none⟩) hrel rfl k5 q2 hfr
  rcases hx with rfl|rfl<;>subst k1<;>exact⟨k2,v,q1,hR⟩
 split at hN<;>try contradiction
 ·rename_i ρ1 st1 hrun
  exact fin _ ρ1 st1 (.inl rfl) hrun hN
 ·rename_i ρ1 st1 hrun
  exact fin _ ρ1 st1 (.inr rfl) hrun hN
def lL (sz bytes:Nat):CF:=⟨8,[.tmp 2],true,[7],.seq (.ops false [⟨some 2,none,false,.mov (.lit (.slice .isnil 0 []))⟩])
 (.seq (.seq (.ops false [⟨some 3,none,false,.mov (.tmp 0)⟩,⟨some 4,none,false,.eqlS false (.tmp 3)⟩]) (.cond (.tmp 4) (.seq (.ops false [⟨some 2,none,false,.mov (.lit (.slice .isnil 0 []))⟩]) .ret) .skip))
   (.seq (.ops false [⟨some 5,none,false,.bslice sz []⟩,⟨some 6,none,false,.mov (.tmp 0)⟩,⟨some 7,none,true,.append sz bytes (.tmp 5) (.tmp 6)⟩,⟨some 2,none,false,.mov (.tmp 7)⟩]) .ret))⟩
def gk (sz bytes:Nat):List D→Option D
 |[.slice _ s xs]=>if xs.isEmpty then some (.slice .no sz [])else if s=sz∧xs.length*bytes≤140737488355328∧xs.all (fun d=>d.cells.length==sz&&d.cells.all D.plain&&(match d.cells with|[c]=>(match d with| .agg _=>false|_=>true)|_=>(match d with| .agg _=>true|_=>false)))=true then some (.slice .row sz xs)else none
 |_=>none
theorem ET {d:D} (h:(match d.cells with|[c]=>(match d with| .agg _=>false|_=>true)|_=>(match d with| .agg _=>true|_=>false))=true):sy d.cells=d:=by
 cases d with
 |agg cs=>
  simp only[D.cells]at h ⊢
  cases cs with
  |nil=>rfl
  |cons c cs=>cases cs with
   |nil=>simp at h
   |cons=>rfl
 |_=>rfl
theorem Ar {f sz bytes:Nat} (hf:Γ f=some (.code (lL sz bytes))) (h0:0<sz) {t:Tok} {xs:List D} (hx:xs≠[]) (ht:t≠.isnil∧t≠.nonnil) (hb:xs.length*bytes≤140737488355328) (hxs:∀d∈xs,eb sz d∧sy d.cells=d):EvP Γ f [.slice t sz xs] (.slice .row sz xs):=by
 refine aJ hf rfl ?_
 refine He (Ir (aB (v:=.slice _ _ _) rfl rfl rfl (Hd (He (He (Ir (aB (v:=.slice t sz xs) rfl rfl rfl ?_)))))))
 have e:∀ρ:Nat→D,ρ 3=.slice t sz xs→O.run (.eqlS false (.tmp 3)) ρ Store.empty=some (.bool false,Store.empty):=fun ρ h=>by
  simp only[O.run,A.ev,h]
  cases xs with
  |nil=>exact absurd rfl hx
  |cons x xs=>
   cases t<;>first|exact absurd rfl ht.1|exact absurd rfl ht.2|simp[h0]
 refine li (d:=.bool false) rfl rfl (e _ rfl) rfl (Hd (ah rfl (Hg (He (Ir ?_)))))
 refine bg (ys:=[]) rfl rfl rfl (by simp) rfl ?_
 refine aB (v:=.slice t sz xs) rfl rfl rfl ?_
 refine ko (t0:=.exact) (s0:=sz) (xs:=[]) rfl rfl (.inl rfl) (.inl rfl) rfl rfl (.inl rfl) (List.length_pos_iff.mpr hx) (by simp) (fun d hd=>(hxs d hd).1) (by simpa using hb) (Nat.zero_le _) ?_
 intro st' _ _ _ _ hR _ _
 refine aB (v:=.rs _ _ _ _ _) rfl rfl rfl (Hd (an ?_))
 exact oi (.inr rfl) rfl (by simp) h0 hR (fun d hd=>⟨(hxs d hd).1.1,(hxs d hd).2⟩)
theorem qx {f sz bytes:Nat} (hf:Γ f=some (.code (lL sz bytes))):EvP Γ f [.slice .nonnil sz []] (.slice .exact sz []):=by
 refine aJ hf rfl ?_
 refine He (Ir (aB (v:=.slice _ _ _) rfl rfl rfl (Hd (He (He (Ir (aB (v:=.slice _ _ _) rfl rfl rfl ?_)))))))
 refine li (d:=.bool false) rfl rfl rfl rfl (Hd (ah rfl (Hg (He (Ir ?_)))))
 refine bg (ys:=[]) rfl rfl rfl (by simp) rfl ?_
 refine aB (v:=.slice _ _ _) rfl rfl rfl ?_
 refine Hl (d:=.slice .exact sz []) (st1:=Store.empty) rfl rfl (by simp[O.runM,A.ev,ap,iJ,lk]) ?_
 refine aB (v:=.slice _ _ _) rfl rfl rfl (Hd (an ?_))
 exact⟨.inr rfl,rfl⟩
theorem nq (hm:P.follows .mixedOrders=true) {f sz bytes:Nat} (hcf:aG P f true [7]=some (lL sz bytes)) (h0:0<sz) (hnil:∀(w:World) (cap:Nat),Calls P f #[.slice none 0 cap] w (fun e w'=>e=.returned (.slice none 0 0)∧w'=w)):PrimOK P f (gk sz bytes):=by
 let Γ0:Nat→Option FD:=fun k=>if k=f then some (.code (lL sz bytes))else none
 have hΓ:Γ0 f=some (.code (lL sz bytes)):=by simp[Γ0]
 have hk:Known P Γ0:=fun k fd h=>by
  simp only[Γ0]at h
  split at h
  ·rename_i hkf
   cases h
   subst hkf
   exact hcf
  ·cases h
 refine⟨(dm hcf).choose_spec.choose_spec.2.2.1,?_⟩
 intro B w g st ds vs r hrel hv hF
 unfold gk at hF
 split at hF<;>try contradiction
 rename_i t s xs
 obtain⟨vl⟩:=vs
 have hlen:vl.length=1:=hv.1.symm
 obtain⟨v,rfl⟩:=List.length_eq_one_iff.mp hlen
 have hvv:=hv.2 0 _ _ rfl rfl
 split at hF
 ·rename_i he
  cases hF
  have hx:xs=[]:=List.isEmpty_iff.mp he
  subst hx
  obtain⟨A,cap,vals,rfl,hc,htk,hs,hA,hvs⟩:=hvv.slice_inv
  cases A with
  |none=>
   refine(hnil w cap).mono fun e w' h=>?_
   obtain⟨rfl,rfl⟩:=h
   refine⟨_,rfl,Same.refl _ _ _,fun mv=>⟨g,?_,?_⟩⟩
   ·exact .slice .no sz [] none 0 0 (fun _ _=>default) rfl (Nat.le_refl _) trivial (by simp) (by simp) (by simp)
   ·exact Step.refl hrel
  |some ad=>
   have hv':VRs w ⟨g.S,fun _=>none,fun _=>none⟩ [D.slice .nonnil sz []] (#[Value.slice (some ad) ([]:List D).length cap]:Array Value).toList:=⟨rfl,fun j d v h1 h2=>by
    cases j with
    |zero=>
     simp at h1 h2
     subst h1 h2
     exact .slice .nonnil sz [] (some ad) 0 cap (fun _ _=>default) rfl (Nat.zero_le _) (by simp[TokOK]) (by simp) (by simp) (by simp)
    |succ j=>simp at h1⟩
   refine(nK hk hm hΓ (qx hΓ) hrel hv').2.mono fun e w' h=>?_
   obtain⟨v,rfl,hsame,hmv⟩:=h
   refine⟨v,rfl,hsame,fun mv=>?_⟩
   obtain⟨g',h1,h2⟩:=hmv mv
   exact⟨g',h1.slice_to (fun _ _ h=>h) (fun _ _ _=>trivial),h2⟩
 ·rename_i he
  split at hF<;>try contradiction
  rename_i hcond
  cases hF
  obtain⟨rfl,hb,hall⟩:=hcond
  have hxs:∀d∈xs,eb s d∧sy d.cells=d:=fun d hd=>by
   have:=List.all_eq_true.mp hall d hd
   simp only[Bool.and_eq_true,beq_iff_eq]at this
   exact⟨⟨this.1.1,this.1.2⟩,ET this.2⟩
  have hx:xs≠[]:=fun h=>he (by simp[h])
  have hv':VRs w ⟨g.S,fun _=>none,fun _=>none⟩ [D.slice .no s xs] (#[v]:Array Value).toList:=⟨rfl,fun j d v h1 h2=>by
   cases j with
   |zero=>
    simp at h1 h2
    subst h1 h2
    exact hvv.slice_to (fun _ _ h=>h) (fun _ _ _=>trivial)
   |succ j=>simp at h1⟩
  exact(nK hk hm hΓ (Ar hΓ h0 hx (by simp) hb hxs) hrel hv').2
end Go.Ev
/-
  Rules to run the evaluator's code by hand: what is handed back is a row, or nothing.
-/
namespace Go.Ev
def PK {α:Type} (e:α→D) (sz:Nat) (st:Store) (d:D) (xs:List α):Prop:=(xs=[]∧∃t s,d=.slice t s []∧(t=.isnil∨t=.no∨t=.exact))∨∃q n c,n=xs.length∧d=.rs q 0 sz n c∧RowIs st q sz (xs.map e)
def IsR {α:Type} (e:α→D) (sz:Nat) (xs:List α) (r:D):Prop:=(xs=[]∧∃t s,r=.slice t s []∧(t=.isnil∨t=.no∨t=.exact))∨r=.slice .row sz (xs.map e)
theorem IsR.n {α:Type} {e:α→D} {sz:Nat} {xs:List α} {r:D} (h:IsR e sz xs r):Au e sz xs r:=by
 rcases h with⟨rfl,t,s,rfl,ht⟩|rfl
 ·exact⟨t,s,rfl,.inr rfl,by rcases ht with rfl|rfl|rfl<;>rfl⟩
 ·exact⟨.row,sz,rfl,.inl rfl,rfl⟩
theorem EvX.mono {Γ:Nat→Option FD} {fn:Nat} {as:List D} {P Q:D→Prop} (h:EvX Γ fn as P) (hpq:∀r,P r→Q r):EvX Γ fn as Q:=by
 obtain⟨r,h1,h2⟩:=h
 exact⟨r,hpq r h1,h2⟩
theorem PK.of {α:Type} {e:α→D} {sz:Nat} {st st':Store} {d:D} {xs:List α} (h:PK e sz st d xs) (hl:st'.lim≤st.lim) (hn:st.next≤st'.next) (hb:∀q,q<st.next→st'.boxes q=st.boxes q):PK e sz st' d xs:=by
 rcases h with h|⟨q,n,c,h1,h2,hR⟩
 ·exact .inl h
 ·have hq:=hR.2.1
  exact .inr ⟨q,n,c,h1,h2,hR.of (Nat.le_trans hl hR.1) (Nat.lt_of_lt_of_le hq hn) (hb q hq)⟩
theorem mo {st:Store} {sz:Nat} {xs:List D} (hxs:∀d∈xs,eb sz d) (hl:st.lim≤st.next):RowIs {st with boxes:=ap st.boxes st.next (some (.row (xs.flatMap D.cells))),next:=st.next+1} st.next sz xs:=by
 have hxl:=bT (fun d hd=>(hxs d hd).1)
 refine⟨hl,Nat.lt_succ_self _,_,ae _ _ _,?_,?_,?_⟩
 ·rw[hxl];exact Nat.le_refl _
 ·rw[List.take_of_length_le (by rw[hxl];exact Nat.le_refl _)]
 ·rw[List.all_eq_true]
  intro c hc
  obtain⟨d,hd,hcd⟩:=List.mem_flatMap.mp hc
  exact List.all_eq_true.mp (hxs d hd).2 c hcd
section
variable {Γ:Nat→Option FD} {ρ:Nat→D} {st:Store} {dr:Bool} {R:(Nat→D)→Store→List Fl→Prop} {l:List Op1} {g:Option (Nat×Bool)} {mv:Bool} {k:Nat} {x y i:A}
theorem Dh {α:Type} {e:α→D} {f:A} {as:List A} {fn:Nat} {caps:List D} {sz:Nat} {xs:List α} (hg:ao ρ g=some true) (hf:f.ev ρ=.func fn caps) (ha:((as.map (·.ev ρ)++caps).map D.strip).all D.freeA=true) (hr:EvX Γ fn ((as.map (·.ev ρ)++caps).map D.strip) (IsR e sz xs))
  (hm:mv=true) (hd:dr=false) (he:∀x,eb sz (e x)) (hl:st.lim≤st.next)
  (h:∀st' d,st'.lim=st.lim→st'.tlim=st.tlim→st'.toks=st.toks→st'.ntok=st.ntok→PK e sz st' d xs→(∀q,q<st.next→st'.boxes q=st.boxes q)→st.next≤st'.next→WS Γ false l (ap ρ k d) st' (nx .n R)):WS Γ dr (⟨some k,g,mv,.call f as⟩::l) ρ st R:=by
 subst hm hd
 obtain⟨r,hR,hr⟩:=hr
 rcases hR with⟨rfl,t,s,rfl,ht⟩|rfl
 ·have hab:aw true (.slice t s []) st=(.slice t s [],st):=by rcases ht with rfl|rfl|rfl<;>rfl
  exact cx hg rfl hf ha hr (fun h=>by cases h) hab (h st _ rfl rfl rfl rfl (.inl ⟨rfl,t,s,rfl,ht⟩) (fun _ _=>rfl) (Nat.le_refl _))
 ·have hxs:∀d∈xs.map e,eb sz d:=fun d hd=>by
   obtain⟨a,_,rfl⟩:=List.mem_map.mp hd
   exact he a
  exact cx hg rfl hf ha hr (fun h=>by cases h) rfl (h {st with boxes:=ap st.boxes st.next (some (.row ((xs.map e).flatMap D.cells))),next:=st.next+1} _ rfl rfl rfl rfl (.inr ⟨_,_,_,List.length_map _,rfl,mo hxs hl⟩) (fun q hq=>ab _ _ (by omega)) (Nat.le_succ _))
theorem BH {α:Type} {e:α→D} {f:A} {as:List A} {fn:Nat} {caps:List D} {sz:Nat} {xs:List α} (hg:ao ρ g=some true) (hf:f.ev ρ=.func fn caps) (ha:((as.map (·.ev ρ)++caps).map D.strip).all D.freeA=true) (hr:EvX Γ fn ((as.map (·.ev ρ)++caps).map D.strip) (IsR e sz xs))
  (hm:mv=true) (hd:dr=true) (he:∀x,eb sz (e x)) (hl:st.lim≤st.next)
  (h:∀st' d fl,(fl=.n∨fl=.a st.next)→st'.lim=st.lim→st'.tlim=st.tlim→st'.toks=st.toks→st'.ntok=st.ntok→PK e sz st' d xs→(∀q,q<st.next→st'.boxes q=st.boxes q)→st.next≤st'.next→WS Γ true l (ap ρ k d) st' (nx fl R)):WS Γ dr (⟨some k,g,mv,.call f as⟩::l) ρ st R:=by
 subst hm hd
 obtain⟨r,hR,hr⟩:=hr
 rcases hR with⟨rfl,t,s,rfl,ht⟩|rfl
 ·have hab:aw false (.slice t s []) st=(.slice t s [],st):=by rcases ht with rfl|rfl|rfl<;>rfl
  exact sx hg rfl hf ha hr (by rcases ht with rfl|rfl|rfl<;>rfl) (by rcases ht with rfl|rfl|rfl<;>rfl) hab (h st _ .n (.inl rfl) rfl rfl rfl rfl (.inl ⟨rfl,t,s,rfl,ht⟩) (fun _ _=>rfl) (Nat.le_refl _))
 ·have hxs:∀d∈xs.map e,eb sz d:=fun d hd=>by
   obtain⟨a,_,rfl⟩:=List.mem_map.mp hd
   exact he a
  exact tv hg rfl hf ha hr rfl rfl rfl rfl (h {st with boxes:=ap st.boxes st.next (some (.row ((xs.map e).flatMap D.cells))),next:=st.next+1} _ (.a st.next) (.inr rfl) rfl rfl rfl rfl (.inr ⟨_,_,_,List.length_map _,rfl,mo hxs hl⟩) (fun q hq=>ab _ _ (by omega)) (Nat.le_succ _))
theorem tX {α:Type} {e:α→D} {sz:Nat} {X0:X} {rs:List Rs} {d:D} {xs ys:List α} (hx:X0=.normal∨X0=.ret) (h1:aI ρ st rs=some d) (hP:PK e sz st d xs) (h0:0<sz) (hxs:∀a,(e a).cells.length=sz∧sy (e a).cells=e a) (he:xs=ys):(X0=.normal∨X0=.ret)∧∃r,(aI ρ st rs).bind (eE st)=some r∧IsR e sz ys r:=by
 subst he
 rcases hP with⟨rfl,t,s,rfl,ht⟩|⟨q,n,c,hn,rfl,hR⟩
 ·refine⟨hx,.slice t s [],?_,.inl ⟨rfl,t,s,rfl,ht⟩⟩
  rw[h1]
  rcases ht with rfl|rfl|rfl<;>rfl
 ·obtain⟨h2,h3⟩:=oi hx h1 (by rw[List.length_map];exact hn) h0 hR (fun d hd=>by
   obtain⟨a,_,rfl⟩:=List.mem_map.mp hd
   exact hxs a)
  exact⟨h2,_,h3,.inr rfl⟩
end
def Fl.onlyR:Fl→Bool
 | .n| .r _| .c=>true
 |_=>false
theorem vn {a b:Fl} (ha:Fl.onlyR a=true) (hb:Fl.onlyR b=true):a.clash b=false:=by
 cases a<;>cases b<;>first|rfl|(simp[Fl.onlyR]at ha;done)|(simp[Fl.onlyR]at hb;done)
theorem aE {bef:List (List Nat)} {fl:List Fl} (h:fl.all Fl.onlyR=true):bB bef fl=true:=by
 unfold bB
 rw[List.all_eq_true]at h ⊢
 intro j hj
 rw[List.all_eq_true]
 intro i hi
 have hj':=List.mem_range.mp hj
 have hi':=List.mem_range.mp hi
 rw[List.getElem?_eq_getElem (show i<fl.length by omega),List.getElem?_eq_getElem hj']
 simp only
 rw[vn (h _ (List.getElem_mem _)) (h _ (List.getElem_mem _))]
 simp
theorem qo {α:Type} {e:α→D} {sz q n c:Nat} {st:Store} {xs:List α} (hR:RowAt st q sz (xs.map e)) (hn:n=xs.length) (hz:0<sz) (he:∀a,(e a).cells.length=sz∧sy (e a).cells=e a):seen st (.rs q 0 sz n c)=.slice .no sz (xs.map e):=by
 subst hn
 obtain⟨cs,hb,hlen,htk,hpl⟩:=hR
 rw[List.length_map]at hlen htk
 simp only[seen,hb,Nat.zero_add,List.drop_zero]
 rw[if_pos ⟨hlen,hz,hpl⟩]
 have:=pL (sz:=sz) (xs:=xs.map e) (cs:=cs) (fun d hd=>by
  obtain⟨a,_,rfl⟩:=List.mem_map.mp hd
  exact he a) (by rw[List.length_map];exact htk)
 rw[List.length_map]at this
 rw[this]
def Ele (sz:Nat) (d:D):Prop:=d.cells.length=sz∧d.cells.all D.ground1=true∧(match d.cells with|[c]=>(match d with| .agg _=>false|_=>true)|_=>(match d with| .agg _=>true|_=>false))=true
theorem Ele.k {sz:Nat} {d:D} (h:Ele sz d):d.cells.length=sz∧sy d.cells=d:=⟨h.1,sk h.2.2⟩
section
variable {Γ:Nat→Option FD} {ρ:Nat→D} {st:Store} {dr:Bool} {R:(Nat→D)→Store→List Fl→Prop} {l:List Op1} {g:Option (Nat×Bool)} {mv:Bool} {k:Nat} {x y i:A}
end
theorem yY {Γ:Nat→Option FD} {α:Type} {e:α→D} {f sz bytes:Nat} (hΓ:Γ f=some (.prim (gk sz bytes))) (ls:List α) {t:Tok} {s:Nat} (hs:s=sz∨ls=[]) (hb:ls.length*bytes≤140737488355328) (he:∀a,eb sz (e a)∧(match (e a).cells with|[c]=>(match e a with| .agg _=>false|_=>true)|_=>(match e a with| .agg _=>true|_=>false))=true):EvX Γ f [.slice t s (ls.map e)] (IsR e sz ls):=by
 by_cases h:ls=[]
 ·subst h
  exact⟨_,.inl ⟨rfl,.no,sz,rfl,.inr (.inl rfl)⟩,gV hΓ (by simp[gk])⟩
 ·rcases hs with rfl|hs
  ·refine⟨_,.inr rfl,gV hΓ ?_⟩
   have hall:((ls.map e).all (fun d=>d.cells.length==s&&d.cells.all D.plain&&(match d.cells with|[c]=>(match d with| .agg _=>false|_=>true)|_=>(match d with| .agg _=>true|_=>false))))=true:=by
    rw[List.all_eq_true]
    intro d hd
    obtain⟨a,_,rfl⟩:=List.mem_map.mp hd
    simp only[(he a).1.1,(he a).1.2,(he a).2,beq_self_eq_true,Bool.and_self]
   simp only[gk]
   rw[if_neg (by simpa using h),if_pos ⟨trivial,by simpa using hb,hall⟩]
  ·exact absurd hs h
end Go.Ev
/-
  Rules to run the evaluator's code by hand: append to a slice of the function's own.
-/
namespace Go.Ev
def ft (st:Store) (sz:Nat) (t:Tok) (s:Nat) (xs:List D):Prop:=((t=.isnil∨t=.exact)∧(s=sz∨(s=0∧xs=[])))∨(∃k,t=.own k∧st.toks k=true∧st.tlim≤k∧s=sz)
section
variable {Γ:Nat→Option FD} {ρ:Nat→D} {st:Store} {dr:Bool} {R:(Nat→D)→Store→List Fl→Prop} {l:List Op1} {g:Option (Nat×Bool)} {mv:Bool} {k:Nat} {x y:A}
theorem oZ {sz bytes s s2:Nat} {t t2:Tok} {xs ys:List D} (hg:ao ρ g=some true) (hx:x.ev ρ=.slice t s xs) (hy:y.ev ρ=.slice t2 s2 ys) (hO:ft st sz t s xs) (hs:s2=sz∨ys=[]) (hb:(xs.length+ys.length)*bytes≤140737488355328) (hl:st.tlim≤st.ntok) (hm:mv=false)
  (h:∀k' st',st'.boxes=st.boxes→st'.next=st.next→st'.lim=st.lim→st'.tlim=st.tlim→st'.tlim≤st'.ntok→st'.toks k'=true→st'.tlim≤k'→WS Γ dr l (ap ρ k (.slice (.own k') sz (xs++ys))) st' (nx .t R)):WS Γ dr (⟨some k,g,mv,.append sz bytes x y⟩::l) ρ st R:=by
 subst hm
 have h2:(ys.isEmpty||s2==sz)=true:=by rcases hs with rfl|rfl<;>simp
 rcases hO with⟨ht,hs1⟩|⟨k0,rfl,htk,hlk,rfl⟩
 ·have h1:(s==sz||(xs.isEmpty&&s==0))=true:=by rcases hs1 with rfl|⟨rfl,rfl⟩<;>simp
  refine Hl (d:=.slice (.own st.ntok) sz (xs++ys)) (st1:={st with toks:=ap st.toks st.ntok true,ntok:=st.ntok+1}) hg rfl ?_ (h st.ntok _ rfl rfl rfl rfl (Nat.le_succ_of_le hl) (ae _ _ _) hl)
  rcases ht with rfl|rfl<;>simp only[O.runM,O.run,hx,hy,eZ,h1,h2,decide_eq_true hb,Bool.and_self,if_true]
 ·refine Hl (d:=.slice (.own st.ntok) s (xs++ys)) (st1:={st with toks:=ap (ap st.toks k0 false) st.ntok true,ntok:=st.ntok+1}) hg rfl ?_ (h st.ntok _ rfl rfl rfl rfl (Nat.le_succ_of_le hl) (ae _ _ _) hl)
  simp only[O.runM,O.run,hx,hy,eZ,beq_self_eq_true,Bool.true_or,h2,decide_eq_true hb,Bool.and_self,if_true,htk,decide_eq_true hlk]
end
end Go.Ev
/-
  Rules to run the evaluator's code by hand: labels.
-/
namespace Go.Ev
section
variable {Γ:Nat→Option FD} {ρ:Nat→D} {st:Store} {Q:X→(Nat→D)→Store→Prop}
theorem yn {l:Nat} (h:Q (.goto l) ρ st):WC Γ (.goto l) ρ st Q:=⟨_,_,_,.all fun n=>by simp[aW],h⟩
theorem p9 {c rest:C} {l:Nat} (h:WC Γ c ρ st (fun x ρ1 st1=>match x with| .goto l'=>l'=l∧WC Γ (.again l rest) ρ1 st1 Q|x=>Q x ρ1 st1)):WC Γ (.scope c l rest) ρ st Q:=by
 obtain⟨x,ρ1,st1,h1,h2⟩:=h
 cases x with
 |goto l'=>
  obtain⟨rfl,y,ρ2,st2,h3,h4⟩:=h2
  exact⟨y,ρ2,st2,h1.and h3 fun n p q=>by simp only[aW,p,if_true];exact q,h4⟩
 |_=>exact⟨_,ρ1,st1,h1.one fun n p=>by simp only[aW,p],h2⟩
theorem vF {rest:C} {l:Nat} (h:WC Γ rest ρ st (fun x ρ1 st1=>match x with| .goto l'=>l'=l∧WC Γ (.again l rest) ρ1 st1 Q|x=>Q x ρ1 st1)):WC Γ (.again l rest) ρ st Q:=by
 obtain⟨x,ρ1,st1,h1,h2⟩:=h
 cases x with
 |goto l'=>
  obtain⟨rfl,y,ρ2,st2,h3,h4⟩:=h2
  exact⟨y,ρ2,st2,h1.and h3 fun n p q=>by simp only[aW,p,if_true];exact q,h4⟩
 |_=>exact⟨_,ρ1,st1,h1.one fun n p=>by simp only[aW,p],h2⟩
end
theorem vD {sz bytes:Nat} {st st':Store} {p off n c:Nat} {y d:D} (h:iE sz bytes (.rs p off sz n c) y st=some (d,st')):∃p' o' n' c',d=.rs p' o' sz n' c'∧n'≤c':=by
 simp only[iE]at h
 obtain⟨⟨ys,m⟩,h1,h2⟩:=Option.bind_eq_some_iff.1 h
 simp only at h2
 split at h2<;>try contradiction
 split at h2<;>try contradiction
 split at h2
 ·rename_i hc
  simp only[Option.some.injEq,Prod.mk.injEq]at h2
  exact⟨_,_,_,_,h2.1.symm,hc.1⟩
 ·split at h2<;>try contradiction
  simp only[Option.some.injEq,Prod.mk.injEq]at h2
  exact⟨_,_,_,_,h2.1.symm,Nat.le_refl _⟩
def EvRWX (Γ:Nat→Option FD) (f:Nat) (ds:List D) (st:Store) (P:D→Store→Prop):Prop:=∃r st',P r st'∧EvRW Γ f ds st r st'
theorem aR {Γ:Nat→Option FD} {st:Store} {f:Nat} {cf:CF} {ds:List D} {P:D→Store→Prop} (hf:Γ f=some (.code cf)) (hro:cf.ro=false)
  (h:WC Γ cf.body (enter (ds.map D.strip)) st (fun x ρ1 st1=>(x=.normal∨x=.ret)∧∃r,aI ρ1 st1 cf.res=some r∧P r.strip st1)):EvRWX Γ f ds st P:=by
 obtain⟨x,ρ1,st1,h1,h2,r,h3,h4⟩:=h
 exact⟨r.strip,st1,h4,j9 hf hro ⟨x,ρ1,st1,h1,h2,by rw[h3];rfl⟩⟩
theorem EvRWX.mono {Γ:Nat→Option FD} {st:Store} {f:Nat} {ds:List D} {P P':D→Store→Prop} (h:EvRWX Γ f ds st P) (hp:∀r st',P r st'→P' r st'):EvRWX Γ f ds st P':=by
 obtain⟨r,st',h1,h2⟩:=h
 exact⟨r,st',hp _ _ h1,h2⟩
section
variable {Γ:Nat→Option FD} {ρ:Nat→D} {st:Store} {dr:Bool} {R:(Nat→D)→Store→List Fl→Prop} {l:List Op1} {g:Option (Nat×Bool)} {mv:Bool} {k:Nat} {x:A}
theorem a7 {P:D→Store→Prop} {f:A} {as:List A} {fn:Nat} {caps:List D} (hg:ao ρ g=some true) (hf:f.ev ρ=.func fn caps) (ha:((as.map (·.ev ρ)++caps).map D.strip).all D.freeA=false) (hr:EvRWX Γ fn (as.map (·.ev ρ)++caps) st P)
  (h:∀r st1,P r st1→WS Γ dr l (ap ρ k r) st1 (nx .f R)) (hmv:dr=true→mv=false:=by first|exact fun _=>rfl|exact fun h=>nomatch h):WS Γ dr (⟨some k,g,mv,.call f as⟩::l) ρ st R:=by
 obtain⟨r,st1,h1,h2⟩:=hr
 exact Bw hg hf ha h2 (h r st1 h1) hmv
theorem cn {t:Tok} {s:Nat} (hg:ao ρ g=some true) (hx:x.ev ρ=.slice t s []) (hm:mv=false) (h:WS Γ dr l (ap ρ k (.int .i64 0)) st (nx .n R)):WS Γ dr (⟨some k,g,mv,.lenS x⟩::l) ρ st R:=by
 subst hm
 exact Hl (d:=.int .i64 0) hg rfl (by simp[O.runM,O.run,hx]) h
theorem jm {P:D→Store→Prop} {f:A} {as:List A} {fn:Nat} {caps:List D} (hg:ao ρ g=some true) (hf:f.ev ρ=.func fn caps) (hr:EvRWX Γ fn (as.map (·.ev ρ)++caps) st P)
  (h:∀r st1,P r st1→WS Γ dr l (ap ρ k r) st1 (nx .f R)) (hmv:dr=true→mv=false:=by first|exact fun _=>rfl|exact fun h=>nomatch h):WS Γ dr (⟨some k,g,mv,.call f as⟩::l) ρ st R:=by
 obtain⟨r,st1,h1,h2⟩:=hr
 exact cp hg rfl hf h2 (h r st1 h1) hmv
theorem sW {y:A} {p sz n c bytes:Nat} {t:Tok} {s:Nat} {xs ys:List D} (hg:ao ρ g=some true) (hx:x.ev ρ=.rs p 0 sz n c) (hy:y.ev ρ=.slice t s ys) (hR:RowIs st p sz xs) (hn:n=xs.length) (hs:s=sz∨ys=[]) (hxs:∀d∈xs,d.cells.length=sz) (hys:∀d∈ys,eb sz d) (hb:(n+ys.length)*bytes≤140737488355328)
  (h:∀p' c' st',st'.lim=st.lim→st'.tlim=st.tlim→st'.toks=st.toks→st'.ntok=st.ntok→RowIs st' p' sz (xs++ys)→(∀q,q≠p→q<st.next→st'.boxes q=st.boxes q)→st.next≤st'.next→(p'=p∨st.next≤p')→n+ys.length≤c'→WS Γ dr l (ap ρ k (.rs p' 0 sz (n+ys.length) c')) st' (nx .f R)):WS Γ dr (⟨some k,g,mv,.append sz bytes x y⟩::l) ρ st R:=by
 obtain⟨p',c',st',h1,h2,h3,h4,h5,h6,h7,h8,h9⟩:=RowIs.app (t:=t) (c:=c) hR hn hs hxs hys hb
 obtain⟨_,_,_,_,he,hle⟩:=vD h1
 cases he
 refine Hl hg rfl ?_ (h p' c' st' h2 h3 h4 h5 h6 h7 h8 h9 hle) ?_
 ·cases mv<;>simp only[O.runM,O.run,hx,hy,iJ,eZ,h1]
 ·cases mv<;>simp[O.acc,hx,hy]
theorem aP {p off:Nat} (hg:ao ρ g=some true) (hx:x.ev ρ=.ptr p off) (h:WS Γ dr l (ap ρ k (.ptr p off)) st (nx .n R)):WS Γ dr (⟨some k,g,mv,.nilCheck x⟩::l) ρ st R:=by
 refine Hl (d:=.ptr p off) hg rfl ?_ h
 cases mv<;>simp[O.runM,O.run,hx]
theorem H5 {p off o:Nat} (hg:ao ρ g=some true) (hx:x.ev ρ=.ptr p o) (h:WS Γ dr l (ap ρ k (.ptr p (o+off))) st (nx .n R)):WS Γ dr (⟨some k,g,mv,.faddr off x⟩::l) ρ st R:=by
 refine Hl (d:=.ptr p (o+off)) hg rfl ?_ h
 cases mv<;>simp[O.runM,O.run,hx]
theorem nP {cs:List D} {p off sz:Nat} {agg:Bool} {d:D} (hg:ao ρ g=some true) (hx:x.ev ρ=.ptr p off) (hb:(st.boxes p).bind Box.cs=some cs) (hl:st.lim≤p) (hc:cut agg sz off cs=some d) (h:WS Γ dr l (ap ρ k d) st (nx (.r p) R)):WS Γ dr (⟨some k,g,mv,.load agg sz x⟩::l) ρ st R:=by
 refine Hl (d:=d) hg rfl ?_ h
 cases mv<;>simp[O.runM,O.run,hx,Store.cellsAt,hb,Nat.not_lt.mpr hl,hc]
theorem sZ {sz:Nat} {xs:List A} {ys:List D} (hg:ao ρ g=some true) (hx:xs.map (·.ev ρ)=ys) (hs:ys.map D.strip=ys) (h0:ys.all (fun x=>x.cells.length==sz&&x.cells.all D.plain)=true) (h1:xs.length*sz≤16777216) (h:WS Γ dr l (ap ρ k (.slice .exact sz ys)) st (nx .n R)):WS Γ dr (⟨some k,g,mv,.bslice sz xs⟩::l) ρ st R:=by
 have e1:(xs.map fun x=>(x.ev ρ).strip)=ys:=by rw[←hs,←hx,List.map_map];rfl
 have e2:(xs.all fun x=>(x.ev ρ).strip.cells.length==sz&&(x.ev ρ).strip.cells.all D.plain)=true:=by
  rw[←e1,List.all_map]at h0
  exact h0
 refine Hl (d:=.slice .exact sz ys) (st1:=st) hg rfl ?_ h
 cases mv<;>simp only[O.runM,O.run,e2,decide_eq_true h1,Bool.and_self,if_true,e1]
end
end Go.Ev
