/-
  Rules to run the evaluator's code by hand, operation by operation.
-/
import Derived.Test.YtjcilbnbciclpaaEvEvX1
set_option linter.unusedVariables false
set_option linter.unusedSimpArgs false
set_option linter.unnecessarySimpa false
namespace Go.Ev
abbrev nx (b:Fl) (R:(Nat→D)→Store→List Fl→Prop):(Nat→D)→Store→List Fl→Prop:=fun ρ1 st1 fl=>R ρ1 st1 (b::fl)
section
variable {Γ:Nat→Option FD} {ρ:Nat→D} {st:Store} {dr:Bool} {R:(Nat→D)→Store→List Fl→Prop} {l:List Op1} {g:Option (Nat×Bool)} {mv:Bool} {k:Nat} {x y c a b i:A} {κ:IntKind} {n m:Int}
theorem jK {op:O} {d:D} {f0:Fl} (hg:ak ρ g=some true) (hn:op.isCall=false) (hr:op.run ρ st=some (d,st)) (hm:mv=false) (h:WS Γ dr l (ap ρ k d) st (nx f0 R)) (hf:op.acc false ρ=f0:=by first|rfl|(simp[O.acc, *];done)):WS Γ dr (⟨some k,g,mv,op⟩::l) ρ st R:=by
 subst hm
 exact WS_op hg hn (by simpa[O.runM]using hr) h hf
theorem aj (hg:ak ρ g=some false) {op:O} (h:WS Γ dr l (ap ρ k .undef) st (nx .n R)):WS Γ dr (⟨some k,g,mv,op⟩::l) ρ st R:=uf hg h
theorem bL {v:D} (hg:ak ρ g=some true) (hx:x.ev ρ=v) (hm:mv=false) (h:WS Γ dr l (ap ρ k v) st (nx .n R)):WS Γ dr (⟨some k,g,mv,.mov x⟩::l) ρ st R:=
 jK hg rfl (by simp[O.run,hx]) hm h
theorem Aq {t:Bool} {v:D} (hg:ak ρ g=some true) (hc:c.ev ρ=.bool t) (hx:(if t then a.ev ρ else b.ev ρ)=v) (hm:mv=false) (h:WS Γ dr l (ap ρ k v) st (nx .n R)):WS Γ dr (⟨some k,g,mv,.pick c a b⟩::l) ρ st R:=
 jK hg rfl (by simp[O.run,hc,hx]) hm h
theorem AM {t:Bool} (hg:ak ρ g=some true) (hx:x.ev ρ=.bool t) (hm:mv=false) (h:WS Γ dr l (ap ρ k (.bool (!t))) st (nx .n R)):WS Γ dr (⟨some k,g,mv,.not x⟩::l) ρ st R:=
 jK hg rfl (by simp[O.run,hx]) hm h
theorem iG {op:BinOp} {t:Bool} (hg:ak ρ g=some true) (hr:fH op (x.ev ρ) (y.ev ρ)=some (.bool t)) (hm:mv=false) (h:WS Γ dr l (ap ρ k (.bool t)) st (nx .n R)):WS Γ dr (⟨some k,g,mv,.bin op x y⟩::l) ρ st R:=
 jK hg rfl (by simp[O.run,hr]) hm h
variable (hg:ak ρ g=some true) (hx:x.ev ρ=.int κ n) (hy:y.ev ρ=.int κ m) (hm:mv=false)
include hg hx hy hm
theorem rx (h1:n<m→WS Γ dr l (ap ρ k (.bool true)) st (nx .n R)) (h2:¬n<m→WS Γ dr l (ap ρ k (.bool false)) st (nx .n R)):WS Γ dr (⟨some k,g,mv,.bin .lss x y⟩::l) ρ st R:=by
 by_cases h:n<m
 ·exact iG hg (by simp[fH,hx,hy,h]) hm (h1 h)
 ·exact iG hg (by simp only[fH,hx,hy];simp[h]) hm (h2 h)
theorem wu (h1:n≤m→WS Γ dr l (ap ρ k (.bool true)) st (nx .n R)) (h2:¬n≤m→WS Γ dr l (ap ρ k (.bool false)) st (nx .n R)):WS Γ dr (⟨some k,g,mv,.bin .leq x y⟩::l) ρ st R:=by
 by_cases h:n≤m
 ·exact iG hg (by simp[fH,hx,hy,h]) hm (h1 h)
 ·exact iG hg (by simp only[fH,hx,hy];simp[h]) hm (h2 h)
theorem oU (h1:m<n→WS Γ dr l (ap ρ k (.bool true)) st (nx .n R)) (h2:¬m<n→WS Γ dr l (ap ρ k (.bool false)) st (nx .n R)):WS Γ dr (⟨some k,g,mv,.bin .gtr x y⟩::l) ρ st R:=by
 by_cases h:m<n
 ·exact iG hg (by simp[fH,hx,hy,h]) hm (h1 h)
 ·exact iG hg (by simp only[fH,hx,hy];simp[h]) hm (h2 h)
theorem vX (h1:m≤n→WS Γ dr l (ap ρ k (.bool true)) st (nx .n R)) (h2:¬m≤n→WS Γ dr l (ap ρ k (.bool false)) st (nx .n R)):WS Γ dr (⟨some k,g,mv,.bin .geq x y⟩::l) ρ st R:=by
 by_cases h:m≤n
 ·exact iG hg (by simp[fH,hx,hy,h]) hm (h1 h)
 ·exact iG hg (by simp only[fH,hx,hy];simp[h]) hm (h2 h)
theorem wC (h1:n=m→WS Γ dr l (ap ρ k (.bool true)) st (nx .n R)) (h2:¬n=m→WS Γ dr l (ap ρ k (.bool false)) st (nx .n R)):WS Γ dr (⟨some k,g,mv,.bin .eql x y⟩::l) ρ st R:=by
 by_cases h:n=m
 ·exact iG hg (by simp[fH,hx,hy,h]) hm (h1 h)
 ·exact iG hg (by simp[fH,hx,hy,h]) hm (h2 h)
theorem uN (h1:n=m→WS Γ dr l (ap ρ k (.bool false)) st (nx .n R)) (h2:¬n=m→WS Γ dr l (ap ρ k (.bool true)) st (nx .n R)):WS Γ dr (⟨some k,g,mv,.bin .neq x y⟩::l) ρ st R:=by
 by_cases h:n=m
 ·exact iG hg (by simp[fH,hx,hy,h]) hm (h1 h)
 ·exact iG hg (by simp[fH,hx,hy,h]) hm (h2 h)
theorem zt (p:n<m) (h1:WS Γ dr l (ap ρ k (.bool true)) st (nx .n R)):WS Γ dr (⟨some k,g,mv,.bin .lss x y⟩::l) ρ st R:=rx hg hx hy hm (fun _=>h1) (fun q=>absurd p q)
theorem zg (p:m≤n) (h1:WS Γ dr l (ap ρ k (.bool false)) st (nx .n R)):WS Γ dr (⟨some k,g,mv,.bin .lss x y⟩::l) ρ st R:=rx hg hx hy hm (fun _=>absurd p (by omega)) (fun q=>h1)
theorem pV (p:n≤m) (h1:WS Γ dr l (ap ρ k (.bool true)) st (nx .n R)):WS Γ dr (⟨some k,g,mv,.bin .leq x y⟩::l) ρ st R:=wu hg hx hy hm (fun _=>h1) (fun q=>absurd p q)
theorem xe (p:m<n) (h1:WS Γ dr l (ap ρ k (.bool false)) st (nx .n R)):WS Γ dr (⟨some k,g,mv,.bin .leq x y⟩::l) ρ st R:=wu hg hx hy hm (fun _=>absurd p (by omega)) (fun q=>h1)
theorem Ae (p:m<n) (h1:WS Γ dr l (ap ρ k (.bool true)) st (nx .n R)):WS Γ dr (⟨some k,g,mv,.bin .gtr x y⟩::l) ρ st R:=oU hg hx hy hm (fun _=>h1) (fun q=>absurd p q)
theorem zf (p:n≤m) (h1:WS Γ dr l (ap ρ k (.bool false)) st (nx .n R)):WS Γ dr (⟨some k,g,mv,.bin .gtr x y⟩::l) ρ st R:=oU hg hx hy hm (fun _=>absurd p (by omega)) (fun q=>h1)
theorem xq (p:m≤n) (h1:WS Γ dr l (ap ρ k (.bool true)) st (nx .n R)):WS Γ dr (⟨some k,g,mv,.bin .geq x y⟩::l) ρ st R:=vX hg hx hy hm (fun _=>h1) (fun q=>absurd p q)
theorem sG (p:n<m) (h1:WS Γ dr l (ap ρ k (.bool false)) st (nx .n R)):WS Γ dr (⟨some k,g,mv,.bin .geq x y⟩::l) ρ st R:=vX hg hx hy hm (fun _=>absurd p (by omega)) (fun q=>h1)
theorem fK (p:n=m) (h1:WS Γ dr l (ap ρ k (.bool true)) st (nx .n R)):WS Γ dr (⟨some k,g,mv,.bin .eql x y⟩::l) ρ st R:=wC hg hx hy hm (fun _=>h1) (fun q=>absurd p q)
theorem dz (p:¬n=m) (h1:WS Γ dr l (ap ρ k (.bool false)) st (nx .n R)):WS Γ dr (⟨some k,g,mv,.bin .eql x y⟩::l) ρ st R:=wC hg hx hy hm (fun q=>absurd q p) (fun q=>h1)
theorem hG (p:¬n=m) (h1:WS Γ dr l (ap ρ k (.bool true)) st (nx .n R)):WS Γ dr (⟨some k,g,mv,.bin .neq x y⟩::l) ρ st R:=uN hg hx hy hm (fun q=>absurd q p) (fun q=>h1)
theorem fC (p:n=m) (h1:WS Γ dr l (ap ρ k (.bool false)) st (nx .n R)):WS Γ dr (⟨some k,g,mv,.bin .neq x y⟩::l) ρ st R:=uN hg hx hy hm (fun _=>h1) (fun q=>absurd p q)
theorem Be {s:Int} (hs:κ.wrap (n+m)=s) (h:WS Γ dr l (ap ρ k (.int κ s)) st (nx .n R)):WS Γ dr (⟨some k,g,mv,.bin .add x y⟩::l) ρ st R:=
 jK hg rfl (by simp[O.run,fH,hx,hy,hs]) hm h
theorem AN {s:Int} (hs:κ.wrap (n - m)=s) (h:WS Γ dr l (ap ρ k (.int κ s)) st (nx .n R)):WS Γ dr (⟨some k,g,mv,.bin .sub x y⟩::l) ρ st R:=
 jK hg rfl (by simp[O.run,fH,hx,hy,hs]) hm h
theorem y7 {s:Int} (hs:κ.wrap (n*m)=s) (h:WS Γ dr l (ap ρ k (.int κ s)) st (nx .n R)):WS Γ dr (⟨some k,g,mv,.bin .mul x y⟩::l) ρ st R:=
 jK hg rfl (by simp[O.run,fH,hx,hy,hs]) hm h
theorem rO {s:Int} (h0:m≠0) (hs:κ.wrap (n.tdiv m)=s) (h:WS Γ dr l (ap ρ k (.int κ s)) st (nx .n R)):WS Γ dr (⟨some k,g,mv,.bin .quo x y⟩::l) ρ st R:=
 jK hg rfl (by simp[O.run,fH,hx,hy,hs,h0]) hm h
theorem Bg {s:Int} (h0:m≠0) (hs:n.tmod m=s) (h:WS Γ dr l (ap ρ k (.int κ s)) st (nx .n R)):WS Γ dr (⟨some k,g,mv,.bin .rem x y⟩::l) ρ st R:=
 jK hg rfl (by simp[O.run,fH,hx,hy,hs,h0]) hm h
omit hy
theorem sV {κ':IntKind} (hy:y.ev ρ=.int κ' m) (h:WS Γ dr l (ap ρ k (.int κ (if m<n then m else n))) st (nx .n R)):WS Γ dr (⟨some k,g,mv,.min [x,y]⟩::l) ρ st R:=
 jK hg rfl (by simp[O.run,vS,hx,hy]) hm h
theorem tI {κ':IntKind} (hy:y.ev ρ=.int κ' m) (h:WS Γ dr l (ap ρ k (.int κ (if m>n then m else n))) st (nx .n R)):WS Γ dr (⟨some k,g,mv,.max [x,y]⟩::l) ρ st R:=
 jK hg rfl (by simp[O.run,va,hx,hy]) hm h
omit hx
theorem zC {t u:Bool} (hx:x.ev ρ=.bool t) (hy:y.ev ρ=.bool u) (h:WS Γ dr l (ap ρ k (.bool (t !=u))) st (nx .n R)):WS Γ dr (⟨some k,g,mv,.eqlB true x y⟩::l) ρ st R:=
 jK hg rfl (by simp[O.run,hx,hy]) hm h
theorem zH {sz:Nat} {offs:List Nat} {cs ds:List D} {e:Bool} (hx:x.ev ρ=.agg cs) (hy:y.ev ρ=.agg ds) (h1:cs.length=sz) (h2:ds.length=sz) (he:jH cs ds offs=some e)
  (ht:e=true→WS Γ dr l (ap ρ k (.bool false)) st (nx .n R)) (hf:e=false→WS Γ dr l (ap ρ k (.bool true)) st (nx .n R)):WS Γ dr (⟨some k,g,mv,.eqlP true sz offs x y⟩::l) ρ st R:=by
 cases e with
 |true=>exact jK hg rfl (by simp[O.run,hx,hy,h1,h2,he]) hm (ht rfl)
 |false=>exact jK hg rfl (by simp[O.run,hx,hy,h1,h2,he]) hm (hf rfl)
theorem jE {vs:List D} {j:Nat} {d:D} (hx:x.ev ρ=.tuple vs) (hd:vs[j]?=some d) (h:WS Γ dr l (ap ρ k d) st (nx .n R)):WS Γ dr (⟨some k,g,mv,.extract x j⟩::l) ρ st R:=
 jK hg rfl (by simp[O.run,hx,hd]) hm h
theorem wB {f:Nat} {caps:List A} {cs:List D} (hc:caps.map (·.ev ρ)=cs) (h:WS Γ dr l (ap ρ k (.func f cs)) st (nx .n R)):WS Γ dr (⟨some k,g,mv,.mkfunc f caps⟩::l) ρ st R:=
 jK hg rfl (by simp[O.run,hc]) hm h
theorem bi {zero:List D} {fills:List (Nat×Nat×A)} {cs:List D} (hf:gA (fills.map fun f=>(f.1,f.2.1,f.2.2.ev ρ)) zero=some cs) (h:WS Γ dr l (ap ρ k (.agg cs)) st (nx .n R)):WS Γ dr (⟨some k,g,mv,.build zero fills⟩::l) ρ st R:=
 jK hg rfl (by simp[O.run,hf]) hm h
theorem zY {t:Tok} {sz:Nat} {xs:List D} (hx:x.ev ρ=.slice t sz xs) (h:WS Γ dr l (ap ρ k (.int .i64 (xs.length:Nat))) st (nx .n R)):WS Γ dr (⟨some k,g,mv,.lenS x⟩::l) ρ st R:=
 jK hg rfl (by simp[O.run,hx]) hm h
theorem zw {α:Type} {ls:List α} {f:α→D} {t:Tok} {sz:Nat} (hx:x.ev ρ=.slice t sz (ls.map f)) (h:WS Γ dr l (ap ρ k (.int .i64 (ls.length:Nat))) st (nx .n R)):WS Γ dr (⟨some k,g,mv,.lenS x⟩::l) ρ st R:=
 zY hg hm hx (by simpa using h)
theorem eJ {p off sz nn cc:Nat} (hx:x.ev ρ=.rs p off sz nn cc) (h:WS Γ dr l (ap ρ k (.int .i64 (nn:Nat))) st (nx .n R)):WS Γ dr (⟨some k,g,mv,.lenS x⟩::l) ρ st R:=
 jK hg rfl (by simp[O.run,hx]) hm h
theorem kD {t:Tok} {sz s j:Nat} {xs:List D} (hx:x.ev ρ=.slice t s xs) (hi:i.ev ρ=.int κ (j:Int)) (hs:s=sz) (hj:j<xs.length) (h:WS Γ dr l (ap ρ k (.eptr sz xs j 0)) st (nx .n R)):WS Γ dr (⟨some k,g,mv,.iaddrS sz x i⟩::l) ρ st R:=
 jK hg rfl (by simp[O.run,hx,hi,bE,hj,hs]) hm h
theorem eG {p off sz j nn cc:Nat} (hx:x.ev ρ=.rs p off sz nn cc) (hi:i.ev ρ=.int κ (j:Int)) (hj:j<nn) (h:WS Γ dr l (ap ρ k (.ptr p (off+j*sz))) st (nx .n R)):WS Γ dr (⟨some k,g,mv,.iaddrS sz x i⟩::l) ρ st R:=
 jK hg rfl (by simp[O.run,hx,hi,bE,hj]) hm h
theorem nV {nn sz j:Nat} {agg:Bool} {cs:List D} {d:D} (hx:x.ev ρ=.agg cs) (hi:bE (i.ev ρ)=some j) (hj:j<nn) (hc:cut agg sz (j*sz) cs=some d) (h:WS Γ dr l (ap ρ k d) st (nx .n R)):WS Γ dr (⟨some k,g,mv,.indexA nn sz agg x i⟩::l) ρ st R:=
 jK hg rfl (by simp[O.run,hx,hi,hj,hc]) hm h
theorem yu {p off o:Nat} (hx:x.ev ρ=.ptr p o) (h:WS Γ dr l (ap ρ k (.ptr p (o+off))) st (nx .n R)):WS Γ dr (⟨some k,g,mv,.faddr off x⟩::l) ρ st R:=
 jK hg rfl (by simp[O.run,hx]) hm h
theorem wz {s p off o:Nat} {xs:List D} (hx:x.ev ρ=.eptr s xs p o) (h:WS Γ dr l (ap ρ k (.eptr s xs p (o+off))) st (nx .n R)):WS Γ dr (⟨some k,g,mv,.faddr off x⟩::l) ρ st R:=
 jK hg rfl (by simp[O.run,hx]) hm h
theorem yh {α:Type} {ls:List α} {f:α→D} {v:α} {s j off sz:Nat} {agg:Bool} {d:D} (hx:x.ev ρ=.eptr s (ls.map f) j off) (hv:ls[j]?=some v) (hc:cut agg sz off (f v).cells=some d) (h:WS Γ dr l (ap ρ k d) st (nx .n R)):WS Γ dr (⟨some k,g,mv,.load agg sz x⟩::l) ρ st R:=
 jK hg rfl (by simp[O.run,hx,hv,hc]) hm h
theorem am {cs:List D} {p off sz:Nat} {agg:Bool} {d:D} (hx:x.ev ρ=.ptr p off) (hb:(st.boxes p).bind Box.cs=some cs) (hl:st.lim≤p) (hc:cut agg sz off cs=some d) (h:WS Γ dr l (ap ρ k d) st (nx (.r p) R)):WS Γ dr (⟨some k,g,mv,.load agg sz x⟩::l) ρ st R:=
 jK hg rfl (by simp[O.run,hx,Store.cellsAt,hb,Nat.not_lt.mpr hl,hc]) hm h
theorem ez {cs:List D} {p off sz:Nat} {agg:Bool} {d:D} (hx:x.ev ρ=.ptr p off) (hb:(st.boxes p).bind Box.cs=some cs) (hl:p<st.lim) (hc:cut agg sz off (cs.map D.strip1)=some d) (h:WS Γ dr l (ap ρ k d) st (nx (.r p) R)):WS Γ dr (⟨some k,g,mv,.load agg sz x⟩::l) ρ st R:=
 jK hg rfl (by simp[O.run,hx,Store.cellsAt,hb,hl,hc]) hm h
theorem aq {zero:List D} (h:WS Γ dr l (ap ρ k (.ptr st.next 0)) {st with boxes:=ap st.boxes st.next (some (.cells zero)),next:=st.next+1} (nx .f R)):WS Γ dr (⟨some k,g,mv,.alloc zero⟩::l) ρ st R:=by
 subst hm
 exact WS_op hg rfl rfl h
theorem ck {sz:Nat} {cs:List D} (hx:x.ev ρ=.agg cs) (h1:cs.length=sz) (h2:cs.all D.one=true) (h:WS Γ dr l (ap ρ k (.ptr st.next 0)) {st with boxes:=ap st.boxes st.next (some (.cells cs)),next:=st.next+1} (nx .f R)):WS Γ dr (⟨some k,g,mv,.box sz x⟩::l) ρ st R:=by
 subst hm
 refine WS_op (d:=.ptr st.next 0) hg rfl ?_ h
 simp only[O.runM,O.run,hx,D.cells]
 rw[if_pos ⟨h1,h2⟩]
theorem ph {v:D} (hx:x.ev ρ=v) (h1:v.cells=[v]) (h2:v.one=true) (h:WS Γ dr l (ap ρ k (.ptr st.next 0)) {st with boxes:=ap st.boxes st.next (some (.cells [v])),next:=st.next+1} (nx .f R)):WS Γ dr (⟨some k,g,mv,.box 1 x⟩::l) ρ st R:=by
 subst hm
 refine WS_op (d:=.ptr st.next 0) hg rfl ?_ h
 simp only[O.runM,O.run,hx,h1]
 rw[if_pos ⟨rfl,by simp[h2]⟩]
theorem bh {sz:Nat} {xs:List A} {ys:List D} (h0:(xs.all fun x=>(x.ev ρ).strip.cells.length==sz&&(x.ev ρ).strip.cells.all D.plain)=true) (h1:xs.length*sz≤16777216) (hy:(xs.map fun x=>(x.ev ρ).strip)=ys) (h:WS Γ dr l (ap ρ k (.slice .exact sz ys)) st (nx .n R)):WS Γ dr (⟨some k,g,mv,.bslice sz xs⟩::l) ρ st R:=by
 subst hm
 refine WS_op (d:=.slice .exact sz ys) (st1:=st) hg rfl ?_ h
 simp only[O.runM,O.run,h0,h1,decide_true,Bool.and_self,if_true,hy]
end
section
variable {Γ:Nat→Option FD} {ρ:Nat→D} {st:Store} {dr:Bool} {R:(Nat→D)→Store→List Fl→Prop} {l:List Op1} {g:Option (Nat×Bool)} {mv:Bool} {k:Nat} {x y c a b i:A}
theorem an {v:D} {p off sz:Nat} {bx:Box} {cs cs':List D} (hg:ak ρ g=some true) (ha:a.ev ρ=.ptr p off) (hb:st.boxes p=some bx) (hcs:bx.cs=some cs) (hl:st.lim≤p) (hx:x.ev ρ=v) (hf:gA [(off,sz,v)] cs=some cs') (hm:mv=false)
  (h:WS Γ dr l ρ {st with boxes:=ap st.boxes p (some (bx.set cs'))} (nx (.w p) R)):WS Γ dr (⟨none,g,mv,.store sz a x⟩::l) ρ st R:=by
 subst hm
 refine WS_op (d:=.undef) hg rfl ?_ h
 simp only[O.runM,O.run,ha,Nat.not_lt.mpr hl,if_false,hb,Option.bind_some,hcs,hx,hf,Option.map_some]
theorem oZ {α:Type} {ls:List α} {f:α→D} {t:Tok} {sz s j:Nat} {e:A} (hg:ak ρ g=some true) (hx:x.ev ρ=.slice t s (ls.map f)) (hs:s=sz∨ls=[]) (he:bE (e.ev ρ)=some j) (hj:j≤ls.length) (hm:mv=false)
  (h:∀t',WS Γ dr l (ap ρ k (.slice t' sz ((ls.take j).map f))) st (nx .n R)):WS Γ dr (⟨some k,g,mv,.slice sz x none (some e) none⟩::l) ρ st R:=by
 have:∃t',O.run (.slice sz x none (some e) none) ρ st=some (.slice t' sz ((ls.take j).map f),st):=by
  apply Exists.intro
  have hb:((ls.map f).isEmpty||s==sz)=true:=by rcases hs with rfl|rfl<;>simp
  simp only[O.run,hx,Option.map_some,Option.map_none,ki,hb,if_true,he,List.length_map,Option.getD_none,Nat.zero_le,and_self,and_true,hj,List.map_take,List.drop_zero,Nat.le_refl,true_and]
  rfl
 obtain⟨t',ht⟩:=this
 exact jK hg rfl ht hm (h t')
theorem y8 {κ:IntKind} (a b c x y z:Int):jH [.int κ a,.int κ b,.int κ c] [.int κ x,.int κ y,.int κ z] [0,1,2]=some (decide (a=x∧b=y∧c=z)):=by
 simp only[jH,List.getElem?_cons_zero,List.getElem?_cons_succ,if_true,Option.map_some,Bool.and_true,Bool.decide_and]
 congr 1
theorem dV {f:Nat→Option Box} {k:Nat} {b:Box} {cs:List D} (h:b.cs=some cs):(ap f k (some b) k).bind Box.cs=some cs:=by rw[ae];exact h
theorem xZ {f:Nat→Option Box} {k j:Nat} {v:Option Box} {cs:List D} (hn:j≠k) (h:(f j).bind Box.cs=some cs):(ap f k v j).bind Box.cs=some cs:=by rw[ab _ _ hn];exact h
def D.still:D→Bool
 | .slice .fresh _ _| .slice .row _ _| .agg (.slice .fresh _ _::_)=>false
 | .tuple (.slice .fresh _ _::_)| .tuple (.slice .row _ _::_)| .tuple (.agg (.slice .fresh _ _::_)::_)=>false
 |_=>true
theorem io {r:D} (h:r.still=true):au mv r st=(r,st):=by
 have hA:∀v:D,(match v with| .slice .row _ _=>false|_=>true)=true→cZ st mv v=(v,st):=by
  intro v hv
  cases v with
  |slice t sz xs=>cases t<;>first|rfl|simp at hv
  |_=>rfl
 unfold au
 cases r with
 |tuple vs=>
  cases vs with
  |nil=>rfl
  |cons v vs=>
   cases v with
   |slice t sz xs=>cases t<;>first|rfl|simp[D.still]at h
   |agg cs=>
    cases cs with
    |nil=>rfl
    |cons c cs=>
     cases c with
     |slice t sz xs=>cases t<;>first|rfl|simp[D.still]at h
     |_=>rfl
   |_=>rfl
 |slice t sz xs=>cases t<;>first|rfl|simp[D.still]at h
 |agg cs=>
  cases cs with
  |nil=>rfl
  |cons c cs=>
   cases c with
   |slice t sz xs=>cases t<;>first|rfl|simp[D.still]at h
   |_=>rfl
 |_=>rfl
theorem jl {r:D} (h:r.still=true):av r=false:=by
 cases r with
 |tuple vs=>
  cases vs with
  |nil=>rfl
  |cons v vs=>
   cases v with
   |slice t sz xs=>cases t<;>first|rfl|simp[D.still]at h
   |agg cs=>
    cases cs with
    |nil=>rfl
    |cons c cs=>
     cases c with
     |slice t sz xs=>cases t<;>first|rfl|simp[D.still]at h
     |_=>rfl
   |_=>rfl
 |slice t sz xs=>cases t<;>first|rfl|simp[D.still]at h
 |agg cs=>
  cases cs with
  |nil=>rfl
  |cons c cs=>
   cases c with
   |slice t sz xs=>cases t<;>first|rfl|simp[D.still]at h
   |_=>rfl
 |_=>rfl
theorem fF {f:A} {as:List A} {fn:Nat} {caps:List D} {r:D} (hg:ak ρ g=some true) (hf:f.ev ρ=.func fn caps) (ha:((as.map (·.ev ρ)++caps).map D.strip).all D.freeA=true) (hr:EvP Γ fn ((as.map (·.ev ρ)++caps).map D.strip) r)
  (hs:r.still=true) (hm:mv=false) (h:WS Γ dr l (ap ρ k r) st (nx .n R)):WS Γ dr (⟨some k,g,mv,.call f as⟩::l) ρ st R:=
 dh hg rfl hf ha hr (fun _=>⟨jl hs,hm⟩) (io hs) h
theorem dT {f:A} {as:List A} {fn:Nat} {caps:List D} {t:Bool} (hg:ak ρ g=some true) (hf:f.ev ρ=.func fn caps) (ha:((as.map (·.ev ρ)++caps).map D.strip).all D.freeA=true) (hr:EvP Γ fn ((as.map (·.ev ρ)++caps).map D.strip) (.bool t))
  (hm:mv=false) (h1:t=true→WS Γ dr l (ap ρ k (.bool true)) st (nx .n R)) (h2:t=false→WS Γ dr l (ap ρ k (.bool false)) st (nx .n R)):WS Γ dr (⟨some k,g,mv,.call f as⟩::l) ρ st R:=by
 cases t with
 |true=>exact fF hg hf ha hr rfl hm (h1 rfl)
 |false=>exact fF hg hf ha hr rfl hm (h2 rfl)
def EvX (Γ:Nat→Option FD) (f:Nat) (ds:List D) (P:D→Prop):Prop:=∃r,P r∧EvP Γ f ds r
def Tok.dull:Tok→Bool
 | .own _| .fresh=>false
 |_=>true
def Bw {α:Type} (e:α→D) (sz:Nat) (ls:List α) (r:D):Prop:=∃t s,r=.slice t s (ls.map e)∧(s=sz∨ls=[])
def IsT {α:Type} (e:α→D) (sz:Nat) (ls:List α) (vs:List D) (r:D):Prop:=∃t s,r=.tuple (.slice t s (ls.map e)::vs)∧(s=sz∨ls=[])
def zO {α:Type} (e:α→D) (sz:Nat) (ls:List α) (r:D):Prop:=∃t s,r=.slice t s (ls.map e)∧(s=sz∨ls=[])∧t.dull=true
theorem qz {α:Type} {ls:List α} {s sz:Nat} (h:s=sz∨ls=[]) (h0:0<ls.length):s=sz:=by
 rcases h with h|h
 ·exact h
 ·simp[h]at h0
theorem ui {α:Type} {e:α→D} {f:A} {as:List A} {fn:Nat} {caps:List D} {sz:Nat} {xs:List α} (hg:ak ρ g=some true) (hf:f.ev ρ=.func fn caps) (ha:((as.map (·.ev ρ)++caps).map D.strip).all D.freeA=true) (hr:EvX Γ fn ((as.map (·.ev ρ)++caps).map D.strip) (Bw e sz xs))
  (hm:mv=false) (h:∀t s,(s=sz∨xs=[])→∀tk nt,WS Γ false l (ap ρ k (.slice t s (xs.map e))) {st with toks:=tk,ntok:=nt} (nx .n R)):WS Γ false (⟨some k,g,mv,.call f as⟩::l) ρ st R:=by
 subst hm
 obtain⟨r,⟨t,s,rfl,hs⟩,hr⟩:=hr
 have key:∃t' tk nt,au false (.slice t s (xs.map e)) st=(.slice t' s (xs.map e),{st with toks:=tk,ntok:=nt}):=by
  cases t<;>exact⟨_,_,_,rfl⟩
 obtain⟨t',tk,nt,e⟩:=key
 exact dh hg rfl hf ha hr (fun h=>by cases h) e (h t' s hs tk nt)
theorem fY {α:Type} {e:α→D} {f:A} {as:List A} {fn:Nat} {caps:List D} {sz:Nat} {xs:List α} (hg:ak ρ g=some true) (hf:f.ev ρ=.func fn caps) (ha:((as.map (·.ev ρ)++caps).map D.strip).all D.freeA=true) (hr:EvX Γ fn ((as.map (·.ev ρ)++caps).map D.strip) (zO e sz xs))
  (hm:mv=false) (h:∀t s,(s=sz∨xs=[])→t.dull=true→WS Γ dr l (ap ρ k (.slice t s (xs.map e))) st (nx .n R)):WS Γ dr (⟨some k,g,mv,.call f as⟩::l) ρ st R:=by
 subst hm
 obtain⟨r,⟨t,s,rfl,hs,ht⟩,hr⟩:=hr
 have key:∃t',au false (.slice t s (xs.map e)) st=(.slice t' s (xs.map e),st)∧t'.dull=true:=by
  cases t<;>first|(cases ht;done)|exact⟨_,rfl,rfl⟩
 obtain⟨t',e,ht'⟩:=key
 exact dh hg rfl hf ha hr (fun h=>⟨by cases t<;>first|(cases ht;done)|rfl,rfl⟩) e (h t' s hs ht')
theorem fw {α:Type} {e:α→D} {f:A} {as:List A} {fn:Nat} {caps:List D} {sz:Nat} {xs:List α} {vs:List D} (hg:ak ρ g=some true) (hf:f.ev ρ=.func fn caps) (ha:((as.map (·.ev ρ)++caps).map D.strip).all D.freeA=true) (hr:EvX Γ fn ((as.map (·.ev ρ)++caps).map D.strip) (IsT e sz xs vs))
  (hm:mv=false) (h:∀t s,(s=sz∨xs=[])→∀tk nt,WS Γ false l (ap ρ k (.tuple (.slice t s (xs.map e)::vs))) {st with toks:=tk,ntok:=nt} (nx .n R)):WS Γ false (⟨some k,g,mv,.call f as⟩::l) ρ st R:=by
 subst hm
 obtain⟨r,⟨t,s,rfl,hs⟩,hr⟩:=hr
 have key:∃t' tk nt,au false (.tuple (.slice t s (xs.map e)::vs)) st=(.tuple (.slice t' s (xs.map e)::vs),{st with toks:=tk,ntok:=nt}):=by
  cases t<;>exact⟨_,_,_,rfl⟩
 obtain⟨t',tk,nt,e⟩:=key
 exact dh hg rfl hf ha hr (fun h=>by cases h) e (h t' s hs tk nt)
theorem dl {d:D} (h:d.ground1=true):d.free1=true∧d.strip1=d∧d.strip=d∧aM st d=none:=by cases d<;>simp_all[D.ground1,D.free1,D.strip1,D.strip,aM]
theorem c9 {d:D} (h:d.ground=true):d.strip=d:=by
 have hc:∀cs:List D,cs.all D.ground1=true→cs.map D.strip1=cs:=fun cs h=>by
  rw[List.all_eq_true]at h
  exact(List.map_congr_left fun x hx=>(dl (st:=Store.empty) (h x hx)).2.1).trans (List.map_id' _)
 cases d with
 |agg cs=>simp only[D.ground]at h;simp only[D.strip,hc _ h]
 |tuple vs=>
  simp only[D.ground,List.all_eq_true]at h
  simp only[D.strip]
  congr 1
  refine(List.map_congr_left fun x hx=>?_).trans (List.map_id' _)
  have:=h x hx
  cases x with
  |agg cs=>simp only at this;simp only[hc _ this]
  |_=>simp_all[D.ground1,D.strip1]
 |_=>simp_all[D.ground,D.ground1,D.strip]
theorem gn {d:D} (h:d.ground=true):d.free=true:=by
 have hc:∀cs:List D,cs.all D.ground1=true→cs.all D.free1=true:=fun cs h=>by
  rw[List.all_eq_true]at h ⊢
  exact fun x hx=>(dl (st:=Store.empty) (h x hx)).1
 cases d with
 |agg cs=>simp only[D.ground]at h;simp only[D.free,hc _ h]
 |tuple vs=>
  simp only[D.ground,List.all_eq_true]at h
  simp only[D.free,List.all_eq_true]
  intro x hx
  have:=h x hx
  cases x with
  |agg cs=>exact hc _ this
  |_=>simp_all[D.ground1,D.free1]
 |_=>simp_all[D.ground,D.ground1,D.free,D.free1]
theorem pz {v:D} {vs:List D} (h:(D.tuple (v::vs)).ground=true):v.ground=true∧(∀w∈vs,w.ground=true):=by
 simp only[D.ground,List.all_eq_true,List.mem_cons,forall_eq_or_imp]at h
 refine⟨?_,fun w hw=>?_⟩
 ·have:=h.1
  cases v<;>simp_all[D.ground,D.ground1]
 ·have:=h.2 w hw
  cases w<;>simp_all[D.ground,D.ground1]
theorem iL {d:D} (h:d.ground=true):aG st d=d:=by
 cases d with
 |agg cs=>
  have:=c9 h
  cases cs with
  |nil=>rfl
  |cons c cs=>
   simp only[D.ground,List.all_cons,Bool.and_eq_true]at h
   simp only[D.strip,List.map_cons]at this
   simp only[aG,(dl (st:=st) h.1).2.2.2,Option.getD_none,this]
 |tuple vs=>
  have:=c9 h
  simp only[aG,aM,Option.getD_none,this]
 |_=>simp_all[D.ground,D.ground1,aG,aM,D.strip]
theorem qU {r:D} (h:r.ground=true):dy st r=some r:=by
 simp only[dy,gn h,if_true,dG]
 split
 ·rename_i v vs
  obtain⟨h1,h2⟩:=pz h
  rw[iL h1]
  congr 2
  congr 1
  exact(List.map_congr_left fun x hx=>c9 (h2 x hx)).trans (List.map_id' _)
 ·rw[iL h]
theorem be {X0:X} {rs:List Rs} {r r':D} (hx:X0=.normal∨X0=.ret) (h1:aB ρ st rs=some r') (hg:r'.ground=true) (he:r'=r):(X0=.normal∨X0=.ret)∧(aB ρ st rs).bind (dy st)=some r:=by
 subst he
 exact⟨hx,by rw[h1];exact qU hg⟩
theorem aK {X0:X} {rs:List Rs} {t u:Bool} (hx:X0=.normal∨X0=.ret) (h1:aB ρ st rs=some (.bool t)) (he:t=u):(X0=.normal∨X0=.ret)∧(aB ρ st rs).bind (dy st)=some (.bool u):=be hx h1 rfl (by rw[he])
theorem dH {X0:X} {rs:List Rs} {κ:IntKind} {t u:Int} (hx:X0=.normal∨X0=.ret) (h1:aB ρ st rs=some (.int κ t)) (he:t=u):(X0=.normal∨X0=.ret)∧(aB ρ st rs).bind (dy st)=some (.int κ u):=be hx h1 rfl (by rw[he])
theorem u6 {t:Tok} {sz:Nat} {xs:List D}:∃t',dy st (.slice t sz xs)=some (.slice t' sz xs):=by
 simp only[dy,D.free,D.free1,if_true,dG,aG]
 cases t with
 |own k=>simp only[aM];split<;>exact⟨_,rfl⟩
 |_=>exact⟨_,rfl⟩
theorem zJ {α:Type} {e:α→D} {X0:X} {rs:List Rs} {t:Tok} {sz s:Nat} {xs ys:List α} (hx:X0=.normal∨X0=.ret) (h1:aB ρ st rs=some (.slice t s (xs.map e))) (hs:s=sz∨xs=[]) (he:xs=ys):(X0=.normal∨X0=.ret)∧∃r,(aB ρ st rs).bind (dy st)=some r∧Bw e sz ys r:=by
 subst he
 obtain⟨t',e'⟩:=u6 (st:=st) (t:=t) (sz:=s) (xs:=xs.map e)
 exact⟨hx,_,by rw[h1];exact e',t',s,rfl,hs⟩
theorem kj {α:Type} {e:α→D} {sz:Nat} {X0:X} {rs:List Rs} {ys:List α} {t:Tok} {s:Nat} (ht:t.dull=true) (hs:s=sz∨ys=[]) (h:(X0=.normal∨X0=.ret)∧(aB ρ st rs).bind (dy st)=some (.slice t s (ys.map e))):(X0=.normal∨X0=.ret)∧∃r,(aB ρ st rs).bind (dy st)=some r∧zO e sz ys r:=⟨h.1,_,h.2,t,s,rfl,hs,ht⟩
theorem sB {α:Type} {e:α→D} {X0:X} {rs:List Rs} {t:Tok} {sz s:Nat} {xs ys:List α} {vs us:List D} (hx:X0=.normal∨X0=.ret) (h1:aB ρ st rs=some (.tuple (.slice t s (xs.map e)::vs))) (hg:(D.tuple vs).ground=true) (hs:s=sz∨xs=[]) (he:xs=ys) (hv:vs=us):(X0=.normal∨X0=.ret)∧∃r,(aB ρ st rs).bind (dy st)=some r∧IsT e sz ys us r:=by
 subst he hv
 have hgs:∀w∈vs,w.ground=true:=fun w hw=>by
  simp only[D.ground,List.all_eq_true]at hg
  have:=hg w hw
  cases w<;>simp_all[D.ground,D.ground1]
 have hf:(D.tuple (.slice t s (xs.map e)::vs)).free=true:=by
  have:=gn hg
  simp only[D.free,List.all_cons,Bool.and_eq_true]at this ⊢
  exact⟨rfl,this⟩
 have:∃t',dy st (.tuple (.slice t s (xs.map e)::vs))=some (.tuple (.slice t' s (xs.map e)::vs)):=by
  simp only[dy,hf,if_true,dG,aG]
  rw[show vs.map D.strip=vs from(List.map_congr_left fun x hx=>c9 (hgs x hx)).trans (List.map_id' _)]
  cases t with
  |own k=>simp only[aM];split<;>exact⟨_,rfl⟩
  |_=>exact⟨_,rfl⟩
 obtain⟨t',e'⟩:=this
 exact⟨hx,_,by rw[h1];exact e',t',s,rfl,hs⟩
theorem cn {f:Nat} {cf:CF} {ds:List D} {P:D→Prop} (hf:Γ f=some (.code cf)) (hro:cf.ro=true) (h:WC Γ cf.body (enter ds) Store.empty (fun x ρ1 st1=>(x=.normal∨x=.ret)∧∃r,(aB ρ1 st1 cf.res).bind (dy st1)=some r∧P r)):EvX Γ f ds P:=by
 obtain⟨x,ρ1,st1,h1,h2,r,h3,h4⟩:=h
 exact⟨r,h4,aA hf hro ⟨x,ρ1,st1,h1,h2,h3⟩⟩
theorem ah {x:A} {a b:C} {Q:X→(Nat→D)→Store→Prop} (hx:x.ev ρ=.bool true) (h:WC Γ a ρ st Q):WC Γ (.cond x a b) ρ st Q:=WC_cond hx (by simpa using h)
theorem af {x:A} {a b:C} {Q:X→(Nat→D)→Store→Prop} (hx:x.ev ρ=.bool false) (h:WC Γ b ρ st Q):WC Γ (.cond x a b) ρ st Q:=WC_cond hx (by simpa using h)
theorem aa {k:Nat} {v:D} (h:ρ k=v):ap ρ k v=ρ:=by
 funext i
 by_cases hi:i=k
 ·subst hi;simp[ap,h]
 ·simp[ap,hi]
end
end Go.Ev
namespace Go.Ev
theorem a8 {bef:List (List Nat)} {fl:List Fl} {p:Prop} (h:bC bef fl=true) (hp:p):bC bef fl=true∧p:=⟨h,hp⟩
theorem rV {x:Int} (h: -9223372036854775808≤x∧x≤9223372036854775807):IntKind.i64.wrap x=x:=IntWalk.i64_in x h
end Go.Ev
namespace Go.Ev
section
variable {Γ:Nat→Option FD} {ρ:Nat→D} {st:Store} {dr:Bool} {R:(Nat→D)→Store→List Fl→Prop} {l:List Op1} {g:Option (Nat×Bool)} {mv:Bool} {k:Option Nat}
theorem ai {l:List Op1} (h:WS Γ dr l ρ st R):WS Γ dr l ρ st R:=h
end
end Go.Ev
