/-
  Rules to run the evaluator's code by hand: labels.
-/
import Derived.Test.YtjcilbnbciclpaaEvEvX8
set_option linter.unusedVariables false
set_option linter.unusedSimpArgs false
set_option linter.unnecessarySimpa false
namespace Go.Ev
section
variable {Γ:Nat→Option FD} {ρ:Nat→D} {st:Store} {Q:X→(Nat→D)→Store→Prop}
theorem ud {l:Nat} (h:Q (.goto l) ρ st):WC Γ (.goto l) ρ st Q:=⟨_,_,_,.all fun n=>by simp[aI],h⟩
theorem nE {c rest:C} {l:Nat} (h:WC Γ c ρ st (fun x ρ1 st1=>match x with| .goto l'=>l'=l∧WC Γ (.again l rest) ρ1 st1 Q|x=>Q x ρ1 st1)):WC Γ (.scope c l rest) ρ st Q:=by
 obtain⟨x,ρ1,st1,h1,h2⟩:=h
 cases x with
 |goto l'=>
  obtain⟨rfl,y,ρ2,st2,h3,h4⟩:=h2
  exact⟨y,ρ2,st2,h1.and h3 fun n p q=>by simp only[aI,p,if_true];exact q,h4⟩
 |_=>exact⟨_,ρ1,st1,h1.one fun n p=>by simp only[aI,p],h2⟩
theorem rl {rest:C} {l:Nat} (h:WC Γ rest ρ st (fun x ρ1 st1=>match x with| .goto l'=>l'=l∧WC Γ (.again l rest) ρ1 st1 Q|x=>Q x ρ1 st1)):WC Γ (.again l rest) ρ st Q:=by
 obtain⟨x,ρ1,st1,h1,h2⟩:=h
 cases x with
 |goto l'=>
  obtain⟨rfl,y,ρ2,st2,h3,h4⟩:=h2
  exact⟨y,ρ2,st2,h1.and h3 fun n p q=>by simp only[aI,p,if_true];exact q,h4⟩
 |_=>exact⟨_,ρ1,st1,h1.one fun n p=>by simp only[aI,p],h2⟩
end
theorem rk {sz bytes:Nat} {st st':Store} {p off n c:Nat} {y d:D} (h:fc sz bytes (.rs p off sz n c) y st=some (d,st')):∃p' o' n' c',d=.rs p' o' sz n' c'∧n'≤c':=by
 simp only[fc]at h
 obtain⟨⟨ys,m⟩,h1,h2⟩:=Option.bind_eq_some_iff.1 h
 simp only at h2
 split at h2<;>try contradiction
 split at h2<;>try contradiction
 split at h2
 ·rename_i hc
  simp only[Option.some.injEq,Prod.mk.injEq]at h2
  exact⟨_,_,_,_,h2.1.symm,hc.1⟩
 ·split at h2<;>try contradiction
  simp only[Option.some.injEq,Prod.mk.injEq]at h2
  exact⟨_,_,_,_,h2.1.symm,Nat.le_refl _⟩
def EvRWX (Γ:Nat→Option FD) (f:Nat) (ds:List D) (st:Store) (P:D→Store→Prop):Prop:=∃r st',P r st'∧EvRW Γ f ds st r st'
theorem bY {Γ:Nat→Option FD} {st:Store} {f:Nat} {cf:CF} {ds:List D} {P:D→Store→Prop} (hf:Γ f=some (.code cf)) (hro:cf.ro=false)
  (h:WC Γ cf.body (enter (ds.map D.strip)) st (fun x ρ1 st1=>(x=.normal∨x=.ret)∧∃r,aB ρ1 st1 cf.res=some r∧P r.strip st1)):EvRWX Γ f ds st P:=by
 obtain⟨x,ρ1,st1,h1,h2,r,h3,h4⟩:=h
 exact⟨r.strip,st1,h4,gR hf hro ⟨x,ρ1,st1,h1,h2,by rw[h3];rfl⟩⟩
theorem EvRWX.mono {Γ:Nat→Option FD} {st:Store} {f:Nat} {ds:List D} {P P':D→Store→Prop} (h:EvRWX Γ f ds st P) (hp:∀r st',P r st'→P' r st'):EvRWX Γ f ds st P':=by
 obtain⟨r,st',h1,h2⟩:=h
 exact⟨r,st',hp _ _ h1,h2⟩
section
variable {Γ:Nat→Option FD} {ρ:Nat→D} {st:Store} {dr:Bool} {R:(Nat→D)→Store→List Fl→Prop} {l:List Op1} {g:Option (Nat×Bool)} {mv:Bool} {k:Nat} {x:A}
theorem dF {P:D→Store→Prop} {f:A} {as:List A} {fn:Nat} {caps:List D} (hg:ak ρ g=some true) (hf:f.ev ρ=.func fn caps) (ha:((as.map (·.ev ρ)++caps).map D.strip).all D.freeA=false) (hr:EvRWX Γ fn (as.map (·.ev ρ)++caps) st P)
  (h:∀r st1,P r st1→WS Γ dr l (ap ρ k r) st1 (nx .f R)) (hmv:dr=true→mv=false:=by first|exact fun _=>rfl|exact fun h=>nomatch h):WS Γ dr (⟨some k,g,mv,.call f as⟩::l) ρ st R:=by
 obtain⟨r,st1,h1,h2⟩:=hr
 exact xp hg hf ha h2 (h r st1 h1) hmv
theorem mb {t:Tok} {s:Nat} (hg:ak ρ g=some true) (hx:x.ev ρ=.slice t s []) (hm:mv=false) (h:WS Γ dr l (ap ρ k (.int .i64 0)) st (nx .n R)):WS Γ dr (⟨some k,g,mv,.lenS x⟩::l) ρ st R:=by
 subst hm
 exact WS_op (d:=.int .i64 0) hg rfl (by simp[O.runM,O.run,hx]) h
theorem tJ {P:D→Store→Prop} {f:A} {as:List A} {fn:Nat} {caps:List D} (hg:ak ρ g=some true) (hf:f.ev ρ=.func fn caps) (hr:EvRWX Γ fn (as.map (·.ev ρ)++caps) st P)
  (h:∀r st1,P r st1→WS Γ dr l (ap ρ k r) st1 (nx .f R)) (hmv:dr=true→mv=false:=by first|exact fun _=>rfl|exact fun h=>nomatch h):WS Γ dr (⟨some k,g,mv,.call f as⟩::l) ρ st R:=by
 obtain⟨r,st1,h1,h2⟩:=hr
 exact bQ hg rfl hf h2 (h r st1 h1) hmv
theorem ve {y:A} {p sz n c bytes:Nat} {t:Tok} {s:Nat} {xs ys:List D} (hg:ak ρ g=some true) (hx:x.ev ρ=.rs p 0 sz n c) (hy:y.ev ρ=.slice t s ys) (hR:RowIs st p sz xs) (hn:n=xs.length) (hs:s=sz∨ys=[]) (hxs:∀d∈xs,d.cells.length=sz) (hys:∀d∈ys,gL sz d) (hb:(n+ys.length)*bytes≤140737488355328)
  (h:∀p' c' st',st'.lim=st.lim→st'.tlim=st.tlim→st'.toks=st.toks→st'.ntok=st.ntok→RowIs st' p' sz (xs++ys)→(∀q,q≠p→q<st.next→st'.boxes q=st.boxes q)→st.next≤st'.next→(p'=p∨st.next≤p')→n+ys.length≤c'→WS Γ dr l (ap ρ k (.rs p' 0 sz (n+ys.length) c')) st' (nx .f R)):WS Γ dr (⟨some k,g,mv,.append sz bytes x y⟩::l) ρ st R:=by
 obtain⟨p',c',st',h1,h2,h3,h4,h5,h6,h7,h8,h9⟩:=RowIs.app (t:=t) (c:=c) hR hn hs hxs hys hb
 obtain⟨_,_,_,_,he,hle⟩:=rk h1
 cases he
 refine WS_op hg rfl ?_ (h p' c' st' h2 h3 h4 h5 h6 h7 h8 h9 hle) ?_
 ·cases mv<;>simp only[O.runM,O.run,hx,hy,e9,dt,h1]
 ·cases mv<;>simp[O.acc,hx,hy]
theorem aQ {p off:Nat} (hg:ak ρ g=some true) (hx:x.ev ρ=.ptr p off) (h:WS Γ dr l (ap ρ k (.ptr p off)) st (nx .n R)):WS Γ dr (⟨some k,g,mv,.nilCheck x⟩::l) ρ st R:=by
 refine WS_op (d:=.ptr p off) hg rfl ?_ h
 cases mv<;>simp[O.runM,O.run,hx]
theorem qW {p off o:Nat} (hg:ak ρ g=some true) (hx:x.ev ρ=.ptr p o) (h:WS Γ dr l (ap ρ k (.ptr p (o+off))) st (nx .n R)):WS Γ dr (⟨some k,g,mv,.faddr off x⟩::l) ρ st R:=by
 refine WS_op (d:=.ptr p (o+off)) hg rfl ?_ h
 cases mv<;>simp[O.runM,O.run,hx]
theorem mc {cs:List D} {p off sz:Nat} {agg:Bool} {d:D} (hg:ak ρ g=some true) (hx:x.ev ρ=.ptr p off) (hb:(st.boxes p).bind Box.cs=some cs) (hl:st.lim≤p) (hc:cut agg sz off cs=some d) (h:WS Γ dr l (ap ρ k d) st (nx (.r p) R)):WS Γ dr (⟨some k,g,mv,.load agg sz x⟩::l) ρ st R:=by
 refine WS_op (d:=d) hg rfl ?_ h
 cases mv<;>simp[O.runM,O.run,hx,Store.cellsAt,hb,Nat.not_lt.mpr hl,hc]
theorem o8 {sz:Nat} {xs:List A} {ys:List D} (hg:ak ρ g=some true) (hx:xs.map (·.ev ρ)=ys) (hs:ys.map D.strip=ys) (h0:ys.all (fun x=>x.cells.length==sz&&x.cells.all D.plain)=true) (h1:xs.length*sz≤16777216) (h:WS Γ dr l (ap ρ k (.slice .exact sz ys)) st (nx .n R)):WS Γ dr (⟨some k,g,mv,.bslice sz xs⟩::l) ρ st R:=by
 have e1:(xs.map fun x=>(x.ev ρ).strip)=ys:=by rw[←hs,←hx,List.map_map];rfl
 have e2:(xs.all fun x=>(x.ev ρ).strip.cells.length==sz&&(x.ev ρ).strip.cells.all D.plain)=true:=by
  rw[←e1,List.all_map]at h0
  exact h0
 refine WS_op (d:=.slice .exact sz ys) (st1:=st) hg rfl ?_ h
 cases mv<;>simp only[O.runM,O.run,e2,decide_eq_true h1,Bool.and_self,if_true,e1]
end
end Go.Ev
