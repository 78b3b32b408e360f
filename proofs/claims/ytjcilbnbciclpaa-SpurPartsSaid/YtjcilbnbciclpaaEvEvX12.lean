/-
  A row that is handed over for good, to one that reads it and hands back a row; the first ones of a row, without room.
-/
import Derived.Test.YtjcilbnbciclpaaEvEvX10
import Derived.Test.YtjcilbnbciclpaaEvEvX9
import Derived.Test.YtjcilbnbciclpaaEvEvX8
set_option linter.unusedVariables false
set_option linter.unusedSimpArgs false
set_option linter.unnecessarySimpa false
namespace Go.Ev
variable {Γ:Nat→Option FD} {ρ:Nat→D} {st:Store} {dr:Bool} {R:(Nat→D)→Store→List Fl→Prop} {l:List Op1} {g:Option (Nat×Bool)} {mv:Bool} {k:Nat} {x y i:A}
theorem u8 {f:A} {as:List A} {fn:Nat} {caps:List D} {r:D} (hg:ak ρ g=some true) (hf:f.ev ρ=.func fn caps) (ha:((as.map (·.ev ρ)++caps).map D.strip).all D.freeA=true) (hr:EvP Γ fn ((as.map (·.ev ρ)++caps).map D.strip) r)
  (hs:r.still=true) (hf0:av r=false) (hw:cS r=false) (h:WS Γ true l (ap ρ k r) st (nx .n R)):WS Γ true (⟨some k,g,mv,.call f as⟩::l) ρ st R:=
 vE hg rfl hf ha hr hf0 hw (io hs) h
theorem yx {c:C} {Q Q':X→(Nat→D)→Store→Prop} (h:WC Γ c ρ st Q') (hq:∀x ρ' st',Q' x ρ' st'→Q x ρ' st'):WC Γ c ρ st Q:=by
 obtain⟨x,ρ',st',h1,h2⟩:=h
 exact⟨x,ρ',st',h1,hq _ _ _ h2⟩
theorem w4 {l:Nat} {ps:List Nat} {cs:List D} (h1:st.lim≤l) (h2:l<st.next) (h3:st.boxes l=some (.row cs)) (h4:∀p∈ps,p<l∧∃cs,st.boxes p=some (.cells cs)):fN st l ps=true:=by
 simp only[fN,Bool.and_eq_true,decide_eq_true_eq,List.all_eq_true,h3]
 refine⟨⟨⟨h1,h2⟩,trivial⟩,fun p hp=>⟨(h4 p hp).1,?_⟩⟩
 obtain⟨cs,h⟩:=(h4 p hp).2
 rw[h]
theorem wV {α:Type} {e:α→D} {f:A} {as:List A} {fn:Nat} {caps:List D} {sz:Nat} {xs:List α} (hg:ak ρ g=some true) (hf:f.ev ρ=.func fn caps) (ha:((as.map (·.ev ρ)++caps).map D.strip).all D.freeA=true) (hr:EvX Γ fn ((as.map (·.ev ρ)++caps).map D.strip) (fun r=>r=.slice .row sz (xs.map e)))
  (hm:mv=true) (he:∀x,gL sz (e x)) (hl:st.lim≤st.next)
  (h:∀st',st'.lim=st.lim→st'.tlim=st.tlim→st'.toks=st.toks→st'.ntok=st.ntok→RowIs st' st.next sz (xs.map e)→(∀q,q≠st.next→st'.boxes q=st.boxes q)→st'.next=st.next+1→WS Γ true l (ap ρ k (.rs st.next 0 sz xs.length xs.length)) st' (nx (.a st.next) R)):WS Γ true (⟨some k,g,mv,.call f as⟩::l) ρ st R:=by
 subst hm
 obtain⟨r,rfl,hr⟩:=hr
 have hxs:∀d∈xs.map e,gL sz d:=fun d hd=>by
  obtain⟨a,_,rfl⟩:=List.mem_map.mp hd
  exact he a
 have h1:=h {st with boxes:=ap st.boxes st.next (some (.row ((xs.map e).flatMap D.cells))),next:=st.next+1} rfl rfl rfl rfl (vA hxs hl) (fun q hq=>ab _ _ hq) rfl
 have hab:au true (.slice .row sz (xs.map e)) st=(.rs st.next 0 sz xs.length xs.length,{st with boxes:=ap st.boxes st.next (some (.row ((xs.map e).flatMap D.cells))),next:=st.next+1}):=by
  have e1:au true (.slice .row sz (xs.map e)) st=(.rs st.next 0 sz (xs.map e).length (xs.map e).length,{st with boxes:=ap st.boxes st.next (some (.row ((xs.map e).flatMap D.cells))),next:=st.next+1}):=rfl
  rw[List.length_map]at e1
  exact e1
 exact u4 hg rfl hf ha hr rfl rfl rfl hab h1
theorem iX {α:Type} {p:α→Bool}:∀{cs:List α} {n:Nat},n≤cs.length→(∀c∈cs.take n,p c=true)→n≤(cs.takeWhile p).length∧(cs.takeWhile p).take n=cs.take n
 |cs,0,_,_=>⟨Nat.zero_le _,by simp⟩
 |[],n+1,h,_=>by simp at h
 |c::cs,n+1,h,hp=>by
  have h1:p c=true:=hp c (by simp)
  obtain⟨i1,i2⟩:=iX (cs:=cs) (n:=n) (by simpa using h) (fun x hx=>hp x (by rw[List.take_succ_cons];exact List.mem_cons_of_mem _ hx))
  rw[List.takeWhile_cons,h1]
  simp only[if_true,List.length_cons,List.take_succ_cons,i2]
  exact⟨by omega,trivial⟩
theorem RowIs.gRow {C1 st':Store} {q sz:Nat} {xs:List D} (h:RowIs C1 q sz xs) (hg:∀d∈xs,d.cells.length=sz∧∀c∈d.cells,c.ground1=true) (hb:st'.boxes q=Go.Ev.gRow (C1.boxes q)) (hl:st'.lim≤q) (hn:q<st'.next):RowIs st' q sz xs:=by
 obtain⟨_,_,cs,h3,h4,h5,h6⟩:=h
 have hgr:∀c∈cs.take (xs.length*sz),c.ground1=true:=fun c hc=>by
  rw[h5]at hc
  obtain⟨d,hd,hcd⟩:=List.mem_flatMap.1 hc
  exact(hg d hd).2 c hcd
 obtain⟨e1,e2⟩:=iX h4 hgr
 refine⟨hl,hn,_,by rw[hb,h3];rfl,e1,by rw[e2];exact h5,?_⟩
 rw[List.all_eq_true]
 intro c hc
 have:=eO hc
 cases c<;>simp_all[D.ground1,D.plain]
theorem uX {P:D→Store→Prop} {f:A} {as:List A} {fn:Nat} {caps:List D} {p:Nat} {ps:List Nat} (hg:ak ρ g=some true) (hf:f.ev ρ=.func fn caps) (ha:((as.map (·.ev ρ)++caps).map D.strip).all D.freeA=false) (hm:mv=true) (hc:jM (as.map (·.ev ρ)++caps)=some (p,ps)) (hro:vU Γ fn=false) (hok:fN st p ps=true)
  (hr:EvRWX Γ fn (as.map (·.ev ρ)++caps) (jd st p ps) (fun r C1=>kN r p=true∧P r C1)) (h:∀r C1,P r C1→WS Γ true l (ap ρ k r) {st with boxes:=ap st.boxes p (gRow (C1.boxes p))} (nx (.v p ps) R)):WS Γ true (⟨some k,g,mv,.call f as⟩::l) ρ st R:=by
 subst hm
 obtain⟨r,C1,⟨hres,hP⟩,hr⟩:=hr
 obtain⟨ρ1,st2,fl,h1,h2⟩:=h r C1 hP
 refine⟨ρ1,st2,_,?_,h2⟩
 refine Evt.and (by simpa using h1) hr fun n q q2=>?_
 simp only[aX,hg,hf,ha,Bool.false_eq_true,if_false,if_true,hc,hro,hok,q2.2,hres]
 simp only[bN,q]
theorem wm {P:D→Prop} {f:A} {as:List A} {fn:Nat} {caps:List D} {p:Nat} {ps:List Nat} (hg:ak ρ g=some true) (hf:f.ev ρ=.func fn caps) (ha:((as.map (·.ev ρ)++caps).map D.strip).all D.freeA=false) (hm:mv=true) (hc:jM (as.map (·.ev ρ)++caps)=none) (hc2:uI (as.map (·.ev ρ)++caps)=some (p,ps))
  (hr:EvRWX Γ fn (as.map (·.ev ρ)++caps) (lZ st p ps) (fun r C1=>gZ r=true∧P r)) (h:∀r,P r→WS Γ true l (ap ρ k r) st (nx (.v p ps) R)):WS Γ true (⟨some k,g,mv,.call f as⟩::l) ρ st R:=by
 subst hm
 obtain⟨r,C1,⟨hres,hP⟩,hr⟩:=hr
 obtain⟨ρ1,st2,fl,h1,h2⟩:=h r hP
 refine⟨ρ1,st2,_,?_,h2⟩
 refine Evt.and (by simpa using h1) hr fun n q q2=>?_
 simp only[aX,hg,hf,ha,Bool.false_eq_true,if_false,if_true,hc,hc2,q2.2,hres]
 simp only[bN,q]
theorem ws {α:Type} {e:α→D} {P:D→Prop} {f:A} {as:List A} {fn sz q n c:Nat} {caps ds:List D} {xs:List α} (hg:ak ρ g=some true) (hf:f.ev ρ=.func fn caps) (ha:as.map (·.ev ρ)++caps=.rs q 0 sz n c::ds) (hR:RowIs st q sz (xs.map e)) (hn:n=xs.length) (hz:0<sz) (he:∀a,(e a).cells.length=sz∧qC (e a).cells=e a) (hd:ds.map (seen st)=ds.map D.strip) (hdr:ds.flatMap D.rowOf=[]) (hfr:(ds.map D.strip).all D.freeA=true) (hof:eX st ds=true) (hro:vU Γ fn=true) (hm:mv=true)
  (hr:EvX Γ fn (.slice .no sz (xs.map e)::ds.map D.strip) (fun r=>(r.free=true∧cS r=false)∧P r.strip))
  (h:∀r,P r→WS Γ true l (ap ρ k r) {st with boxes:=ap st.boxes q none} (nx (.w q) R)):WS Γ true (⟨some k,g,mv,.call f as⟩::l) ρ st R:=by
 subst hm
 obtain⟨r,⟨⟨r1,r2⟩,hP⟩,hr⟩:=hr
 have hs:=wM (c:=c) hR.at hn hz he
 obtain⟨ρ1,st2,fl,h1,h2⟩:=h _ hP
 refine⟨ρ1,st2,_,?_,h2⟩
 have hc:jM (.rs q 0 sz n c::ds)=some (q,ds.flatMap D.ptrsOf):=by
  unfold jM
  rw[List.flatMap_cons,hdr]
  rfl
 have h0:((D.rs q 0 sz n c::ds).map D.strip).all D.freeA=false:=rfl
 have hse:((D.rs q 0 sz n c::ds).map (seen st)).all D.freeA=true:=by
  rw[List.map_cons,hs,hd,List.all_cons,hfr]
  rfl
 have hofr:eX st (.rs q 0 sz n c::ds)=true:=by
  simp only[eX,List.all_cons,Bool.and_eq_true]
  exact⟨decide_eq_true hR.1,hof⟩
 have hr':EvP Γ fn ((D.rs q 0 sz n c::ds).map (seen st)) r:=by
  rw[List.map_cons,hs,hd]
  exact hr
 refine Evt.and (by simpa using h1) hr' fun n q q2=>?_
 simp only[aX,hg,hf,ha,h0,Bool.false_eq_true,if_false,if_true,hc,hro,hse,hofr,Bool.and_self,q2,r1,r2,Bool.not_false]
 simp only[bN,q]
theorem wY {P:D→Prop} {f:A} {as:List A} {fn:Nat} {caps:List D} (hg:ak ρ g=some true) (hf:f.ev ρ=.func fn caps) (ha:((as.map (·.ev ρ)++caps).map D.strip).all D.freeA=true) (hm:mv=true)
  (hr:EvX Γ fn ((as.map (·.ev ρ)++caps).map D.strip) (fun r=>(r.free=true∧cS r=false)∧P (if av r then r.strip else r)))
  (h:∀r,P r→WS Γ true l (ap ρ k r) st (nx .n R)):WS Γ true (⟨some k,g,mv,.call f as⟩::l) ρ st R:=by
 subst hm
 obtain⟨r,⟨⟨r1,r2⟩,hP⟩,hr⟩:=hr
 obtain⟨ρ1,st2,fl,h1,h2⟩:=h _ hP
 refine⟨ρ1,st2,_,?_,h2⟩
 refine Evt.and (by simpa using h1) hr fun n q q2=>?_
 cases hfr:av r with
 |true=>
  rw[hfr]at q
  simp only[if_true]at q
  simp only[aX,hg,hf,ha,if_true,q2,hfr,r1,r2,Bool.not_false,Bool.and_self]
  simp only[bN,q]
 |false=>
  rw[hfr]at q
  simp only[Bool.false_eq_true,if_false]at q
  have hab:(au false r st).1=r:=by rw[gk hfr r2]
  simp only[aX,hg,hf,ha,if_true,q2,hfr,r2,Bool.and_false,Bool.false_eq_true,if_false,hab]
  simp only[bN,q]
def Ah {α:Type} (e:α→D) (sz:Nat) (xs:List α) (vs:List D) (r:D):Prop:=∃t s,r=.tuple (.slice t s (xs.map e)::vs)∧((t=.isnil∨t=.exact)∧(s=sz∨(s=0∧xs.map e=[]))∨t=.fresh∧s=sz)
theorem yF {α:Type} {e:α→D} {X0:X} {rs:List Rs} {t:Tok} {sz s:Nat} {xs ys:List α} {vs us:List D} (hx:X0=.normal∨X0=.ret) (h1:aB ρ st rs=some (.tuple (.slice t s (xs.map e)::vs))) (hg:(D.tuple vs).ground=true) (hO:eV st sz t s (xs.map e)) (he:xs=ys) (hv:vs=us):(X0=.normal∨X0=.ret)∧∃r,(aB ρ st rs).bind (dy st)=some r∧Ah e sz ys us r:=by
 subst he hv
 have hgs:∀w∈vs,w.ground=true:=fun w hw=>by
  simp only[D.ground,List.all_eq_true]at hg
  have:=hg w hw
  cases w<;>simp_all[D.ground,D.ground1]
 have hf:(D.tuple (.slice t s (xs.map e)::vs)).free=true:=by
  have:=gn hg
  simp only[D.free,List.all_cons,Bool.and_eq_true]at this ⊢
  exact⟨rfl,this⟩
 have hvs:vs.map D.strip=vs:=(List.map_congr_left fun x hx=>c9 (hgs x hx)).trans (List.map_id' _)
 refine⟨hx,?_⟩
 rw[h1]
 simp only[Option.bind_some,dy,hf,if_true,dG,aG,hvs]
 rcases hO with⟨ht,hs⟩|⟨k,rfl,hk,hkl,rfl⟩
 ·rcases ht with rfl|rfl
  ·exact⟨_,rfl,_,_,rfl,.inl ⟨.inl rfl,hs⟩⟩
  ·exact⟨_,rfl,_,_,rfl,.inl ⟨.inr rfl,hs⟩⟩
 ·refine⟨_,rfl,.fresh,s,?_,.inr ⟨rfl,rfl⟩⟩
  simp only[aM,hk,hkl,decide_true,Bool.and_self,if_true,Option.getD_some]
def AppK (st:Store) (sz:Nat) (t:Tok) (s:Nat) (xs:List D):Prop:=((t=.isnil∨t=.exact)∧(s=sz∨(s=0∧xs=[])))∨(∃k,t=.own k∧st.toks k=true∧st.tlim≤k∧k<st.ntok∧s=sz)
theorem AppK.ok {st:Store} {sz s:Nat} {t:Tok} {xs:List D} (h:AppK st sz t s xs):eV st sz t s xs:=by
 rcases h with h|⟨k,h1,h2,h3,_,h5⟩
 ·exact .inl h
 ·exact .inr ⟨k,h1,h2,h3,h5⟩
theorem AppK.sz {st:Store} {sz s:Nat} {t:Tok} {α:Type} {e:α→D} {xs:List α} (h:AppK st sz t s (xs.map e)):s=sz∨xs=[]:=by
 rcases h with⟨_,h|⟨_,h⟩⟩|⟨k,_,_,_,_,h⟩
 ·exact .inl h
 ·exact .inr (by simpa using h)
 ·exact .inl h
theorem AppK.of {st st':Store} {sz s:Nat} {t:Tok} {xs:List D} (h:AppK st sz t s xs) (h1:∀k,k<st.ntok→st'.toks k=st.toks k) (h2:st.ntok≤st'.ntok) (h3:st'.tlim=st.tlim):AppK st' sz t s xs:=by
 rcases h with h|⟨k,e1,e2,e3,e4,e5⟩
 ·exact .inl h
 ·exact .inr ⟨k,e1,(h1 k e4).trans e2,by omega,by omega,e5⟩
theorem qr {α:Type} {e:α→D} {f:A} {as:List A} {fn:Nat} {caps:List D} {sz:Nat} {xs:List α} {vs:List D} (hg:ak ρ g=some true) (hf:f.ev ρ=.func fn caps) (ha:((as.map (·.ev ρ)++caps).map D.strip).all D.freeA=true) (hr:EvX Γ fn ((as.map (·.ev ρ)++caps).map D.strip) (Ah e sz xs vs)) (htl:st.tlim≤st.ntok)
  (hm:mv=false) (h:∀t s st',st'.boxes=st.boxes→st'.next=st.next→st'.lim=st.lim→st'.tlim=st.tlim→st.ntok≤st'.ntok→(∀k,k<st.ntok→st'.toks k=st.toks k)→AppK st' sz t s (xs.map e)→WS Γ false l (ap ρ k (.tuple (.slice t s (xs.map e)::vs))) st' (nx .n R)):WS Γ false (⟨some k,g,mv,.call f as⟩::l) ρ st R:=by
 subst hm
 obtain⟨r,⟨t,s,rfl,hts⟩,hr⟩:=hr
 rcases hts with⟨ht,hs⟩|⟨rfl,rfl⟩
 ·have hab:au false (.tuple (.slice t s (xs.map e)::vs)) st=(.tuple (.slice t s (xs.map e)::vs),st):=by rcases ht with rfl|rfl<;>rfl
  exact dh hg rfl hf ha hr (fun h=>by cases h) hab (h t s st rfl rfl rfl rfl (Nat.le_refl _) (fun _ _=>rfl) (.inl ⟨ht,hs⟩))
 ·exact dh hg rfl hf ha hr (fun h=>by cases h) rfl (h (.own st.ntok) s {st with toks:=ap st.toks st.ntok true,ntok:=st.ntok+1} rfl rfl rfl rfl (Nat.le_succ _) (fun k hk=>ab _ _ (Nat.ne_of_lt hk)) (.inr ⟨st.ntok,rfl,ae _ _ _,htl,Nat.lt_succ_self _,rfl⟩))
theorem nR {α:Type} {e:α→D} {f:A} {as:List A} {fn:Nat} {caps:List D} {sz:Nat} {xs:List α} {vs:List D} (hg:ak ρ g=some true) (hf:f.ev ρ=.func fn caps) (ha:((as.map (·.ev ρ)++caps).map D.strip).all D.freeA=true) (hr:EvX Γ fn ((as.map (·.ev ρ)++caps).map D.strip) (IsT e sz xs vs))
  (hm:mv=false) (h:∀t s st',(s=sz∨xs=[])→st'.boxes=st.boxes→st'.next=st.next→st'.lim=st.lim→st'.tlim=st.tlim→st.ntok≤st'.ntok→(∀k,k<st.ntok→st'.toks k=st.toks k)→WS Γ false l (ap ρ k (.tuple (.slice t s (xs.map e)::vs))) st' (nx .n R)):WS Γ false (⟨some k,g,mv,.call f as⟩::l) ρ st R:=by
 subst hm
 obtain⟨r,⟨t,s,rfl,hs⟩,hr⟩:=hr
 by_cases hfr:t=.fresh
 ·subst hfr
  exact dh hg rfl hf ha hr (fun h=>by cases h) rfl (h (.own st.ntok) s {st with toks:=ap st.toks st.ntok true,ntok:=st.ntok+1} hs rfl rfl rfl rfl (Nat.le_succ _) (fun k hk=>ab _ _ (Nat.ne_of_lt hk)))
 ·have hab:∃t',au false (.tuple (.slice t s (xs.map e)::vs)) st=(.tuple (.slice t' s (xs.map e)::vs),st):=by
   cases t<;>first|exact absurd rfl hfr|exact⟨_,rfl⟩
  obtain⟨t',hab⟩:=hab
  exact dh hg rfl hf ha hr (fun h=>by cases h) hab (h t' s st hs rfl rfl rfl rfl (Nat.le_refl _) (fun _ _=>rfl))
theorem RowIs.take {p sz:Nat} {xs:List D} (h:RowIs st p sz xs) (hxs:∀d∈xs,d.cells.length=sz) (j:Nat):RowIs st p sz (xs.take j):=by
 obtain⟨h1,h2,cs,h3,h4,h5,h6⟩:=h
 have hl:(xs.take j).length≤xs.length:=by rw[List.length_take];exact Nat.min_le_right _ _
 have hl2:(xs.take j).length*sz≤xs.length*sz:=Nat.mul_le_mul_right _ hl
 refine⟨h1,h2,cs,h3,Nat.le_trans hl2 h4,?_,h6⟩
 have e1:cs.take ((xs.take j).length*sz)=(cs.take (xs.length*sz)).take ((xs.take j).length*sz):=by
  rw[List.take_take,Nat.min_eq_left hl2]
 rw[e1,h5]
 have e2:xs.flatMap D.cells=(xs.take j).flatMap D.cells++(xs.drop j).flatMap D.cells:=by
  rw[←List.flatMap_append,List.take_append_drop]
 have e3:=bz (sz:=sz) (xs:=xs.take j) (fun d hd=>hxs d (List.mem_of_mem_take hd))
 rw[e2,←e3,List.take_left']
 rfl
end Go.Ev
