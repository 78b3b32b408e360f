/-
  A row that is handed over for good, to one that reads it and hands back a row; the first ones of a row, without room.
-/
import Derived.Test.YtcejefmekkiboaaEvEvX9
set_option linter.unusedVariables false
set_option linter.unusedSimpArgs false
set_option linter.unnecessarySimpa false
namespace Go.Ev
variable {Γ:Nat→Option FD} {ρ:Nat→D} {st:Store} {dr:Bool} {R:(Nat→D)→Store→List Fl→Prop} {l:List Op1} {g:Option (Nat×Bool)} {mv:Bool} {k:Nat} {x y i:A}
theorem Cc {f:Nat} {cf:CF} {ds:List D} {r:D} (hf:Γ f=some (.code cf)) (hro:cf.ro=true) (ha:(ds.map D.strip).all D.freeA=false) (hs:(ds.map D.strip).all D.seeable=true) (hs2:(ds.map (seen st)).all D.freeA=true) (ho:fI st ds=true) (h:EvP Γ f (ds.map (seen st)) r) (hr:r.apart=false):EvRW Γ f ds st (aw true r (uS ds st)).1 (aw true r (uS ds st)).2:=
 h.one fun n p=>⟨by simp only[bs,ha,hs,hs2,Bool.false_eq_true,if_false,if_true,p,hr],by simp only[aQ,hf,hro,ha,hs,hs2,ho,Bool.and_self,Bool.false_eq_true,if_false,if_true,p,hr]⟩
theorem vQ {α:Type} {e:α→D} {f:A} {as:List A} {fn sz q n c:Nat} {cf:CF} {caps ds:List D} {xs ys:List α} (hg:ao ρ g=some true) (hf:f.ev ρ=.func fn caps) (ha:as.map (·.ev ρ)++caps=.rs q 0 sz n c::ds) (hR:RowIs st q sz (xs.map e)) (hn:n=xs.length) (hz:0<sz) (he:∀a,(e a).cells.length=sz∧sy (e a).cells=e a) (hd:ds.map (seen st)=ds.map D.strip) (hdr:uS ds {st with boxes:=ap st.boxes q none}={st with boxes:=ap st.boxes q none}) (hfr:(ds.map D.strip).all D.freeA=true) (hof:fI st ds=true) (hΓ:Γ fn=some (.code cf)) (hro:cf.ro=true)
  (hr:EvX Γ fn (.slice .no sz (xs.map e)::ds.map D.strip) (fun r=>r=.slice .row sz (ys.map e))) (hap:(D.slice .row sz (ys.map e)).apart=false) (hl:st.lim≤st.next) (hel:∀a,eb sz (e a))
  (h:∀st',st'.lim=st.lim→st'.tlim=st.tlim→st'.toks=st.toks→st'.ntok=st.ntok→RowIs st' st.next sz (ys.map e)→(∀p,p≠q→p<st.next→st'.boxes p=st.boxes p)→st'.next=st.next+1→WS Γ dr l (ap ρ k (.rs st.next 0 sz ys.length ys.length)) st' (nx .f R)) (hmv:dr=true→mv=false:=by first|exact fun _=>rfl|exact fun h=>nomatch h):WS Γ dr (⟨some k,g,mv,.call f as⟩::l) ρ st R:=by
 obtain⟨r,rfl,hr⟩:=hr
 have hs:=qo (c:=c) hR.at hn hz he
 have h0:((D.rs q 0 sz n c::ds).map D.strip).all D.freeA=false:=rfl
 have key:EvRW Γ fn (as.map (·.ev ρ)++caps) st (.rs st.next 0 sz ys.length ys.length) {st with boxes:=ap (ap st.boxes q none) st.next (some (.row ((ys.map e).flatMap D.cells))),next:=st.next+1}:=by
  rw[ha]
  have h1:=Cc (ds:=.rs q 0 sz n c::ds) (st:=st) hΓ hro h0 (by
   simp only[List.map_cons,List.all_cons,Bool.and_eq_true]
   exact⟨rfl,List.all_eq_true.mpr fun d hd=>mO (List.all_eq_true.mp hfr d hd)⟩) (by
   rw[List.map_cons,hs,hd,List.all_cons,hfr]
   rfl) (by
   simp only[fI,List.all_cons,Bool.and_eq_true]
   exact⟨decide_eq_true hR.1,hof⟩) (by
   rw[List.map_cons,hs,hd]
   exact hr) hap
  have hab:aw true (.slice .row sz (ys.map e)) (uS (.rs q 0 sz n c::ds) st)=(.rs st.next 0 sz ys.length ys.length,{st with boxes:=ap (ap st.boxes q none) st.next (some (.row ((ys.map e).flatMap D.cells))),next:=st.next+1}):=by
   rw[show uS (.rs q 0 sz n c::ds) st={st with boxes:=ap st.boxes q none}from hdr]
   have e1:aw true (.slice .row sz (ys.map e)) {st with boxes:=ap st.boxes q none}=(.rs st.next 0 sz (ys.map e).length (ys.map e).length,{st with boxes:=ap (ap st.boxes q none) st.next (some (.row ((ys.map e).flatMap D.cells))),next:=st.next+1}):=rfl
   rw[List.length_map]at e1
   exact e1
  rw[hab]at h1
  exact h1
 have hq:=hR.2.1
 refine cp hg rfl hf key (h _ rfl rfl rfl rfl ?_ (fun p hp hp2=>?_) rfl) hmv
 ·have:=mo (st:={st with boxes:=ap st.boxes q none}) (sz:=sz) (xs:=ys.map e) (fun d hd=>by
   obtain⟨a,_,rfl⟩:=List.mem_map.mp hd
   exact hel a) hl
  exact this
 ·show ap (ap st.boxes q none) st.next _ p=_
  rw[ab _ _ (by omega),ab _ _ hp]
theorem s9 {f:A} {as:List A} {fn:Nat} {caps:List D} {r:D} (hg:ao ρ g=some true) (hf:f.ev ρ=.func fn caps) (ha:((as.map (·.ev ρ)++caps).map D.strip).all D.freeA=true) (hr:EvP Γ fn ((as.map (·.ev ρ)++caps).map D.strip) r)
  (hs:r.still=true) (hf0:aF r=false) (hw:dS r=false) (h:WS Γ true l (ap ρ k r) st (nx .n R)):WS Γ true (⟨some k,g,mv,.call f as⟩::l) ρ st R:=
 sx hg rfl hf ha hr hf0 hw (iK hs) h
theorem yd {c:C} {Q Q':X→(Nat→D)→Store→Prop} (h:WC Γ c ρ st Q') (hq:∀x ρ' st',Q' x ρ' st'→Q x ρ' st'):WC Γ c ρ st Q:=by
 obtain⟨x,ρ',st',h1,h2⟩:=h
 exact⟨x,ρ',st',h1,hq _ _ _ h2⟩
theorem AU {l:Nat} {ps:List Nat} {cs:List D} (h1:st.lim≤l) (h2:l<st.next) (h3:st.boxes l=some (.row cs)) (h4:∀p∈ps,p<l∧∃cs,st.boxes p=some (.cells cs)):jh st l ps=true:=by
 simp only[jh,Bool.and_eq_true,decide_eq_true_eq,List.all_eq_true,h3]
 refine⟨⟨⟨h1,h2⟩,trivial⟩,fun p hp=>⟨(h4 p hp).1,?_⟩⟩
 obtain⟨cs,h⟩:=(h4 p hp).2
 rw[h]
theorem AZ {α:Type} {e:α→D} {f:A} {as:List A} {fn:Nat} {caps:List D} {sz:Nat} {xs:List α} (hg:ao ρ g=some true) (hf:f.ev ρ=.func fn caps) (ha:((as.map (·.ev ρ)++caps).map D.strip).all D.freeA=true) (hr:EvX Γ fn ((as.map (·.ev ρ)++caps).map D.strip) (fun r=>r=.slice .row sz (xs.map e)))
  (hm:mv=true) (he:∀x,eb sz (e x)) (hl:st.lim≤st.next)
  (h:∀st',st'.lim=st.lim→st'.tlim=st.tlim→st'.toks=st.toks→st'.ntok=st.ntok→RowIs st' st.next sz (xs.map e)→(∀q,q≠st.next→st'.boxes q=st.boxes q)→st'.next=st.next+1→WS Γ true l (ap ρ k (.rs st.next 0 sz xs.length xs.length)) st' (nx (.a st.next) R)):WS Γ true (⟨some k,g,mv,.call f as⟩::l) ρ st R:=by
 subst hm
 obtain⟨r,rfl,hr⟩:=hr
 have hxs:∀d∈xs.map e,eb sz d:=fun d hd=>by
  obtain⟨a,_,rfl⟩:=List.mem_map.mp hd
  exact he a
 have h1:=h {st with boxes:=ap st.boxes st.next (some (.row ((xs.map e).flatMap D.cells))),next:=st.next+1} rfl rfl rfl rfl (mo hxs hl) (fun q hq=>ab _ _ hq) rfl
 have hab:aw true (.slice .row sz (xs.map e)) st=(.rs st.next 0 sz xs.length xs.length,{st with boxes:=ap st.boxes st.next (some (.row ((xs.map e).flatMap D.cells))),next:=st.next+1}):=by
  have e1:aw true (.slice .row sz (xs.map e)) st=(.rs st.next 0 sz (xs.map e).length (xs.map e).length,{st with boxes:=ap st.boxes st.next (some (.row ((xs.map e).flatMap D.cells))),next:=st.next+1}):=rfl
  rw[List.length_map]at e1
  exact e1
 exact tv hg rfl hf ha hr rfl rfl rfl hab h1
theorem ma {α:Type} {p:α→Bool}:∀{cs:List α} {n:Nat},n≤cs.length→(∀c∈cs.take n,p c=true)→n≤(cs.takeWhile p).length∧(cs.takeWhile p).take n=cs.take n
 |cs,0,_,_=>⟨Nat.zero_le _,by simp⟩
 |[],n+1,h,_=>by simp at h
 |c::cs,n+1,h,hp=>by
  have h1:p c=true:=hp c (by simp)
  obtain⟨i1,i2⟩:=ma (cs:=cs) (n:=n) (by simpa using h) (fun x hx=>hp x (by rw[List.take_succ_cons];exact List.mem_cons_of_mem _ hx))
  rw[List.takeWhile_cons,h1]
  simp only[if_true,List.length_cons,List.take_succ_cons,i2]
  exact⟨by omega,trivial⟩
theorem RowIs.gRow {C1 st':Store} {q sz:Nat} {xs:List D} (h:RowIs C1 q sz xs) (hg:∀d∈xs,d.cells.length=sz∧∀c∈d.cells,c.ground1=true) (hb:st'.boxes q=Go.Ev.gRow (C1.boxes q)) (hl:st'.lim≤q) (hn:q<st'.next):RowIs st' q sz xs:=by
 obtain⟨_,_,cs,h3,h4,h5,h6⟩:=h
 have hgr:∀c∈cs.take (xs.length*sz),c.ground1=true:=fun c hc=>by
  rw[h5]at hc
  obtain⟨d,hd,hcd⟩:=List.mem_flatMap.1 hc
  exact(hg d hd).2 c hcd
 obtain⟨e1,e2⟩:=ma h4 hgr
 refine⟨hl,hn,_,by rw[hb,h3];rfl,e1,by rw[e2];exact h5,?_⟩
 rw[List.all_eq_true]
 intro c hc
 have:=ig hc
 cases c<;>simp_all[D.ground1,D.plain]
theorem zq {P:D→Store→Prop} {f:A} {as:List A} {fn:Nat} {caps:List D} {p:Nat} {ps:List Nat} (hg:ao ρ g=some true) (hf:f.ev ρ=.func fn caps) (ha:((as.map (·.ev ρ)++caps).map D.strip).all D.freeA=false) (hm:mv=true) (hc:lG (as.map (·.ev ρ)++caps)=some (p,ps)) (hro:Av Γ fn=false) (hok:jh st p ps=true)
  (hr:EvRWX Γ fn (as.map (·.ev ρ)++caps) (jO st p ps) (fun r C1=>oc r p=true∧P r C1)) (h:∀r C1,P r C1→WS Γ true l (ap ρ k r) {st with boxes:=ap st.boxes p (gRow (C1.boxes p))} (nx (.v p ps) R)):WS Γ true (⟨some k,g,mv,.call f as⟩::l) ρ st R:=by
 subst hm
 obtain⟨r,C1,⟨hres,hP⟩,hr⟩:=hr
 obtain⟨ρ1,st2,fl,h1,h2⟩:=h r C1 hP
 refine⟨ρ1,st2,_,?_,h2⟩
 refine Evt.and (by simpa using h1) hr fun n q q2=>?_
 simp only[bp,hg,hf,ha,Bool.false_eq_true,if_false,if_true,hc,hro,hok,q2.2,hres]
 simp only[cy,q]
theorem Ax {P:D→Prop} {f:A} {as:List A} {fn:Nat} {caps:List D} {p:Nat} {ps:List Nat} (hg:ao ρ g=some true) (hf:f.ev ρ=.func fn caps) (ha:((as.map (·.ev ρ)++caps).map D.strip).all D.freeA=false) (hm:mv=true) (hc:lG (as.map (·.ev ρ)++caps)=none) (hc2:qZ (as.map (·.ev ρ)++caps)=some (p,ps))
  (hr:EvRWX Γ fn (as.map (·.ev ρ)++caps) (lx st p ps) (fun r C1=>gz r=true∧P r)) (h:∀r,P r→WS Γ true l (ap ρ k r) st (nx (.v (st.next) ps) R)):WS Γ true (⟨some k,g,mv,.call f as⟩::l) ρ st R:=by
 subst hm
 obtain⟨r,C1,⟨hres,hP⟩,hr⟩:=hr
 obtain⟨ρ1,st2,fl,h1,h2⟩:=h r hP
 refine⟨ρ1,st2,_,?_,h2⟩
 refine Evt.and (by simpa using h1) hr fun n q q2=>?_
 simp only[bp,hg,hf,ha,Bool.false_eq_true,if_false,if_true,hc,hc2,q2.2,hres]
 simp only[cy,q]
theorem AJ {P:D→Prop} {f:A} {as:List A} {fn:Nat} {caps:List D} {p:Nat} {ps:List Nat} (hg:ao ρ g=some true) (hf:f.ev ρ=.func fn caps) (ha:((as.map (·.ev ρ)++caps).map D.strip).all D.freeA=false) (hm:mv=true) (hc:lG (as.map (·.ev ρ)++caps)=none) (hc2:qZ (as.map (·.ev ρ)++caps)=some (p,ps))
  (hr:EvRWX Γ fn (as.map (·.ev ρ)++caps) (lx st p ps) (fun r C1=>(gz r=true∧P r)∨(gz r=false∧∃d,fA st C1 r=some d∧P d))) (h:∀r,P r→WS Γ true l (ap ρ k r) st (nx (.v (st.next) ps) R)):WS Γ true (⟨some k,g,mv,.call f as⟩::l) ρ st R:=by
 subst hm
 obtain⟨r,C1,hres,hr⟩:=hr
 rcases hres with⟨hres,hP⟩|⟨hres,d,hd,hP⟩
 ·obtain⟨ρ1,st2,fl,h1,h2⟩:=h r hP
  refine⟨ρ1,st2,_,?_,h2⟩
  refine Evt.and (by simpa using h1) hr fun n q q2=>?_
  simp only[bp,hg,hf,ha,Bool.false_eq_true,if_false,if_true,hc,hc2,q2.2,hres]
  simp only[cy,q]
 ·obtain⟨ρ1,st2,fl,h1,h2⟩:=h d hP
  refine⟨ρ1,st2,_,?_,h2⟩
  refine Evt.and (by simpa using h1) hr fun n q q2=>?_
  simp only[bp,hg,hf,ha,Bool.false_eq_true,if_false,if_true,hc,hc2,q2.2,hres,hd,Option.map_some]
  simp only[cy,q]
theorem BD {α:Type} {e:α→D} {P:D→Prop} {f:A} {as:List A} {fn sz q n c:Nat} {caps ds:List D} {xs:List α} (hg:ao ρ g=some true) (hf:f.ev ρ=.func fn caps) (ha:as.map (·.ev ρ)++caps=.rs q 0 sz n c::ds) (hR:RowIs st q sz (xs.map e)) (hn:n=xs.length) (hz:0<sz) (he:∀a,(e a).cells.length=sz∧sy (e a).cells=e a) (hd:ds.map (seen st)=ds.map D.strip) (hdr:ds.flatMap D.rowOf=[]) (hfr:(ds.map D.strip).all D.freeA=true) (hof:fI st ds=true) (hro:Av Γ fn=true) (hm:mv=true)
  (hr:EvX Γ fn (.slice .no sz (xs.map e)::ds.map D.strip) (fun r=>(r.free=true∧dS r=false)∧P r.strip))
  (h:∀r,P r→WS Γ true l (ap ρ k r) {st with boxes:=ap st.boxes q none} (nx (.w q) R)):WS Γ true (⟨some k,g,mv,.call f as⟩::l) ρ st R:=by
 subst hm
 obtain⟨r,⟨⟨r1,r2⟩,hP⟩,hr⟩:=hr
 have hs:=qo (c:=c) hR.at hn hz he
 obtain⟨ρ1,st2,fl,h1,h2⟩:=h _ hP
 refine⟨ρ1,st2,_,?_,h2⟩
 have hc:lG (.rs q 0 sz n c::ds)=some (q,ds.flatMap D.ptrsOf):=by
  unfold lG
  rw[List.flatMap_cons,hdr]
  rfl
 have h0:((D.rs q 0 sz n c::ds).map D.strip).all D.freeA=false:=rfl
 have hse:((D.rs q 0 sz n c::ds).map (seen st)).all D.freeA=true:=by
  rw[List.map_cons,hs,hd,List.all_cons,hfr]
  rfl
 have hofr:fI st (.rs q 0 sz n c::ds)=true:=by
  simp only[fI,List.all_cons,Bool.and_eq_true]
  exact⟨decide_eq_true hR.1,hof⟩
 have hr':EvP Γ fn ((D.rs q 0 sz n c::ds).map (seen st)) r:=by
  rw[List.map_cons,hs,hd]
  exact hr
 refine Evt.and (by simpa using h1) hr' fun n q q2=>?_
 simp only[bp,hg,hf,ha,h0,Bool.false_eq_true,if_false,if_true,hc,hro,hse,hofr,Bool.and_self,q2,r1,r2,Bool.not_false]
 simp only[cy,q]
theorem vN {P:D→Prop} {f:A} {as:List A} {fn:Nat} {caps:List D} (hg:ao ρ g=some true) (hf:f.ev ρ=.func fn caps) (ha:((as.map (·.ev ρ)++caps).map D.strip).all D.freeA=true) (hm:mv=true)
  (hr:EvX Γ fn ((as.map (·.ev ρ)++caps).map D.strip) (fun r=>(r.free=true∧dS r=false)∧P (if aF r then r.strip else r)))
  (h:∀r,P r→WS Γ true l (ap ρ k r) st (nx .n R)):WS Γ true (⟨some k,g,mv,.call f as⟩::l) ρ st R:=by
 subst hm
 obtain⟨r,⟨⟨r1,r2⟩,hP⟩,hr⟩:=hr
 obtain⟨ρ1,st2,fl,h1,h2⟩:=h _ hP
 refine⟨ρ1,st2,_,?_,h2⟩
 refine Evt.and (by simpa using h1) hr fun n q q2=>?_
 cases hfr:aF r with
 |true=>
  rw[hfr]at q
  simp only[if_true]at q
  simp only[bp,hg,hf,ha,if_true,q2,hfr,r1,r2,Bool.not_false,Bool.and_self]
  simp only[cy,q]
 |false=>
  rw[hfr]at q
  simp only[Bool.false_eq_true,if_false]at q
  have hab:(aw false r st).1=r:=by rw[jJ hfr r2]
  simp only[bp,hg,hf,ha,if_true,q2,hfr,r2,Bool.and_false,Bool.false_eq_true,if_false,hab]
  simp only[cy,q]
def FH {α:Type} (e:α→D) (sz:Nat) (xs:List α) (vs:List D) (r:D):Prop:=∃t s,r=.tuple (.slice t s (xs.map e)::vs)∧((t=.isnil∨t=.exact)∧(s=sz∨(s=0∧xs.map e=[]))∨t=.fresh∧s=sz)
theorem CL {α:Type} {e:α→D} {X0:X} {rs:List Rs} {t:Tok} {sz s:Nat} {xs ys:List α} {vs us:List D} (hx:X0=.normal∨X0=.ret) (h1:aI ρ st rs=some (.tuple (.slice t s (xs.map e)::vs))) (hg:(D.tuple vs).ground=true) (hO:ft st sz t s (xs.map e)) (he:xs=ys) (hv:vs=us):(X0=.normal∨X0=.ret)∧∃r,(aI ρ st rs).bind (eE st)=some r∧FH e sz ys us r:=by
 subst he hv
 have hgs:∀w∈vs,w.ground=true:=fun w hw=>by
  simp only[D.ground,List.all_eq_true]at hg
  have:=hg w hw
  cases w<;>simp_all[D.ground,D.ground1]
 have hf:(D.tuple (.slice t s (xs.map e)::vs)).free=true:=by
  have:=jw hg
  simp only[D.free,List.all_cons,Bool.and_eq_true]at this ⊢
  exact⟨rfl,this⟩
 have hvs:vs.map D.strip=vs:=(List.map_congr_left fun x hx=>eD (hgs x hx)).trans (List.map_id' _)
 refine⟨hx,?_⟩
 rw[h1]
 simp only[Option.bind_some,eE,hf,if_true,fv,aU,hvs]
 rcases hO with⟨ht,hs⟩|⟨k,rfl,hk,hkl,rfl⟩
 ·rcases ht with rfl|rfl
  ·exact⟨_,rfl,_,_,rfl,.inl ⟨.inl rfl,hs⟩⟩
  ·exact⟨_,rfl,_,_,rfl,.inl ⟨.inr rfl,hs⟩⟩
 ·refine⟨_,rfl,.fresh,s,?_,.inr ⟨rfl,rfl⟩⟩
  simp only[a8,hk,hkl,decide_true,Bool.and_self,if_true,Option.getD_some]
def AppK (st:Store) (sz:Nat) (t:Tok) (s:Nat) (xs:List D):Prop:=((t=.isnil∨t=.exact)∧(s=sz∨(s=0∧xs=[])))∨(∃k,t=.own k∧st.toks k=true∧st.tlim≤k∧k<st.ntok∧s=sz)
theorem AppK.ok {st:Store} {sz s:Nat} {t:Tok} {xs:List D} (h:AppK st sz t s xs):ft st sz t s xs:=by
 rcases h with h|⟨k,h1,h2,h3,_,h5⟩
 ·exact .inl h
 ·exact .inr ⟨k,h1,h2,h3,h5⟩
theorem AppK.sz {st:Store} {sz s:Nat} {t:Tok} {α:Type} {e:α→D} {xs:List α} (h:AppK st sz t s (xs.map e)):s=sz∨xs=[]:=by
 rcases h with⟨_,h|⟨_,h⟩⟩|⟨k,_,_,_,_,h⟩
 ·exact .inl h
 ·exact .inr (by simpa using h)
 ·exact .inl h
theorem AppK.of {st st':Store} {sz s:Nat} {t:Tok} {xs:List D} (h:AppK st sz t s xs) (h1:∀k,k<st.ntok→st'.toks k=st.toks k) (h2:st.ntok≤st'.ntok) (h3:st'.tlim=st.tlim):AppK st' sz t s xs:=by
 rcases h with h|⟨k,e1,e2,e3,e4,e5⟩
 ·exact .inl h
 ·exact .inr ⟨k,e1,(h1 k e4).trans e2,by omega,by omega,e5⟩
theorem u7 {α:Type} {e:α→D} {f:A} {as:List A} {fn:Nat} {caps:List D} {sz:Nat} {xs:List α} {vs:List D} (hg:ao ρ g=some true) (hf:f.ev ρ=.func fn caps) (ha:((as.map (·.ev ρ)++caps).map D.strip).all D.freeA=true) (hr:EvX Γ fn ((as.map (·.ev ρ)++caps).map D.strip) (FH e sz xs vs)) (htl:st.tlim≤st.ntok)
  (hm:mv=false) (h:∀t s st',st'.boxes=st.boxes→st'.next=st.next→st'.lim=st.lim→st'.tlim=st.tlim→st.ntok≤st'.ntok→(∀k,k<st.ntok→st'.toks k=st.toks k)→AppK st' sz t s (xs.map e)→WS Γ false l (ap ρ k (.tuple (.slice t s (xs.map e)::vs))) st' (nx .n R)):WS Γ false (⟨some k,g,mv,.call f as⟩::l) ρ st R:=by
 subst hm
 obtain⟨r,⟨t,s,rfl,hts⟩,hr⟩:=hr
 rcases hts with⟨ht,hs⟩|⟨rfl,rfl⟩
 ·have hab:aw false (.tuple (.slice t s (xs.map e)::vs)) st=(.tuple (.slice t s (xs.map e)::vs),st):=by rcases ht with rfl|rfl<;>rfl
  exact cx hg rfl hf ha hr (fun h=>by cases h) hab (h t s st rfl rfl rfl rfl (Nat.le_refl _) (fun _ _=>rfl) (.inl ⟨ht,hs⟩))
 ·exact cx hg rfl hf ha hr (fun h=>by cases h) rfl (h (.own st.ntok) s {st with toks:=ap st.toks st.ntok true,ntok:=st.ntok+1} rfl rfl rfl rfl (Nat.le_succ _) (fun k hk=>ab _ _ (Nat.ne_of_lt hk)) (.inr ⟨st.ntok,rfl,ae _ _ _,htl,Nat.lt_succ_self _,rfl⟩))
theorem pY {α:Type} {e:α→D} {f:A} {as:List A} {fn:Nat} {caps:List D} {sz:Nat} {xs:List α} {vs:List D} (hg:ao ρ g=some true) (hf:f.ev ρ=.func fn caps) (ha:((as.map (·.ev ρ)++caps).map D.strip).all D.freeA=true) (hr:EvX Γ fn ((as.map (·.ev ρ)++caps).map D.strip) (IsT e sz xs vs))
  (hm:mv=false) (h:∀t s st',(s=sz∨xs=[])→st'.boxes=st.boxes→st'.next=st.next→st'.lim=st.lim→st'.tlim=st.tlim→st.ntok≤st'.ntok→(∀k,k<st.ntok→st'.toks k=st.toks k)→WS Γ false l (ap ρ k (.tuple (.slice t s (xs.map e)::vs))) st' (nx .n R)):WS Γ false (⟨some k,g,mv,.call f as⟩::l) ρ st R:=by
 subst hm
 obtain⟨r,⟨t,s,rfl,hs⟩,hr⟩:=hr
 by_cases hfr:t=.fresh
 ·subst hfr
  exact cx hg rfl hf ha hr (fun h=>by cases h) rfl (h (.own st.ntok) s {st with toks:=ap st.toks st.ntok true,ntok:=st.ntok+1} hs rfl rfl rfl rfl (Nat.le_succ _) (fun k hk=>ab _ _ (Nat.ne_of_lt hk)))
 ·have hab:∃t',aw false (.tuple (.slice t s (xs.map e)::vs)) st=(.tuple (.slice t' s (xs.map e)::vs),st):=by
   cases t<;>first|exact absurd rfl hfr|exact⟨_,rfl⟩
  obtain⟨t',hab⟩:=hab
  exact cx hg rfl hf ha hr (fun h=>by cases h) hab (h t' s st hs rfl rfl rfl rfl (Nat.le_refl _) (fun _ _=>rfl))
theorem qG {p off sz n c j j2:Nat} {i2:A} (hg:ao ρ g=some true) (hx:x.ev ρ=.rs p off sz n c) (hi:bL (i.ev ρ)=some j) (hi2:bL (i2.ev ρ)=some j2) (hj:j≤j2) (hj2:j2≤c) (hm:mv=false)
  (h:WS Γ dr l (ap ρ k (.rs p off sz j j2)) st (nx .n R)):WS Γ dr (⟨some k,g,mv,.slice sz x none (some i) (some i2)⟩::l) ρ st R:=
 li hg rfl (by simp[O.run,hx,lc,hi,hi2,hj,hj2]) hm h
theorem RowIs.take {p sz:Nat} {xs:List D} (h:RowIs st p sz xs) (hxs:∀d∈xs,d.cells.length=sz) (j:Nat):RowIs st p sz (xs.take j):=by
 obtain⟨h1,h2,cs,h3,h4,h5,h6⟩:=h
 have hl:(xs.take j).length≤xs.length:=by rw[List.length_take];exact Nat.min_le_right _ _
 have hl2:(xs.take j).length*sz≤xs.length*sz:=Nat.mul_le_mul_right _ hl
 refine⟨h1,h2,cs,h3,Nat.le_trans hl2 h4,?_,h6⟩
 have e1:cs.take ((xs.take j).length*sz)=(cs.take (xs.length*sz)).take ((xs.take j).length*sz):=by
  rw[List.take_take,Nat.min_eq_left hl2]
 rw[e1,h5]
 have e2:xs.flatMap D.cells=(xs.take j).flatMap D.cells++(xs.drop j).flatMap D.cells:=by
  rw[←List.flatMap_append,List.take_append_drop]
 have e3:=bT (sz:=sz) (xs:=xs.take j) (fun d hd=>hxs d (List.mem_of_mem_take hd))
 rw[e2,←e3,List.take_left']
 rfl
end Go.Ev
/-
  Rules for maps of numbers.
-/
namespace Go.Ev
section
variable {Γ:Nat→Option FD} {ρ:Nat→D} {st:Store} {dr:Bool} {R:(Nat→D)→Store→List Fl→Prop} {l:List Op1} {g:Option (Nat×Bool)} {mv:Bool} {k:Nat} {x y z c a b i:A}
theorem gI (hg:ao ρ g=some true) (hm:mv=false) (h:WS Γ dr l (ap ρ k (.map st.next)) {st with boxes:=ap st.boxes st.next (some (.map [])),next:=st.next+1} (nx .f R)):WS Γ dr (⟨some k,g,mv,.mkmap⟩::l) ρ st R:=by
 subst hm
 exact Hl hg rfl rfl h
theorem kc {zero:D} {p:Nat} {kv:List (Int×D)} {n:Int} {r:D} (hg:ao ρ g=some true) (hx:x.ev ρ=.map p) (hy:y.ev ρ=.int .i64 n) (hb:st.boxes p=some (.map kv)) (hr:(aZ n kv).getD zero=r) (hm:mv=false)
  (h:WS Γ dr l (ap ρ k r) st (nx (.r p) R)):WS Γ dr (⟨some k,g,mv,.lookup zero false x y⟩::l) ρ st R:=by
 subst hm
 refine Hl (d:=r) hg rfl ?_ h (by simp[O.acc,hx])
 simp only[O.runM,O.run,hx,hy,hb]
 cases h1:aZ n kv with
 |none=>rw[h1]at hr;simpa using hr
 |some d=>rw[h1]at hr;simpa using hr
theorem bo {zero:D} {p:Nat} {kv:List (Int×D)} {n:Int} {v:D} {t:Bool} (hg:ao ρ g=some true) (hx:x.ev ρ=.map p) (hy:y.ev ρ=.int .i64 n) (hb:st.boxes p=some (.map kv)) (hr:(aZ n kv).getD zero=v) (ht:(aZ n kv).isSome=t) (hm:mv=false)
  (h:WS Γ dr l (ap ρ k (.tuple [v,.bool t])) st (nx (.r p) R)):WS Γ dr (⟨some k,g,mv,.lookup zero true x y⟩::l) ρ st R:=by
 subst hm
 refine Hl (d:=.tuple [v,.bool t]) hg rfl ?_ h (by simp[O.acc,hx])
 subst hr ht
 simp only[O.runM,O.run,hx,hy,hb]
 cases h1:aZ n kv<;>simp
theorem eM {p sz:Nat} {kv:List (Int×D)} {n:Int} {v:D} (hg:ao ρ g=some true) (hx:x.ev ρ=.map p) (hy:y.ev ρ=.int .i64 n) (hb:st.boxes p=some (.map kv)) (hl:st.lim≤p) (hz:(z.ev ρ).strip=v) (hm:mv=false)
  (h:WS Γ dr l ρ {st with boxes:=ap st.boxes p (some (.map (cJ n v kv)))} (nx .f R)):WS Γ dr (⟨none,g,mv,.mapset sz x y z⟩::l) ρ st R:=by
 subst hm
 refine Hl (d:=.undef) hg rfl ?_ h
 simp only[O.runM,O.run,hx,hy,Nat.not_lt.mpr hl,if_false,hb,hz]
end
theorem iS (n m:Int) (v:D):∀kv:List (Int×D),aZ m (cJ n v kv)=if m=n then some v else aZ m kv
 |[]=>by
  simp only[cJ,aZ]
  by_cases h:m=n
  ·rw[if_pos h.symm,if_pos h]
  ·rw[if_neg (fun e=>h e.symm),if_neg h]
 |(k,d)::r=>by
  simp only[cJ]
  by_cases hk:k=n
  ·rw[if_pos hk]
   simp only[aZ]
   by_cases h:m=n
   ·rw[if_pos h.symm,if_pos h]
   ·rw[if_neg (fun e=>h e.symm),if_neg h,if_neg (fun e=>h (e.symm.trans hk))]
  ·rw[if_neg hk]
   simp only[aZ]
   rw[iS n m v r]
   by_cases h:k=m
   ·rw[if_pos h,if_neg (fun e=>hk (h.trans e)),if_pos h]
   ·rw[if_neg h,if_neg h]
end Go.Ev
/-
  Rules: a call that hands back a struct whose first cell is a slice, and more; rows that are grown.
-/
namespace Go.Ev
def GN {α:Type} (e:α→D) (sz:Nat) (ls:List α) (cs vs:List D) (r:D):Prop:=∃t s,r=.tuple (.agg (.slice t s (ls.map e)::cs)::vs)∧(s=sz∨ls=[])
section
variable {Γ:Nat→Option FD} {ρ:Nat→D} {st:Store} {dr:Bool} {R:(Nat→D)→Store→List Fl→Prop} {l:List Op1} {g:Option (Nat×Bool)} {mv:Bool} {k:Nat} {x y:A}
theorem pI {α:Type} {e:α→D} {f:A} {as:List A} {fn:Nat} {caps:List D} {sz:Nat} {xs:List α} {cs vs:List D} (hg:ao ρ g=some true) (hf:f.ev ρ=.func fn caps) (ha:((as.map (·.ev ρ)++caps).map D.strip).all D.freeA=true) (hr:EvX Γ fn ((as.map (·.ev ρ)++caps).map D.strip) (GN e sz xs cs vs))
  (hm:mv=false) (h:∀t s,(s=sz∨xs=[])→∀tk nt,WS Γ false l (ap ρ k (.tuple (.agg (.slice t s (xs.map e)::cs)::vs))) {st with toks:=tk,ntok:=nt} (nx .n R)):WS Γ false (⟨some k,g,mv,.call f as⟩::l) ρ st R:=by
 subst hm
 obtain⟨r,⟨t,s,rfl,hs⟩,hr⟩:=hr
 have key:∃t' tk nt,aw false (.tuple (.agg (.slice t s (xs.map e)::cs)::vs)) st=(.tuple (.agg (.slice t' s (xs.map e)::cs)::vs),{st with toks:=tk,ntok:=nt}):=by
  cases t<;>exact⟨_,_,_,rfl⟩
 obtain⟨t',tk,nt,e⟩:=key
 exact cx hg rfl hf ha hr (fun h=>by cases h) e (h t' s hs tk nt)
def BJ {α:Type} (e:α→D) (sz:Nat) (ls:List α) (cs vs:List D) (r:D):Prop:=∃t,r=.tuple (.agg (.slice t sz (ls.map e)::cs)::vs)∧t.strip=.no
theorem zc {α:Type} {e:α→D} {rs:List Rs} {t:Tok} {s:Nat} {xs:List α} {cs vs:List D} (h1:aI ρ st rs=some (.tuple (.agg (.slice t s (xs.map e)::cs)::vs))) (hg:(D.tuple vs).ground=true) (hc:cs.all D.ground1=true):∃t',(aI ρ st rs).bind (eE st)=some (.tuple (.agg (.slice t' s (xs.map e)::cs)::vs))∧(t.strip=.no→t'.strip=.no):=by
 have hgs:∀w∈vs,w.ground=true:=fun w hw=>by
  simp only[D.ground,List.all_eq_true]at hg
  have:=hg w hw
  cases w<;>simp_all[D.ground,D.ground1]
 have hst:vs.map D.strip=vs:=(List.map_congr_left fun x hx=>eD (hgs x hx)).trans (List.map_id' _)
 have hcs:cs.map D.strip1=cs:=by
  rw[List.all_eq_true]at hc
  exact(List.map_congr_left fun x hx=>(eQ (st:=Store.empty) (hc x hx)).2.1).trans (List.map_id' _)
 have hcf:cs.all D.free1=true:=by
  rw[List.all_eq_true]at hc ⊢
  exact fun x hx=>(eQ (st:=Store.empty) (hc x hx)).1
 have hf:(D.tuple (.agg (.slice t s (xs.map e)::cs)::vs)).free=true:=by
  have:=jw hg
  simp only[D.free,List.all_cons,Bool.and_eq_true]at this ⊢
  exact⟨⟨rfl,hcf⟩,this⟩
 rw[h1,Option.bind_some]
 simp only[eE,hf,if_true,fv,aU,hst,hcs]
 have:∃t',(a8 st (.slice t s (xs.map e))).getD (D.strip1 (.slice t s (xs.map e)))=.slice t' s (xs.map e)∧(t.strip=.no→t'.strip=.no):=by
  cases t with
  |own k=>simp only[a8];split<;>exact⟨_,rfl,fun _=>rfl⟩
  |isnil=>exact⟨_,rfl,fun h=>by cases h⟩
  |_=>exact⟨_,rfl,fun _=>rfl⟩
 obtain⟨t',e',h'⟩:=this
 rw[e']
 exact⟨t',rfl,h'⟩
theorem AP {α:Type} {e:α→D} {X0:X} {rs:List Rs} {t:Tok} {sz s:Nat} {xs ys:List α} {cs vs us cs':List D} (hx:X0=.normal∨X0=.ret) (h1:aI ρ st rs=some (.tuple (.agg (.slice t s (xs.map e)::cs)::vs))) (hg:(D.tuple vs).ground=true) (hc:cs.all D.ground1=true) (hs:s=sz∨xs=[]) (he:xs=ys) (hv:vs=us) (hcc:cs=cs'):(X0=.normal∨X0=.ret)∧∃r,(aI ρ st rs).bind (eE st)=some r∧GN e sz ys cs' us r:=by
 subst he hv hcc
 obtain⟨t',h2,_⟩:=zc h1 hg hc
 exact⟨hx,_,h2,t',s,rfl,hs⟩
theorem Dl {α:Type} {e:α→D} {X0:X} {rs:List Rs} {t:Tok} {sz:Nat} {xs ys:List α} {cs vs us cs':List D} (hx:X0=.normal∨X0=.ret) (h1:aI ρ st rs=some (.tuple (.agg (.slice t sz (xs.map e)::cs)::vs))) (hg:(D.tuple vs).ground=true) (hc:cs.all D.ground1=true) (ht:t.strip=.no) (he:xs=ys) (hv:vs=us) (hcc:cs=cs'):(X0=.normal∨X0=.ret)∧∃r,(aI ρ st rs).bind (eE st)=some r∧BJ e sz ys cs' us r:=by
 subst he hv hcc
 obtain⟨t',h2,h3⟩:=zc h1 hg hc
 exact⟨hx,_,h2,t',rfl,h3 ht⟩
def pg {α:Type} (e:α→D) (sz:Nat) (st:Store) (d:D) (out:List α):Prop:=(out=[]∧d=.slice .isnil 0 [])∨∃q n c,n=out.length∧out≠[]∧d=.rs q 0 sz n c∧RowIs st q sz (out.map e)
theorem E9 {α:Type} {e:α→D} {sz bytes:Nat} {d:D} {out:List α} {r:α} {t:Tok} (h0:0<sz) (he:∀a,eb sz (e a)) (hg:ao ρ g=some true) (hx:x.ev ρ=d) (hy:y.ev ρ=.slice t sz [e r]) (hm:mv=true) (hO:pg e sz st d out) (hb:(out.length+1)*bytes≤140737488355328) (hl:st.lim≤0)
  (H:∀st' d',st'.lim≤0→pg e sz st' d' (out++[r])→WS Γ dr l (ap ρ k d') st' (nx .f R)):WS Γ dr (⟨some k,g,mv,.append sz bytes x y⟩::l) ρ st R:=by
 have hys:∀d∈[e r],eb sz d:=fun d hd=>by rw[List.mem_singleton.mp hd];exact he r
 rcases hO with⟨rfl,rfl⟩|⟨q,n,c,rfl,h5,rfl,hR⟩
 ·refine ko hg hx (.inr rfl) (.inr rfl) hy hm (.inl rfl) (by simp) (by simp) hys (by simpa using hb) (by omega) (fun st' e1 _ _ _ hR' hoth hn=>?_)
  exact H st' _ (by omega) (.inr ⟨st.next,_,_,rfl,by simp,rfl,by simpa using hR'⟩)
 ·refine rp hg hx hy hR (by simp) (.inl rfl) (fun d hd=>by
   obtain⟨a,_,rfl⟩:=List.mem_map.mp hd
   exact(he a).1) hys (by simpa using hb) (fun p' c' st' e1 _ _ _ hR' hoth hn hp=>?_)
  exact H st' _ (by omega) (.inr ⟨p',_,c',by simp,by simp,rfl,by simpa using hR'⟩)
theorem EI {α:Type} {e:α→D} {sz:Nat} {X0:X} {rs:List Rs} {d:D} {es:List α} (hs0:0<sz) (hxs:∀a,(e a).cells.length=sz∧sy (e a).cells=e a) (hx:X0=.normal∨X0=.ret) (h1:aI ρ st rs=some d) (hO:pg e sz st d es):(X0=.normal∨X0=.ret)∧∃r,(aI ρ st rs).bind (eE st)=some r∧Au e sz es r:=by
 rcases hO with⟨rfl,rfl⟩|⟨q,n,c,rfl,hne,rfl,hR⟩
 ·exact⟨hx,.slice .isnil 0 [],by rw[h1];rfl,.isnil,0,rfl,.inr rfl,rfl⟩
 ·exact nh (t:=.row) (s:=sz) rfl (.inl rfl) (oi hx h1 (by rw[List.length_map]) hs0 hR (fun d hd=>by
   obtain⟨e,_,rfl⟩:=List.mem_map.mp hd
   exact hxs e))
end
end Go.Ev
