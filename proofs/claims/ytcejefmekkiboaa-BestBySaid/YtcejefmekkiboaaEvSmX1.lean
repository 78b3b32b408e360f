/-
  Rules to run code by hand: lists of operations, one rule for each kind.
-/
import Derived.Test.YtcejefmekkiboaaEvSmS1
import Derived.IntWalk
set_option linter.unusedVariables false
set_option linter.unusedSimpArgs false
set_option linter.unnecessarySimpa false
namespace Go.Sm
open Go.Ev
open Go.RowKit
section
def WS (Γ:Nat→Option FD) (dr:Bool) (l:List Op1) (ρ:Nat→D) (st:Store) (R:(Nat→D)→Store→List Fl→Prop):Prop:=
 match dr with
 |true=>∃ρ' st' fl,(∀P,Kn P Γ→Recs P l ρ st ρ' st' fl)∧R ρ' st' fl
 |false=>∀P,Kn P Γ→∀{mu:List Nat} {nt:Nat} {ops:Array Oper} {os:List Oper} {idx:List Nat},cW P mu nt ops os=some l→idx.map (fun i=>ops[i]?)=os.map some→
   ∀{B:Nat} {w:World} {g:Ghost} {a:Act},EnvR w g ρ a.tmps→nt≤a.tmps.size→Rel B w g st→
   ∀{Q:Exit→Act→World→Prop},(∀a' w' ρ' st' fl,R ρ' st' fl→Post B w g st nt a .normal ρ' st' .normal a' w'→Q .normal a' w')→wpOps P ops Q idx a w
variable {Γ:Nat→Option FD} {ρ:Nat→D} {st:Store}
theorem Ir {l:List Op1} {Q:X→(Nat→D)→Store→Prop} (h:WS Γ false l ρ st (fun ρ1 st1 _=>Q .normal ρ1 st1)):WC Γ (.ops false l) ρ st Q:=by
 intro P hk mu nt B w g a he hn hrel c hc
 cases c with
 |region id ops draw=>
  simp only[aV]at hc
  split at hc<;>try contradiction
  rename_i l' hl
  cases draw with
  |true=>
   simp only[if_true]at hc
   (repeat' split at hc)<;>simp at hc
  |false=>
   simp only[Bool.false_eq_true,if_false,Option.some.injEq,C.ops.injEq,true_and]at hc
   subst hc
   refine wp_region (h P hk hl ?_ he hn hrel (fun a' w' ρ' st' fl hR hp=>⟨.normal,ρ',st',hR,hp⟩))
   apply List.ext_getElem?
   intro j
   simp only[List.getElem?_map]
   by_cases hj:j<ops.size
   ·simp[hj]
   ·simp[Array.getElem?_eq_none (Nat.le_of_not_lt hj)]
    omega
 |_=>
  exfalso
  simp only[aV]at hc
  (repeat' split at hc)<;>simp at hc
theorem ay {bef:List (List Nat)} {l:List Op1} {Q:X→(Nat→D)→Store→Prop} (h:WS Γ true l ρ st (fun ρ1 st1 fl=>bB bef fl=true∧Q .normal ρ1 st1)):WC Γ (.draw bef l) ρ st Q:=by
 intro P hk mu nt B w g a he hn hrel c hc
 obtain⟨ρ1,st1,fl,hrec,hfl,hQ⟩:=h
 cases c with
 |region id ops draw=>
  simp only[aV]at hc
  split at hc<;>try contradiction
  rename_i l' hl
  cases draw with
  |true=>
   simp only[if_true]at hc
   split at hc
   case isFalse=>cases hc
   rename_i hcond
   simp only[Bool.and_eq_true]at hcond
   split at hc
   ·(repeat' split at hc)<;>simp at hc
   ·cases hc
    exact wp_mono (qB hk.mixed (hrec P hk) hl hcond.1 hcond.2 hfl he hn hrel) (fun e a' w' hp=>⟨.normal,ρ1,st1,hQ,hp⟩)
  |false=>simp at hc
 |_=>
  exfalso
  simp only[aV]at hc
  (repeat' split at hc)<;>simp at hc
theorem HC {bef:List (List Nat)} {l:List Op1} {Q:X→(Nat→D)→Store→Prop} (h:WS Γ true (gM st.next l) ρ (st.ahead l) (fun ρ1 st1 fl=>(bB bef fl&&jI bef st.next fl)=true∧Q .normal ρ1 st1)):WC Γ (.drawA bef l) ρ st Q:=by
 intro P hk mu nt B w g a he hn hrel c hc
 obtain⟨ρ1,st1,fl,hrec,hfl,hQ⟩:=h
 simp only[Bool.and_eq_true]at hfl
 cases c with
 |region id ops draw=>
  simp only[aV]at hc
  split at hc<;>try contradiction
  rename_i l' hl
  cases draw with
  |true=>
   simp only[if_true]at hc
   split at hc
   case isFalse=>cases hc
   rename_i hcond
   simp only[Bool.and_eq_true]at hcond
   split at hc
   ·split at hc
    case isFalse=>cases hc
    rename_i hal
    cases hc
    exact wp_mono (o0 hk.mixed (hrec P hk) hl hcond.1 hcond.2 hal hfl.1 hfl.2 he hn hrel) (fun e a' w' hp=>⟨.normal,ρ1,st1,hQ,hp⟩)
   ·cases hc
  |false=>simp at hc
 |_=>
  exfalso
  simp only[aV]at hc
  (repeat' split at hc)<;>simp at hc
variable {dr:Bool} {R:(Nat→D)→Store→List Fl→Prop}
theorem FM {P:Program}:Recs P [] ρ st ρ st []:=⟨fun _=>.undef,fun _=>st,fun _=>.n,rfl,fun j hj=>by simp at hj,fun i o1 h=>by simp at h,rfl,rfl⟩
theorem Hd (h:R ρ st []):WS Γ dr [] ρ st R:=by
 cases dr
 ·intro P hk mu nt ops os idx hc hi B w g a he hn hrel Q hQ
  have:=jA hc
  subst this
  have:idx=[]:=by simpa using hi
  subst this
  exact hQ _ _ _ _ _ h ⟨rfl,rfl,hn,g,he,.refl hrel⟩
 ·exact⟨ρ,st,[],fun P _=>FM,h⟩
theorem iY {P:Program} {mu:List Nat} {nt:Nat} {ops:Array Oper} {os:List Oper} {idx:List Nat} {o1:Op1} {l:List Op1} (hc:cW P mu nt ops os=some (o1::l)) (hi:idx.map (fun i=>ops[i]?)=os.map some):
  ∃o os' i idx',os=o::os'∧iV P mu nt ops o=some o1∧cW P mu nt ops os'=some l∧idx=i::idx'∧ops[i]?=some o∧idx'.map (fun i=>ops[i]?)=os'.map some:=by
 obtain⟨o,os',rfl,hco,hcr⟩:=lb hc
 cases idx with
 |nil=>simp at hi
 |cons i idx'=>simp only[List.map_cons,List.cons.injEq]at hi;exact⟨o,os',i,idx',rfl,hco,hcr,rfl,hi.1,hi.2⟩
theorem fB {P:Program} (hk:Kn P Γ) {mu:List Nat} {nt:Nat} {ops:Array Oper} {os':List Oper} {idx':List Nat} {o:Oper} {o1:Op1} {l:List Op1} {d v:D} {k:Fl} {st1:Store} (h:WS Γ false l (cy ρ o1.dst d) st1 (fun ρ1 st1 fl=>R ρ1 st1 (k::fl)))
  (hcr:cW P mu nt ops os'=some l) (hi':idx'.map (fun i=>ops[i]?)=os'.map some) {B:Nat} {w w1:World} {g g1:Ghost} {a:Act} (he:EnvR w g ρ a.tmps) (hn:nt≤a.tmps.size) (hrel:Rel B w g st)
  {Q:Exit→Act→World→Prop} (hQ:∀a' w' ρ' st' fl,R ρ' st' fl→Post B w g st nt a .normal ρ' st' .normal a' w'→Q .normal a' w') {vv:Value} (hd:o1.dst=o.dst) (hdn:o.dst.any (fun d=>decide (nt≤d))=false) (hv:VR w1 g1 d vv) (hs:Step B w g st w1 g1 st1):wpOps P ops Q idx' (a.put o.dst vv) w1:=by
 rw[hd]at h
 exact h P hk hcr hi' ((he.mono hs.ext).put hv hn hdn) (by rw[lV];exact hn) hs.rel (fun a' w' ρ' st' fl hR hp=>hQ a' w' ρ' st' _ hR (hp.from hrel hs (Hw _ _ _)))
theorem uN {o1:Op1} {l:List Op1} (hg:ao ρ o1.guard=some false) (h:WS Γ dr l (cy ρ o1.dst .undef) st (fun ρ1 st1 fl=>R ρ1 st1 (.n::fl))):WS Γ dr (o1::l) ρ st R:=by
 cases dr
 ·intro P hk mu nt ops os idx hc hi B w g a he hn hrel Q hQ
  obtain⟨o,os',i,idx',rfl,hco,hcr,rfl,hoi,hi'⟩:=iY hc hi
  obtain⟨hw,hop,hd,hdn⟩:=dK hco he hg (fun h=>by cases h)
  simp only[wpOps,hoi,hw,Bool.false_eq_true,if_false]
  exact fB (v:=.undef) hk h hcr hi' he hn hrel hQ hd hdn .undef (.refl hrel)
 ·obtain⟨ρ1,st1,fl,h1,h2⟩:=h
  exact⟨ρ1,st1,_,fun P hk=>Recs.cons (.inl ⟨hg,rfl,rfl,rfl⟩) (h1 P hk),h2⟩
theorem D5 {op:O} (h:op.isCall=false):∀f as,op≠.call f as:=fun f as e=>by subst e;simp[O.isCall]at h
theorem Hl {o1:Op1} {l:List Op1} {d:D} {st1:Store} {f0:Fl} (hg:ao ρ o1.guard=some true) (hn:o1.op.isCall=false) (hr:o1.op.runM o1.mv ρ st=some (d,st1))
  (h:WS Γ dr l (cy ρ o1.dst d) st1 (fun ρ1 st1 fl=>R ρ1 st1 (f0::fl))) (hf:o1.op.acc o1.mv ρ=f0:=by first|rfl|(simp[O.acc, *];done)):WS Γ dr (o1::l) ρ st R:=by
 subst hf
 cases dr
 ·intro P hk mu nt ops os idx hc hi B w g a he hnt hrel Q hQ
  obtain⟨o,os',i,idx',rfl,hco,hcr,rfl,hoi,hi'⟩:=iY hc hi
  have nb:o1.op≠.bad:=by
   intro e
   rw[e]at hr
   unfold O.runM at hr
   split at hr
   ·rename_i h1 h2;cases h2
   ·simp[O.run]at hr
  obtain⟨hw,hcop,hd,hdn⟩:=dK hco he hg (fun _=>nb)
  have hcop:=hcop rfl
  simp only[wpOps,hoi,hw,if_true]
  left
  obtain⟨nx,v,w1,g1,e1,e2,e3,e4⟩:=uJ (a:=a) (D5 hn) hcop hr he hrel
  unfold Oper.wp
  rw[e1]
  rcases e2 with rfl|⟨rfl,rfl⟩
  ·exact fB (v:=d) hk h hcr hi' he hnt hrel hQ hd hdn e3 e4
  ·exact fB (v:=d) hk h hcr hi' he hnt hrel hQ hd hdn e3 e4
 ·obtain⟨ρ1,st2,fl,h1,h2⟩:=h
  exact⟨ρ1,st2,_,fun P hk=>Recs.cons (.inr ⟨hg,.inl ⟨D5 hn,hr,rfl⟩⟩) (h1 P hk),h2⟩
theorem gR (v:D):(ej st false v).2=st:=by
 cases v with
 |slice t sz xs=>cases t<;>rfl
 |_=>rfl
theorem jj {r:D} (h:aF r=false):(aw false r st).2=st:=by
 unfold aw
 rw[h]
 simp only[Bool.false_eq_true,if_false]
 split
 ·exact gR _
 ·exact gR _
theorem sH {o1:Op1} {l:List Op1} {f:A} {as:List A} {k:Nat} {caps:List D} {Pr:D→Prop} {f0:Fl} (hg:ao ρ o1.guard=some true) (ho:o1.op=.call f as) (hf:f.ev ρ=.func k caps) (hr:Es Γ k (as.map (·.ev ρ)++caps) st Pr)
  (h:∀r,Pr r→WS Γ false l (cy ρ o1.dst (aw o1.mv r st).1) (aw o1.mv r st).2 (fun ρ1 st1 fl=>R ρ1 st1 (f0::fl))):WS Γ false (o1::l) ρ st R:=by
 intro P hk mu nt ops os idx hc hi B w g a he hnt hrel Q hQ
 obtain⟨o,os',i,idx',rfl,hco,hcr,rfl,hoi,hi'⟩:=iY hc hi
 obtain⟨hw,hcop,hd,hdn⟩:=dK hco he hg (fun _=>by rw[ho];simp)
 have hcop:=hcop rfl
 simp only[wpOps,hoi,hw,if_true]
 left
 rw[ho]at hcop
 obtain⟨vs,q1,q2⟩:=pv hcop he hf
 unfold Oper.wp
 obtain⟨hE,hC⟩:=hr P hk hrel q1
 rw[q2 hE,Oper.upon_enter]
 refine hC.mono (fun e w1 hR=>?_)
 obtain⟨r,hPr,v,rfl,_,hmv⟩:=hR
 obtain⟨g1,k1,k2⟩:=hmv o1.mv
 exact fB (v:=r) hk (h r hPr) hcr hi' he hnt hrel hQ hd hdn k1 k2
theorem zO {o1:Op1} {l:List Op1} {f:A} {as:List A} {k:Nat} {caps:List D} {Pr:D→Store→Prop} {f0:Fl} (hg:ao ρ o1.guard=some true) (ho:o1.op=.call f as) (hf:f.ev ρ=.func k caps) (hr:FO Γ k (as.map (·.ev ρ)++caps) st Pr)
  (h:∀r st1,Pr r st1→WS Γ false l (cy ρ o1.dst r) st1 (fun ρ1 st1 fl=>R ρ1 st1 (f0::fl))):WS Γ false (o1::l) ρ st R:=by
 intro P hk mu nt ops os idx hc hi B w g a he hnt hrel Q hQ
 obtain⟨o,os',i,idx',rfl,hco,hcr,rfl,hoi,hi'⟩:=iY hc hi
 obtain⟨hw,hcop,hd,hdn⟩:=dK hco he hg (fun _=>by rw[ho];simp)
 have hcop:=hcop rfl
 simp only[wpOps,hoi,hw,if_true]
 left
 rw[ho]at hcop
 obtain⟨vs,q1,q2⟩:=pv hcop he hf
 unfold Oper.wp
 obtain⟨hE,hC⟩:=hr P hk hrel q1
 rw[q2 hE,Oper.upon_enter]
 refine hC.mono (fun e w1 hR=>?_)
 obtain⟨r,st1,hPr,v,g1,rfl,k1,k2⟩:=hR
 exact fB (v:=r) hk (h r st1 hPr) hcr hi' he hnt hrel hQ hd hdn k1 k2
theorem cx {o1:Op1} {l:List Op1} {f:A} {as:List A} {k:Nat} {caps:List D} {r d:D} {st1:Store} (hg:ao ρ o1.guard=some true) (ho:o1.op=.call f as) (hf:f.ev ρ=.func k caps) (ha:((as.map (·.ev ρ)++caps).map D.strip).all D.freeA=true) (hr:EvP Γ k ((as.map (·.ev ρ)++caps).map D.strip) r)
  (hx:dr=true→aF r=false∧o1.mv=false) (hd:aw o1.mv r st=(d,st1)) (h:WS Γ dr l (cy ρ o1.dst d) st1 (fun ρ1 st1 fl=>R ρ1 st1 (.n::fl))):WS Γ dr (o1::l) ρ st R:=by
 cases dr
 ·refine sH (Pr:=fun x=>x=r) (f0:=.n) hg ho hf (vK ha (hr.n rfl)) (fun x hx=>?_)
  subst hx
  rw[hd]
  exact h
 ·obtain⟨ρ1,st2,fl,h1,h2⟩:=h
  obtain⟨hx,hm⟩:=hx rfl
  rw[hm]at hd
  have hst:st1=st:=(congrArg Prod.snd hd).symm.trans (jj hx)
  subst hst
  refine⟨ρ1,st2,_,fun P hk=>Recs.cons (.inr ⟨hg,.inr ⟨f,as,k,caps,ho,hf,.inl ⟨rfl,rfl,r,hx,(congrArg Prod.fst hd).symm,fun st2 B w g vs hrel hv=>?_⟩⟩⟩) (h1 P hk),h2⟩
  exact lX ha hr P hk hrel hv
theorem sC {o1:Op1} {l:List Op1} {f:A} {as:List A} {k:Nat} {caps:List D} {r d:D} {st1:Store} (hg:ao ρ o1.guard=some true) (ho:o1.op=.call f as) (hf:f.ev ρ=.func k caps) (hr:EvRO Γ k (as.map (·.ev ρ)++caps) st r)
  (hx:dr=true→aF r=false∧o1.mv=false) (hd:aw o1.mv r st=(d,st1)) (h:WS Γ dr l (cy ρ o1.dst d) st1 (fun ρ1 st1 fl=>R ρ1 st1 (.c::fl))):WS Γ dr (o1::l) ρ st R:=by
 cases dr
 ·refine sH (Pr:=fun x=>x=r) (f0:=.c) hg ho hf (fun P hk _ _ _ _ hrel hv=>?_) (fun x hx=>?_)
  ·obtain⟨h1,h2⟩:=hr P hk hrel hv
   exact⟨h1,h2.mono fun e w' hR=>⟨r,rfl,hR⟩⟩
  ·subst hx
   rw[hd]
   exact h
 ·obtain⟨ρ1,st2,fl,h1,h2⟩:=h
  obtain⟨hx,hm⟩:=hx rfl
  rw[hm]at hd
  have hst:st1=st:=(congrArg Prod.snd hd).symm.trans (jj hx)
  subst hst
  exact⟨ρ1,st2,_,fun P hk=>Recs.cons (.inr ⟨hg,.inr ⟨f,as,k,caps,ho,hf,.inr (.inl ⟨rfl,rfl,r,hx,(congrArg Prod.fst hd).symm,fun B w g vs hrel hv=>hr P hk hrel hv⟩)⟩⟩) (h1 P hk),h2⟩
theorem cp {o1:Op1} {l:List Op1} {f:A} {as:List A} {k:Nat} {caps:List D} {r:D} {st1:Store} (hg:ao ρ o1.guard=some true) (ho:o1.op=.call f as) (hf:f.ev ρ=.func k caps) (hr:EvRW Γ k (as.map (·.ev ρ)++caps) st r st1)
  (h:WS Γ dr l (cy ρ o1.dst r) st1 (fun ρ1 st1 fl=>R ρ1 st1 (.f::fl))):WS Γ dr (o1::l) ρ st R:=by
 cases dr
 ·refine zO (Pr:=fun x s=>x=r∧s=st1) (f0:=.f) hg ho hf (fun P hk _ _ _ _ hrel hv=>?_) (fun x s hx=>?_)
  ·obtain⟨h1,h2⟩:=hr P hk hrel hv
   exact⟨h1,h2.mono fun e w' hR=>⟨r,st1,⟨rfl,rfl⟩,hR⟩⟩
  ·obtain⟨rfl,rfl⟩:=hx
   exact h
 ·obtain⟨ρ1,st2,fl,h1,h2⟩:=h
  exact⟨ρ1,st2,_,fun P hk=>Recs.cons (.inr ⟨hg,.inr ⟨f,as,k,caps,ho,hf,.inr (.inr (.inr (.inl ⟨rfl,fun B w g vs hrel hv=>hr P hk hrel hv⟩)))⟩⟩) (h1 P hk),h2⟩
end
end Go.Sm
