/-
  Regions that draw their order: any order comes to the same data, if those that clash are forced into theirs.
-/
import Derived.Test.YtcejefmekkiboaaEvEvU
import Derived.Test.YtcejefmekkiboaaEvEvR
set_option linter.unusedVariables false
set_option linter.unusedSimpArgs false
set_option linter.unnecessarySimpa false
namespace Go.Ev
open Go.RowKit
section
variable {P:Program} {ops:Array Oper}
def BN (ops:Array Oper) (S:Nat→Bool):Prop:=∀i o,S i=true→ops[i]?=some o→∀e∈o.after,Region.binds .any e=true→S e.on=true
theorem zh {l:List Bool} {i:Nat} (h:l[i]?=some false):(l.set i true).count false+1=l.count false:=by
 induction l generalizing i with
 |nil=>simp at h
 |cons b l ih=>
  cases i with
  |zero=>simp at h;subst h;simp
  |succ i=>
   simp only[List.getElem?_cons_succ]at h
   have:=ih h
   simp only[List.set_cons_succ,List.count_cons]
   omega
theorem qw (I:(Nat→Bool)→Act→World→Prop) {Q:Exit→Act→World→Prop}
  (hafter:∀i o,ops[i]?=some o→∀e∈o.after,Region.binds .any e=true→e.on<i)
  (hstep:∀(S:Nat→Bool) (i:Nat) (o:Oper) (a:Act) (w:World) (K:Act→World→Prop),I S a w→BN ops S→S i=false→ops[i]?=some o→(∀e∈o.after,Region.binds .any e=true→S e.on=true)→
   (∀a' w',I (fun j=>S j||j==i) a' w'→K a' w')→wpOp P ops Q i K a w)
  (hfin:∀(S:Nat→Bool) a w,I S a w→(∀j,j<ops.size→S j=true)→(∀j,ops.size≤j→S j=false)→Q .normal a w):
  ∀(fuel:Nat) (listed:Array Bool) (a:Act) (w:World),listed.size=ops.size→listed.toList.count false=fuel→BN ops (fun j=>listed.getD j false)→I (fun j=>listed.getD j false) a w→wpAny P .any ops Q fuel listed a w:=by
 have final:∀(listed:Array Bool) (a:Act) (w:World),listed.size=ops.size→I (fun j=>listed.getD j false) a w→Region.ready .any ops listed=[]→Q .normal a w:=by
  intro listed a w hs hI hr
  refine hfin _ a w hI (fun j hj=>?_) (fun j hj=>by simp[Array.getD,show¬j<listed.size by omega])
  have key:∀j,j<ops.size→listed.getD j false=true:=by
   intro j
   induction j using Nat.strongRecOn with
   |_ j ih=>
    intro hj
    cases hb:listed.getD j false with
    |true=>rfl
    |false=>
     exfalso
     have:j∈Region.ready .any ops listed:=mem_ready.2 ⟨by
      have hlt:j<listed.size:=by omega
      simp only[Array.getD,hlt,dite_true]at hb ⊢
      exact hb,ops[j],Array.getElem?_eq_getElem hj,fun e he hbd=>by
      have hlt:=hafter j _ (Array.getElem?_eq_getElem hj) e he hbd
      exact ih e.on hlt (by omega)⟩
     rw[hr]at this
     cases this
  exact key j hj
 intro fuel
 induction fuel with
 |zero=>
  intro listed a w hs hc hd hI
  have hall:∀j,listed.getD j true=true:=fun j=>by
   by_cases hlt:j<listed.size
   ·simp only[Array.getD,hlt,dite_true]
    cases hb:listed[j]with
    |true=>simpa using hb
    |false=>
     exfalso
     have hmem:false∈listed.toList:=by
      rw[←hb]
      exact Array.getElem_mem_toList hlt
     have:=List.count_pos_iff.2 hmem
     omega
   ·simp[Array.getD,hlt]
  have hr:Region.ready .any ops listed=[]:=by
   apply List.eq_nil_iff_forall_not_mem.2
   intro j hj
   have:=(mem_ready.1 hj).1
   rw[hall]at this
   cases this
  exact⟨hr,final listed a w hs hI hr⟩
 |succ fuel ih=>
  intro listed a w hs hc hd hI
  refine⟨final listed a w hs hI,fun i hi=>?_⟩
  obtain⟨h0,o,ho,hall⟩:=mem_ready.1 hi
  have hlt:i<listed.size:=by
   have:=(Array.getElem?_eq_some_iff.1 ho).1
   omega
  have h0':listed[i]=false:=by simpa[Array.getD,hlt]using h0
  have hset:(fun j=>(listed.setIfInBounds i true).getD j false)=fun j=>listed.getD j false||j==i:=by
   funext j
   by_cases e:j=i
   ·subst e
    simp[Array.getD,hlt]
   ·by_cases hj:j<listed.size
    ·simp[Array.getD,hj,Array.getElem_setIfInBounds,Ne.symm e,e]
    ·simp[Array.getD,hj,e]
  refine hstep _ i o a w _ hI hd (by simp[Array.getD,hlt,h0']) ho hall (fun a' w' hI'=>?_)
  refine ih _ a' w' (by simpa using hs) ?_ ?_ (by rw[hset];exact hI')
  ·have:=zh (l:=listed.toList) (i:=i) (by simp[hlt,h0'])
   rw[Array.toList_setIfInBounds]
   omega
  ·rw[hset]
   intro k ok hk hok e he hbd
   simp only[Bool.or_eq_true,beq_iff_eq]at hk ⊢
   rcases hk with hk|rfl
   ·exact .inl (hd k ok hk hok e he hbd)
   ·rw[ho]at hok
    cases hok
    exact .inl (hall e he hbd)
/-! ### What an operation leaves behind -/
def Fl.eff (k:Fl) (s st:Store):Store:=match k with
 | .w p=>{st with boxes:=ap st.boxes p (s.boxes p)}
 | .t=>{st with toks:=s.toks,ntok:=s.ntok}
 | .a p=>{st with boxes:=ap st.boxes p (s.boxes p),next:=s.next}
 | .v p _=>{st with boxes:=ap st.boxes p (s.boxes p)}
 | .f=>s
 |_=>st
def Fl.Agree (k:Fl) (st st2:Store):Prop:=match k with
 | .n=>True
 | .r p| .w p=>st2.boxes p=st.boxes p∧st2.lim=st.lim
 | .t=>st2.toks=st.toks∧st2.ntok=st.ntok∧st2.tlim=st.tlim
 | .a _=>st2.next=st.next
 | .v p ps=>st2.boxes p=st.boxes p∧(∀q∈ps,st2.boxes q=st.boxes q)∧st2.lim=st.lim∧st2.next=st.next∧st2.ntok=st.ntok
 |_=>st2=st
theorem Fl.clash_symm (a b:Fl):a.clash b=b.clash a:=by
 have h:∀p q:Nat,(p==q)=(q==p):=fun p q=>by
  by_cases e:p=q
  ·rw[e]
  ·rw[beq_eq_false_iff_ne.2 e,beq_eq_false_iff_ne.2 (Ne.symm e)]
 cases a<;>cases b<;>first|rfl|exact h _ _|(simp only[Fl.clash];rw[h])
theorem HO {α:Type} (f:Nat→α) {p q:Nat} (h:p≠q) (a b:α):ap (ap f p a) q b=ap (ap f q b) p a:=by
 funext i
 by_cases h1:i=p
 ·subst h1;rw[ab _ _ h,ae,ae]
 ·by_cases h2:i=q
  ·subst h2;rw[ae,ab _ _ h1,ae]
  ·rw[ab _ _ h2,ab _ _ h1,ab _ _ h1,ab _ _ h2]
theorem Fl.eff_comm {k k':Fl} (h:k.clash k'=false) (s s' st:Store):k.eff s (k'.eff s' st)=k'.eff s' (k.eff s st):=by
 cases k<;>cases k'<;>simp only[Fl.clash]at h<;>first|contradiction|rfl|skip
 case w.v p q ps=>
  have h':p≠q:=by
   simp only[Bool.or_eq_false_iff,beq_eq_false_iff_ne]at h
   exact h.1
  simp only[Fl.eff]
  rw[HO _ h']
 case v.w p ps q=>
  have h':p≠q:=by
   simp only[Bool.or_eq_false_iff,beq_eq_false_iff_ne]at h
   exact h.1
  simp only[Fl.eff]
  rw[HO _ h']
 all_goals
  rename_i p q
  have h':p≠q:=by simpa using h
  simp only[Fl.eff]
  rw[HO _ h']
/-! ### Frames and stores over a set of operations -/
section
variable {α:Type} (ρ0:Nat→D) (dst:Nat→Option Nat) (dv:Nat→D) (st0:Store) (sv:Nat→Store) (kf:Nat→Fl)
def ec (S:Nat→Bool):Nat→(Nat→D)
 |0=>ρ0
 |n+1=>if S n then cy (ec S n) (dst n) (dv n)else ec S n
def cw (S:Nat→Bool):Nat→Store
 |0=>st0
 |n+1=>if S n then(kf n).eff (sv n) (cw S n)else cw S n
theorem pE {ρ:Nat→D} {d:Option Nat} {x:D} {t:Nat} (h:d≠some t):cy ρ d x t=ρ t:=by
 cases d with
 |none=>rfl
 |some k=>exact ab _ _ (fun e=>h (by rw[e]))
theorem ol {ρ:Nat→D} {x:D} {t:Nat}:cy ρ (some t) x t=x:=ae _ _ _
theorem gr {S S':Nat→Bool} {t:Nat}:∀n,(∀j,j<n→dst j=some t→S j=S' j)→ec ρ0 dst dv S n t=ec ρ0 dst dv S' n t
 |0,_=>rfl
 |n+1,h=>by
  have ih:=gr n (fun j hj=>h j (by omega))
  unfold ec
  by_cases hd:dst n=some t
  ·rw[h n (by omega) hd]
   split
   ·rw[hd,ol,ol]
   ·exact ih
  ·have e:∀(b:Bool) (ρ:Nat→D),(if b=true then cy ρ (dst n) (dv n)else ρ) t=ρ t:=fun b ρ=>by
    split
    ·exact pE hd
    ·rfl
   rw[e,e]
   exact ih
theorem yA (i:Nat):∀n,i≤n→ec ρ0 dst dv (fun j=>decide (j<i)) n=ec ρ0 dst dv (fun _=>true) i:=by
 intro n
 induction n with
 |zero=>intro h;have:i=0:=by omega
        subst this;rfl
 |succ n ih=>
  intro h
  by_cases e:i=n+1
  ·subst e
   clear ih h
   have:∀m,m≤n+1→ec ρ0 dst dv (fun j=>decide (j<n+1)) m=ec ρ0 dst dv (fun _=>true) m:=by
    intro m
    induction m with
    |zero=>intro _;rfl
    |succ m ihm=>
     intro hm
     unfold ec
     rw[ihm (by omega)]
     simp[show m<n+1 by omega]
   exact this _ (Nat.le_refl _)
  ·conv=>lhs;unfold ec
   simp only[show¬n<i by omega,decide_false,Bool.false_eq_true,if_false]
   exact ih (by omega)
theorem oy {S:Nat→Bool} {t i:Nat} (hi:dst i=some t) (hS:S i=true):∀n,i<n→(∀j,i<j→j<n→S j=true→dst j≠some t)→ec ρ0 dst dv S n t=dv i
 |0,h,_=>by omega
 |n+1,h,hl=>by
  unfold ec
  by_cases e:i=n
  ·subst e
   rw[hS,if_pos rfl,hi,ol]
  ·have ih:=oy hi hS n (by omega) (fun j h1 h2=>hl j h1 (by omega))
   split
   ·rename_i hSn
    rw[pE (hl n (by omega) (by omega) hSn)]
    exact ih
   ·exact ih
theorem AM (i:Nat):∀n,i≤n→cw st0 sv kf (fun j=>decide (j<i)) n=cw st0 sv kf (fun _=>true) i:=by
 intro n
 induction n with
 |zero=>intro h;have:i=0:=by omega
        subst this;rfl
 |succ n ih=>
  intro h
  by_cases e:i=n+1
  ·subst e
   clear ih h
   have:∀m,m≤n+1→cw st0 sv kf (fun j=>decide (j<n+1)) m=cw st0 sv kf (fun _=>true) m:=by
    intro m
    induction m with
    |zero=>intro _;rfl
    |succ m ihm=>
     intro hm
     unfold cw
     rw[ihm (by omega)]
     simp[show m<n+1 by omega]
   exact this _ (Nat.le_refl _)
  ·conv=>lhs;unfold cw
   simp only[show¬n<i by omega,decide_false,Bool.false_eq_true,if_false]
   exact ih (by omega)
theorem oa {S S':Nat→Bool} {p:Nat}:∀n,(∀j,j<n→kf j=.w p∨kf j=.f∨kf j=.a p∨(∃ps,kf j=.v p ps)→S j=S' j)→(cw st0 sv kf S n).boxes p=(cw st0 sv kf S' n).boxes p
 |0,_=>rfl
 |n+1,h=>by
  have ih:=oa n (fun j hj=>h j (by omega))
  have hn:=h n (by omega)
  have key:∀(b:Bool) (X:Store),(∀q,kf n=.w q→q≠p)→kf n≠.f→(∀q,kf n=.a q→q≠p)→(∀q ps,kf n=.v q ps→q≠p)→(if b=true then(kf n).eff (sv n) X else X).boxes p=X.boxes p:=fun b X h1 h2 h3 h4=>by
   split
   ·cases hk:kf n with
    |w q=>simp only[Fl.eff];exact ab _ _ (fun e=>h1 q hk e.symm)
    |a q=>simp only[Fl.eff];exact ab _ _ (fun e=>h3 q hk e.symm)
    |v q ps=>simp only[Fl.eff];exact ab _ _ (fun e=>h4 q ps hk e.symm)
    |f=>exact absurd hk h2
    |_=>rfl
   ·rfl
  unfold cw
  by_cases hw:kf n=.w p∨kf n=.f∨kf n=.a p∨(∃ps,kf n=.v p ps)
  ·rw[hn hw]
   split
   ·rcases hw with hw|hw|hw|⟨ps,hw⟩
    ·rw[hw];simp only[Fl.eff,ae]
    ·rw[hw];rfl
    ·rw[hw];simp only[Fl.eff,ae]
    ·rw[hw];simp only[Fl.eff,ae]
   ·exact ih
  ·have h1:∀q,kf n=.w q→q≠p:=fun q hq e=>hw (.inl (by rw[hq,e]))
   have h2:kf n≠.f:=fun e=>hw (.inr (.inl e))
   have h3:∀q,kf n=.a q→q≠p:=fun q hq e=>hw (.inr (.inr (.inl (by rw[hq,e]))))
   have h4:∀q ps,kf n=.v q ps→q≠p:=fun q ps hq e=>hw (.inr (.inr (.inr ⟨ps,by rw[hq,e]⟩)))
   rw[key _ _ h1 h2 h3 h4,key _ _ h1 h2 h3 h4]
   exact ih
theorem tF {S S':Nat→Bool}:∀n,(∀j,j<n→kf j=.t∨kf j=.f→S j=S' j)→(cw st0 sv kf S n).toks=(cw st0 sv kf S' n).toks∧(cw st0 sv kf S n).ntok=(cw st0 sv kf S' n).ntok
 |0,_=>⟨rfl,rfl⟩
 |n+1,h=>by
  have ih:=tF n (fun j hj=>h j (by omega))
  have hn:=h n (by omega)
  have key:∀(b:Bool) (X:Store),kf n≠.t→kf n≠.f→(if b=true then(kf n).eff (sv n) X else X).toks=X.toks∧(if b=true then(kf n).eff (sv n) X else X).ntok=X.ntok:=fun b X h1 h2=>by
   split
   ·cases hk:kf n with
    |t=>exact absurd hk h1
    |f=>exact absurd hk h2
    |_=>exact⟨rfl,rfl⟩
   ·exact⟨rfl,rfl⟩
  unfold cw
  by_cases hw:kf n=.t∨kf n=.f
  ·rw[hn hw]
   split
   ·rcases hw with hw|hw<;>rw[hw]<;>exact⟨rfl,rfl⟩
   ·exact ih
  ·have h1:kf n≠.t:=fun e=>hw (.inl e)
   have h2:kf n≠.f:=fun e=>hw (.inr e)
   rw[(key _ _ h1 h2).1,(key _ _ h1 h2).1,(key _ _ h1 h2).2,(key _ _ h1 h2).2]
   exact ih
theorem oe {S S':Nat→Bool}:∀n,(∀j,j<n→kf j=.f→S j=S' j)→(cw st0 sv kf S n).lim=(cw st0 sv kf S' n).lim∧(cw st0 sv kf S n).tlim=(cw st0 sv kf S' n).tlim
 |0,_=>⟨rfl,rfl⟩
 |n+1,h=>by
  have ih:=oe n (fun j hj=>h j (by omega))
  have hn:=h n (by omega)
  have key:∀(b:Bool) (X:Store),kf n≠.f→(if b=true then(kf n).eff (sv n) X else X).lim=X.lim∧(if b=true then(kf n).eff (sv n) X else X).tlim=X.tlim:=fun b X h2=>by
   split
   ·cases hk:kf n with
    |f=>exact absurd hk h2
    |_=>exact⟨rfl,rfl⟩
   ·exact⟨rfl,rfl⟩
  unfold cw
  by_cases hw:kf n=.f
  ·rw[hn hw]
   split
   ·rw[hw];exact⟨rfl,rfl⟩
   ·exact ih
  ·rw[(key _ _ hw).1,(key _ _ hw).1,(key _ _ hw).2,(key _ _ hw).2]
   exact ih
theorem qm {S S':Nat→Bool}:∀n,(∀j,j<n→kf j=.f∨(∃p,kf j=.a p)→S j=S' j)→(cw st0 sv kf S n).next=(cw st0 sv kf S' n).next
 |0,_=>rfl
 |n+1,h=>by
  have ih:=qm n (fun j hj=>h j (by omega))
  have hn:=h n (by omega)
  have key:∀(b:Bool) (X:Store),kf n≠.f→(∀p,kf n≠.a p)→(if b=true then(kf n).eff (sv n) X else X).next=X.next:=fun b X h2 h3=>by
   split
   ·cases hk:kf n with
    |f=>exact absurd hk h2
    |a p=>exact absurd hk (h3 p)
    |_=>rfl
   ·rfl
  unfold cw
  by_cases hw:kf n=.f∨∃p,kf n=.a p
  ·rw[hn hw]
   split
   ·rcases hw with hw|⟨p,hw⟩<;>rw[hw]<;>rfl
   ·exact ih
  ·have h2:kf n≠.f:=fun e=>hw (.inl e)
   have h3:∀p,kf n≠.a p:=fun p e=>hw (.inr ⟨p,e⟩)
   rw[key _ _ h2 h3,key _ _ h2 h3]
   exact ih
theorem pO {S S':Nat→Bool} (n:Nat) (h:∀j,j<n→(∀s X,(kf j).eff s X=X)∨S j=S' j):cw st0 sv kf S n=cw st0 sv kf S' n:=by
 induction n with
 |zero=>rfl
 |succ n ih=>
  have ih:=ih (fun j hj=>h j (by omega))
  unfold cw
  rcases h n (by omega)with h1|h1
  ·simp only[h1,ite_self];exact ih
  ·rw[h1,ih]
theorem sw {S S':Nat→Bool} (k:Fl) (n:Nat) (h:∀j,j<n→(kf j).clash k=true→S j=S' j):k.Agree (cw st0 sv kf S n) (cw st0 sv kf S' n):=by
 have full:(∀j,j<n→(∀s X,(kf j).eff s X=X)∨(kf j).clash k=true)→cw st0 sv kf S' n=cw st0 sv kf S n:=fun hk=>(pO st0 sv kf n (fun j hj=>by
  rcases hk j hj with h1|h1
  ·exact .inl h1
  ·exact .inr (h j hj h1))).symm
 cases k with
 |n=>trivial
 |r p=>exact⟨(oa st0 sv kf n (fun j hj hk=>h j hj (by rcases hk with hk|hk|hk|⟨_,hk⟩<;>rw[hk]<;>simp[Fl.clash]))).symm,(oe st0 sv kf n (fun j hj hk=>h j hj (by rw[hk];rfl))).1.symm⟩
 |w p=>exact⟨(oa st0 sv kf n (fun j hj hk=>h j hj (by rcases hk with hk|hk|hk|⟨_,hk⟩<;>rw[hk]<;>simp[Fl.clash]))).symm,(oe st0 sv kf n (fun j hj hk=>h j hj (by rw[hk];rfl))).1.symm⟩
 |t=>
  have h1:=tF st0 sv kf n (fun j hj hk=>h j hj (by rcases hk with hk|hk<;>rw[hk]<;>rfl))
  exact⟨h1.1.symm,h1.2.symm,(oe st0 sv kf n (fun j hj hk=>h j hj (by rw[hk];rfl))).2.symm⟩
 |a p=>exact(qm st0 sv kf n (fun j hj hk=>h j hj (by rcases hk with hk|⟨q,hk⟩<;>rw[hk]<;>rfl))).symm
 |v p ps=>
  refine⟨(oa st0 sv kf n (fun j hj hk=>h j hj (by rcases hk with hk|hk|hk|⟨_,hk⟩<;>rw[hk]<;>simp[Fl.clash]))).symm,fun q hq=>(oa st0 sv kf n (fun j hj hk=>h j hj (by
   rcases hk with hk|hk|hk|⟨_,hk⟩<;>rw[hk]<;>simp[Fl.clash]
   exact .inr hq))).symm,(oe st0 sv kf n (fun j hj hk=>h j hj (by rw[hk];rfl))).1.symm,(qm st0 sv kf n (fun j hj hk=>h j hj (by rcases hk with hk|⟨q,hk⟩<;>rw[hk]<;>rfl))).symm,(tF st0 sv kf n (fun j hj hk=>h j hj (by rcases hk with hk|hk<;>rw[hk]<;>rfl))).2.symm⟩
 |c=>exact full fun j hj=>by cases hk:kf j<;>first|exact .inl fun _ _=>rfl|exact .inr rfl
 |f=>exact full fun j hj=>by cases hk:kf j<;>first|exact .inl fun _ _=>rfl|exact .inr rfl
theorem tN {S:Nat→Bool} {i:Nat} (hi:S i=false):∀n,i<n→(∀j,i<j→j<n→S j=true→(kf i).clash (kf j)=false)→cw st0 sv kf (fun j=>S j||j==i) n=(kf i).eff (sv i) (cw st0 sv kf S n)
 |0,h,_=>by omega
 |n+1,h,hc=>by
  by_cases e:i=n
  ·subst e
   have:cw st0 sv kf (fun j=>S j||j==i) i=cw st0 sv kf S i:=by
    have:∀m,m≤i→cw st0 sv kf (fun j=>S j||j==i) m=cw st0 sv kf S m:=by
     intro m
     induction m with
     |zero=>intro _;rfl
     |succ m ih=>
      intro hm
      unfold cw
      rw[ih (by omega)]
      simp[show m≠i by omega]
    exact this i (Nat.le_refl _)
   conv=>lhs;unfold cw
   conv=>rhs;unfold cw
   simp only[hi,beq_self_eq_true,Bool.or_true,if_true,Bool.false_eq_true,if_false]
   rw[this]
  ·have ih:=tN hi n (by omega) (fun j h1 h2=>hc j h1 (by omega))
   conv=>lhs;unfold cw
   conv=>rhs;unfold cw
   have hn:(n==i)=false:=by simp;omega
   simp only[hn,Bool.or_false,ih]
   cases hS:S n with
   |false=>rfl
   |true=>
    simp only[if_true]
    exact Fl.eff_comm (by rw[Fl.clash_symm];exact hc n (by omega) (by omega) hS) _ _ _
end
end
end Go.Ev
/-
  What an operation looks at.
-/
namespace Go.Ev
open Go.RowKit
section
variable {ρ ρ':Nat→D} {st st':Store} {d:D} {x:O}
theorem bP {y:A} (h:∀t∈y.reads,ρ t=ρ' t):y.ev ρ=y.ev ρ':=by
 cases y with
 |tmp t=>exact h t (by simp[A.reads])
 |lit x=>rfl
theorem l8 {y:Option A} (h:∀t∈A.readsO y,ρ t=ρ' t):y.map (·.ev ρ)=y.map (·.ev ρ'):=by
 cases y with
 |none=>rfl
 |some y=>simp only[Option.map_some];rw[bP h]
theorem lI {ys:List A} (h:∀t∈ys.flatMap A.reads,ρ t=ρ' t):ys.map (·.ev ρ)=ys.map (·.ev ρ'):=
 List.map_congr_left fun y hy=>bP fun t ht=>h t (List.mem_flatMap.2 ⟨y,hy,ht⟩)
theorem Aa (h:∀t∈x.reads,ρ t=ρ' t):x.run ρ st=x.run ρ' st:=by
 cases x<;>simp only[O.reads,List.mem_append,or_imp,forall_and]at h<;>simp only[O.run]
 case pick=>rw[bP h.1.1,bP h.1.2,bP h.2]
 case slice=>rw[bP h.1.1.1,l8 h.1.1.2,l8 h.1.2,l8 h.2]
 case sliceA=>rw[bP h.1.1,l8 h.1.2,l8 h.2]
 case mapset=>rw[bP h.1.1,bP h.1.2,bP h.2]
 case build zero fills=>
  have:(fills.map fun f=>(f.1,f.2.1,f.2.2.ev ρ))=fills.map fun f=>(f.1,f.2.1,f.2.2.ev ρ'):=List.map_congr_left fun f hf=>by
   rw[bP (ρ:=ρ) (ρ':=ρ') fun t ht=>h t (List.mem_flatMap.2 ⟨f,hf,ht⟩)]
  rw[this]
 case bslice sz xs=>
  have hm:=lI h
  have e1:(xs.all fun x=>(x.ev ρ).strip.cells.length==sz&&(x.ev ρ).strip.cells.all D.plain)=(xs.map (·.ev ρ)).all fun x=>x.strip.cells.length==sz&&x.strip.cells.all D.plain:=by rw[List.all_map];rfl
  have e2:(xs.all fun x=>(x.ev ρ').strip.cells.length==sz&&(x.ev ρ').strip.cells.all D.plain)=(xs.map (·.ev ρ')).all fun x=>x.strip.cells.length==sz&&x.strip.cells.all D.plain:=by rw[List.all_map];rfl
  have e3:(xs.map fun x=>(x.ev ρ).strip)=(xs.map (·.ev ρ)).map D.strip:=by simp
  have e4:(xs.map fun x=>(x.ev ρ').strip)=(xs.map (·.ev ρ')).map D.strip:=by simp
  rw[e1,e2,e3,e4,hm]
 case min xs=>
  cases xs with
  |nil=>rfl
  |cons y r=>
   simp only[List.flatMap_cons,List.mem_append,or_imp,forall_and]at h
   simp only[bP h.1,lI h.2]
 case max xs=>
  cases xs with
  |nil=>rfl
  |cons y r=>
   simp only[List.flatMap_cons,List.mem_append,or_imp,forall_and]at h
   simp only[bP h.1,lI h.2]
 case mkfunc f xs=>rw[lI h]
 all_goals first
  |rfl
  |rw[bP h]
  |rw[bP h.1,bP h.2]
theorem xc {mv:Bool} (h:∀t∈x.reads,ρ t=ρ' t):x.runM mv ρ st=x.runM mv ρ' st:=by
 unfold O.runM
 split
 ·rename_i sz b y z
  simp only[O.reads,List.mem_append,or_imp,forall_and]at h
  rw[bP h.1,bP h.2]
 ·exact Aa h
theorem zz {mv:Bool} (h:∀t∈x.reads,ρ t=ρ' t):x.acc mv ρ=x.acc mv ρ':=by
 cases x<;>simp only[O.reads,List.mem_append,or_imp,forall_and]at h<;>simp only[O.acc]
 case sliceA=>rw[bP h.1.1]
 all_goals first
  |rfl
  |rw[bP h]
  |rw[bP h.1,bP h.2]
  |rw[bP h.1]
theorem wt {sz b:Nat} {u v:D} {t1 t2:Tok} {s1 s2:Nat} {xs ys:List D} (hu:u=.slice t1 s1 xs) (hv:v=.slice t2 s2 ys) (hr:eZ sz b u v st=some (d,st')):st'=Fl.eff .t st' st∧∀st2,Fl.Agree .t st st2→eZ sz b u v st2=some (d,Fl.eff .t st' st2):=by
 subst hu hv
 simp only[eZ]at hr ⊢
 split at hr
 ·rename_i hc
  simp only[hc,if_true]
  split at hr
  ·rename_i k
   split at hr
   ·rename_i hk
    simp only[Option.some.injEq,Prod.mk.injEq]at hr
    obtain⟨rfl,rfl⟩:=hr
    refine⟨rfl,fun st2 ha=>?_⟩
    obtain⟨a1,a2,a3⟩:=ha
    simp only[a1,a2,a3,hk,if_true,Fl.eff]
   ·cases hr
  ·simp only[Option.some.injEq,Prod.mk.injEq]at hr
   obtain⟨rfl,rfl⟩:=hr
   refine⟨rfl,fun st2 ha=>?_⟩
   obtain⟨a1,a2,a3⟩:=ha
   simp only[a1,a2]
   rfl
  ·simp only[Option.some.injEq,Prod.mk.injEq]at hr
   obtain⟨rfl,rfl⟩:=hr
   refine⟨rfl,fun st2 ha=>?_⟩
   obtain⟨a1,a2,a3⟩:=ha
   simp only[a1,a2]
   rfl
  ·cases hr
 ·cases hr
theorem HD {st2:Store} {p:Nat} (h1:st2.boxes p=st.boxes p) (h2:st2.lim=st.lim):st2.cellsAt p=st.cellsAt p:=by unfold Store.cellsAt;rw[h1,h2]
theorem ym {mv:Bool} (hr:x.runM mv ρ st=some (d,st')):st'=(x.acc mv ρ).eff st' st∧∀st2,(x.acc mv ρ).Agree st st2→x.runM mv ρ st2=some (d,(x.acc mv ρ).eff st' st2):=by
 have ff:x.acc mv ρ=.f→st'=(x.acc mv ρ).eff st' st∧∀st2,(x.acc mv ρ).Agree st st2→x.runM mv ρ st2=some (d,(x.acc mv ρ).eff st' st2):=fun e=>by
  rw[e]
  refine⟨rfl,fun st2 ha=>?_⟩
  have ha:st2=st:=ha
  subst ha
  exact hr
 have rd:∀p,x.acc mv ρ=.r p→(∀st2,st2.boxes p=st.boxes p→st2.lim=st.lim→x.runM mv ρ st2=some (d,st2))→st'=(x.acc mv ρ).eff st' st∧∀st2,(x.acc mv ρ).Agree st st2→x.runM mv ρ st2=some (d,(x.acc mv ρ).eff st' st2):=fun p e h=>by
  rw[e]
  have:=h st rfl rfl
  rw[hr]at this
  simp only[Option.some.injEq,Prod.mk.injEq]at this
  exact⟨this.2,fun st2 ha=>h st2 ha.1 ha.2⟩
 have nn:x.acc mv ρ=.n→(st'=st∧∀st2,x.runM mv ρ st2=some (d,st2))→st'=(x.acc mv ρ).eff st' st∧∀st2,(x.acc mv ρ).Agree st st2→x.runM mv ρ st2=some (d,(x.acc mv ρ).eff st' st2):=fun e h=>by
  rw[e]
  exact⟨h.1,fun st2 _=>h.2 st2⟩
 have rM:(∀sz b u v,x≠.append sz b u v)→∀st,x.runM mv ρ st=x.run ρ st:=fun h st=>by
  unfold O.runM
  split
  ·exact absurd rfl (h _ _ _ _)
  ·rfl
 cases x
 case load ag sz y=>
  rw[rM (fun _ _ _ _ e=>by cases e)]at hr
  cases hy:y.ev ρ with
  |ptr p off=>
   refine rd p (by simp only[O.acc,hy]) fun st2 h1 h2=>?_
   rw[rM (fun _ _ _ _ e=>by cases e)]
   simp only[O.run,hy]at hr ⊢
   rw[HD h1 h2]
   obtain⟨c,h1,h2⟩:=Option.bind_eq_some_iff.1 hr
   obtain⟨c',h3,h4⟩:=Option.map_eq_some_iff.1 h2
   cases h4
   rw[h1,Option.bind_some,h3]
   rfl
  |eptr _ _ _ _=>
   refine nn (by simp only[O.acc,hy]) ?_
   simp only[O.run,hy]at hr
   obtain⟨c,h1,h2⟩:=Option.bind_eq_some_iff.1 hr
   obtain⟨c',h3,h4⟩:=Option.map_eq_some_iff.1 h2
   cases h4
   refine⟨rfl,fun st2=>?_⟩
   rw[rM (fun _ _ _ _ e=>by cases e)]
   simp only[O.run,hy,h1,Option.bind_some,h3]
   rfl
  |_=>simp[O.run,hy]at hr
 case lenM y=>
  rw[rM (fun _ _ _ _ e=>by cases e)]at hr
  cases hy:y.ev ρ with
  |map p=>
   refine rd p (by simp only[O.acc,hy]) fun st2 h1 h2=>?_
   rw[rM (fun _ _ _ _ e=>by cases e)]
   simp only[O.run,hy,h1]at hr ⊢
   split at hr
   ·simp only[Option.some.injEq,Prod.mk.injEq]at hr;rw[hr.1]
   ·cases hr
  |nilmap=>
   refine nn (by simp only[O.acc,hy]) ?_
   simp only[O.run,hy,Option.some.injEq,Prod.mk.injEq]at hr
   obtain⟨rfl,rfl⟩:=hr
   refine⟨rfl,fun st2=>?_⟩
   rw[rM (fun _ _ _ _ e=>by cases e)]
   simp only[O.run,hy]
  |_=>simp[O.run,hy]at hr
 case lookup z ok y k=>
  rw[rM (fun _ _ _ _ e=>by cases e)]at hr
  cases hy:y.ev ρ with
  |map p=>
   refine rd p (by simp only[O.acc,hy]) fun st2 h1 h2=>?_
   rw[rM (fun _ _ _ _ e=>by cases e)]
   simp only[O.run,hy,h1]at hr ⊢
   cases hk:k.ev ρ with
   |int kk i=>
    rw[hk]at hr
    cases kk with
    |i64=>
     simp only at hr ⊢
     split at hr
     ·split at hr<;>(simp only[Option.some.injEq,Prod.mk.injEq]at hr;simp_all)
     ·cases hr
    |_=>simp at hr
   |_=>rw[hk]at hr;simp at hr
  |nilmap=>
   refine nn (by simp only[O.acc,hy]) ?_
   cases hk:k.ev ρ with
   |int kk i=>
    cases kk with
    |i64=>
     simp only[O.run,hy,hk,Option.some.injEq,Prod.mk.injEq]at hr
     obtain⟨rfl,rfl⟩:=hr
     refine⟨rfl,fun st2=>?_⟩
     rw[rM (fun _ _ _ _ e=>by cases e)]
     simp only[O.run,hy,hk]
    |_=>simp[O.run,hy,hk]at hr
   |_=>simp[O.run,hy,hk]at hr
  |_=>simp[O.run,hy]at hr
 case sliceA n sz y lo hi=>
  rw[rM (fun _ _ _ _ e=>by cases e)]at hr
  cases hy:y.ev ρ with
  |ptr p off=>
   refine rd p (by simp only[O.acc,hy]) fun st2 h1 h2=>?_
   rw[rM (fun _ _ _ _ e=>by cases e)]
   simp only[O.run,hy]at hr ⊢
   rw[HD h1 h2]
   obtain⟨c,h1,h2⟩:=Option.bind_eq_some_iff.1 hr
   rw[h1,Option.bind_some]
   split at h2
   ·split at h2
    ·rename_i ha hb hc
     simp only[Option.some.injEq,Prod.mk.injEq]at h2
     simp only[hb,ha,hc,and_self,if_true,h2.1]
    ·cases h2
   ·cases h2
  |_=>simp[O.run,hy]at hr
 case store sz y z=>
  cases hy:y.ev ρ with
  |ptr p off=>
   rw[rM (fun _ _ _ _ e=>by cases e)]at hr
   have e:(O.store sz y z).acc mv ρ=.w p:=by simp only[O.acc,hy]
   rw[e]
   simp only[O.run,hy]at hr
   split at hr<;>try contradiction
   rename_i hl
   obtain⟨b,h6,h7⟩:=Option.bind_eq_some_iff.1 hr
   obtain⟨cs,h8,h9⟩:=Option.bind_eq_some_iff.1 h7
   obtain⟨c',h10,h11⟩:=Option.map_eq_some_iff.1 h9
   cases h11
   clear ff rd nn
   refine⟨by simp only[Fl.eff,ae],fun st2 ha=>?_⟩
   obtain⟨a1,a2⟩:=ha
   rw[rM (fun _ _ _ _ e=>by cases e)]
   simp only[O.run,hy]
   rw[a2,if_neg hl,a1,h6,Option.bind_some,h8,Option.bind_some,h10,Option.map_some]
   simp only[Fl.eff,ae,a2]
  |_=>rw[rM (fun _ _ _ _ e=>by cases e)]at hr;simp[O.run,hy]at hr
 case append sz b y z=>
  cases mv with
  |true=>exact ff rfl
  |false=>
   cases hy:y.ev ρ with
   |slice t1 s1 xs=>
    cases hz:z.ev ρ with
    |slice t2 s2 ys=>
     have e:(O.append sz b y z).acc false ρ=.t:=by simp only[O.acc,hy,hz]
     rw[e]
     have hr':eZ sz b (y.ev ρ) (z.ev ρ) st=some (d,st'):=hr
     obtain⟨h1,h2⟩:=wt hy hz hr'
     exact⟨h1,fun st2 ha=>h2 st2 ha⟩
    |_=>exact ff (by simp only[O.acc,hy,hz])
   |_=>exact ff (by simp only[O.acc,hy])
 case alloc=>exact ff rfl
 case box=>exact ff rfl
 case appendZ=>exact ff rfl
 case mkmap=>exact ff rfl
 case rangeM=>exact ff rfl
 case nextM=>exact ff rfl
 case entryM=>exact ff rfl
 case mapset=>exact ff rfl
 case clear=>exact ff rfl
 case call=>exact ff rfl
 case bad=>exact ff rfl
 all_goals
  refine nn rfl ?_
  rw[rM (fun _ _ _ _ e=>by cases e)]at hr
  simp only[rM (fun _ _ _ _ e=>by cases e)]
  simp only[O.run]at hr ⊢
 case build=>obtain⟨c,h1,h2⟩:=Option.map_eq_some_iff.1 hr;cases h2;exact⟨rfl,fun st2=>by rw[h1];rfl⟩
 case slice=>obtain⟨c,h1,h2⟩:=Option.map_eq_some_iff.1 hr;cases h2;exact⟨rfl,fun st2=>by rw[h1];rfl⟩
 case bslice=>
  split at hr
  ·rename_i hc
   simp only[Option.some.injEq,Prod.mk.injEq]at hr
   obtain⟨rfl,rfl⟩:=hr
   exact⟨rfl,fun st2=>by rw[if_pos hc]⟩
  ·cases hr
 case bin=>obtain⟨c,h1,h2⟩:=Option.map_eq_some_iff.1 hr;cases h2;exact⟨rfl,fun st2=>by rw[h1];rfl⟩
 all_goals
  repeat' (split at hr)
 all_goals first
  |contradiction
  |(cases hr;done)
  |(simp only[Option.some.injEq,Prod.mk.injEq]at hr;obtain⟨rfl,rfl⟩:=hr;exact⟨rfl,fun st2=>by simp_all⟩)
  |(simp only[Option.map_eq_some_iff,Prod.mk.injEq]at hr;obtain⟨c,h1,rfl,rfl⟩:=hr;exact⟨rfl,fun st2=>by simp_all⟩)
end
end Go.Ev
/-
  One operation of a region that draws its order, at any time that it may come up.
-/
namespace Go.Ev
open Go.RowKit
section
variable {P:Program} {B:Nat} {w w' w1:World} {g g' g1:Ghost} {ρ ρ':Nat→D} {st st' st1:Store} {a:Act} {d:D} {o:Oper}
def Fact (P:Program) (o1:Op1) (ρ:Nat→D) (st:Store) (d:D) (st':Store) (q:Fl):Prop:=
 (ao ρ o1.guard=some false∧d=.undef∧st'=st∧q=.n)∨
 (ao ρ o1.guard=some true∧
  (((∀f as,o1.op≠.call f as)∧o1.op.runM o1.mv ρ st=some (d,st')∧q=o1.op.acc o1.mv ρ)∨
   (∃f as k caps,o1.op=.call f as∧f.ev ρ=.func k caps∧
    ((q=.n∧st'=st∧∃x,aF x=false∧d=(aw false x st).1∧∀(st2:Store) (B:Nat) (w:World) (g:Ghost) (vs:Array Value),Rel B w g st2→VRs w g (as.map (·.ev ρ)++caps) vs.toList→Hj P k∧Calls P k vs w (ei B w g st2 x))∨
     (q=.c∧st'=st∧∃x,aF x=false∧d=(aw false x st).1∧∀(B:Nat) (w:World) (g:Ghost) (vs:Array Value),Rel B w g st→VRs w g (as.map (·.ev ρ)++caps) vs.toList→Hj P k∧Calls P k vs w (ei B w g st x))∨
     (q=.a st.next∧∃x,dS x=true∧aF x=false∧d=(aw true x st).1∧st'=(aw true x st).2∧∀(st2:Store) (B:Nat) (w:World) (g:Ghost) (vs:Array Value),Rel B w g st2→VRs w g (as.map (·.ev ρ)++caps) vs.toList→Hj P k∧Calls P k vs w (ei B w g st2 x))∨
     (q=.f∧∀(B:Nat) (w:World) (g:Ghost) (vs:Array Value),Rel B w g st→VRs w g (as.map (·.ev ρ)++caps) vs.toList→Hj P k∧Calls P k vs w (kL B w g st d st'))∨
     (∃p bx,(q=.w p∨∃ps,q=.v p ps)∧st'={st with boxes:=ap st.boxes p bx}∧∀st2:Store,q.Agree st st2→∀(B:Nat) (w:World) (g:Ghost) (vs:Array Value),Rel B w g st2→VRs w g (as.map (·.ev ρ)++caps) vs.toList→Hj P k∧Calls P k vs w (kL B w g st2 d {st2 with boxes:=ap st2.boxes p bx}))))))
theorem xW {q:Fl} {p:Nat} (hq:q=.w p∨∃ps,q=.v p ps) (st:Store):q.Agree st st:=by
 rcases hq with rfl|⟨ps,rfl⟩
 ·exact⟨rfl,rfl⟩
 ·exact⟨rfl,fun _ _=>rfl,rfl,rfl,rfl⟩
theorem v8 {q:Fl} {p:Nat} (hq:q=.w p∨∃ps,q=.v p ps) {s1 s2 s3:Store} (h:q.Agree s1 s2) (h2:q.Agree s2 s3):q.Agree s1 s3:=by
 rcases hq with rfl|⟨ps,rfl⟩
 ·exact⟨h2.1.trans h.1,h2.2.trans h.2⟩
 ·exact⟨h2.1.trans h.1,fun x hx=>(h2.2.1 x hx).trans (h.2.1 x hx),h2.2.2.1.trans h.2.2.1,h2.2.2.2.1.trans h.2.2.2.1,h2.2.2.2.2.trans h.2.2.2.2⟩
theorem ze {q:Fl} {p:Nat} (hq:q=.w p∨∃ps,q=.v p ps) (s st:Store) (bx:Option Box) (h:s.boxes p=bx):q.eff s st={st with boxes:=ap st.boxes p bx}:=by
 rcases hq with rfl|⟨ps,rfl⟩<;>simp only[Fl.eff,h]
theorem sN {x:D} (h:aF x=false) (st:Store):(aw false x st).2=st∧∀st2,(aw false x st2).1=(aw false x st).1:=by
 have key:∀(st:Store) (d:D),(ej st false d).2=st∧∀st2,(ej st2 false d).1=(ej st false d).1:=fun st d=>by
  unfold ej
  split<;>simp
 unfold aw
 simp only[h,Bool.false_eq_true,if_false]
 cases x with
 |tuple vs=>
  cases vs with
  |nil=>exact key st _
  |cons v vs=>exact⟨(key st v).1,fun st2=>by simp only[(key st v).2 st2]⟩
 |_=>exact key st _
theorem nA {x:D} (h:dS x=true) (hf:aF x=false):∃(F:Nat→D) (cs:List D),∀st,aw true x st=(F st.next,{st with boxes:=ap st.boxes st.next (some (.row cs)),next:=st.next+1}):=by
 cases x with
 |slice t sz xs=>cases t<;>first|(cases h;done)|exact⟨fun n=>.rs n 0 sz xs.length xs.length,xs.flatMap D.cells,fun st=>rfl⟩
 |tuple vs=>
  cases vs with
  |nil=>cases h
  |cons v vs=>cases v with
   |slice t sz xs=>cases t<;>first|(cases h;done)|exact⟨fun n=>.tuple (.rs n 0 sz xs.length xs.length::vs),xs.flatMap D.cells,fun st=>rfl⟩
   |_=>cases h
 |_=>cases h
theorem uh {gd:Option (Nat×Bool)} (h:∀t∈(match gd with|some (g,_)=>[g]|none=>[]),ρ t=ρ' t):ao ρ gd=ao ρ' gd:=by
 cases gd with
 |none=>rfl
 |some q=>
  obtain⟨k,want⟩:=q
  simp only[ao]
  rw[h k (by simp)]
theorem Fact.move {o1:Op1} {q:Fl} (h:Fact P o1 ρ st d st' q) (hr:∀t∈o1.rd,ρ t=ρ' t) {st2:Store} (hs:q.Agree st st2):Fact P o1 ρ' st2 d (q.eff st' st2) q:=by
 have hg:ao ρ o1.guard=ao ρ' o1.guard:=uh fun t ht=>hr t (by simp only[Op1.rd,List.mem_append];exact .inl ht)
 have ho:∀t∈o1.op.reads,ρ t=ρ' t:=fun t ht=>hr t (by simp only[Op1.rd,List.mem_append];exact .inr ht)
 rcases h with⟨h1,h2,h3,rfl⟩|⟨h1,h2⟩
 ·exact .inl ⟨hg▸h1,h2,rfl,rfl⟩
 ·refine .inr ⟨hg▸h1,?_⟩
  rcases h2 with⟨h3,h4,rfl⟩|⟨f,as,k,caps,h3,h4,h5⟩
  ·refine .inl ⟨h3,?_,zz ho⟩
   rw[←xc ho]
   exact(ym h4).2 st2 hs
  ·have hfa:(∀t∈f.reads,ρ t=ρ' t)∧∀t∈as.flatMap A.reads,ρ t=ρ' t:=by
    rw[h3]at ho
    simp only[O.reads,List.mem_append,or_imp,forall_and]at ho
    exact ho
   have e1:f.ev ρ'=.func k caps:=by rw[←bP hfa.1];exact h4
   have e2:=lI hfa.2
   rw[e2]at h5
   refine .inr ⟨f,as,k,caps,h3,e1,?_⟩
   rcases h5 with⟨rfl,rfl,x,q1,q2,q3⟩|⟨rfl,rfl,x,q1,q2,q3⟩|⟨rfl,x,q0,q1,q2,q4,q3⟩|⟨rfl,q3⟩|⟨p,bx,hq,rfl,q3⟩
   ·exact .inl ⟨rfl,rfl,x,q1,by rw[q2];exact((sN q1 st2).2 _),q3⟩
   ·have hs:st2=st':=hs
    subst hs
    exact .inr (.inl ⟨rfl,rfl,x,q1,q2,q3⟩)
   ·have hs:st2.next=st.next:=hs
    obtain⟨F,cs,hF⟩:=nA q0 q1
    refine .inr (.inr (.inl ⟨by rw[hs],x,q0,q1,?_,?_,q3⟩))
    ·rw[q2,hF,hF,hs]
    ·rw[q4,hF,hF,hs]
     simp only[Fl.eff,ae]
   ·have hs:st2=st:=hs
    subst hs
    exact .inr (.inr (.inr (.inl ⟨rfl,q3⟩)))
   ·exact .inr (.inr (.inr (.inr ⟨p,bx,hq,ze hq _ _ _ (ae _ _ _),fun st3 h3=>q3 st3 (v8 hq hs h3)⟩)))
theorem Fact.eff_ {o1:Op1} {q:Fl} (h:Fact P o1 ρ st d st' q):st'=q.eff st' st:=by
 rcases h with⟨h1,h2,h3,rfl⟩|⟨h1,h2⟩
 ·exact h3
 ·rcases h2 with⟨h3,h4,rfl⟩|⟨f,as,k,caps,h3,h4,h5⟩
  ·exact(ym h4).1
  ·rcases h5 with⟨rfl,h,_⟩|⟨rfl,h,_⟩|⟨rfl,x,q0,q1,q2,q4,_⟩|⟨rfl,_⟩|⟨p,bx,hq,rfl,_⟩
   ·exact h
   ·exact h
   ·obtain⟨F,cs,hF⟩:=nA q0 q1
    rw[q4,hF]
    simp only[Fl.eff,ae]
   ·rfl
   ·exact(ze hq _ _ _ (ae _ _ _)).symm
theorem Fact.exec {o1:Op1} {q:Fl} (h:Fact P o1 ρ st d st' q) {mu:List Nat} {nt:Nat} {ops:Array Oper} (hco:iV P mu nt ops o=some o1) (he:EnvR w g ρ a.tmps) (hrel:Rel B w g st) {K:Act→World→Prop} {Q:Exit→Act→World→Prop}
  (hK:∀v w1 g1,o1.dst=o.dst→o.dst.any (fun d=>decide (nt≤d))=false→VR w1 g1 d v→Step B w g st w1 g1 st'→K (a.put o.dst v) w1):
  if Region.wanted o (yielded ops a.tmps)=true then o.wp P a w K Q∨(o.asks P a w∧LetsOut Q)else K (a.put o.dst undef) w:=by
 rcases h with⟨hg,rfl,rfl,_⟩|⟨hg,hop⟩
 ·obtain⟨hw,_,hd,hdn⟩:=dK hco he hg (fun h=>by cases h)
  rw[if_neg (by simp[hw])]
  exact hK _ w g hd hdn .undef (.refl hrel)
 ·have nb:o1.op≠.bad:=by
   intro e
   rcases hop with⟨_,h,_⟩|⟨f,as,k,caps,h,_⟩
   ·rw[e]at h
    unfold O.runM at h
    split at h
    ·rename_i h1 h2;cases h2
    ·simp[O.run]at h
   ·rw[e]at h;cases h
  obtain⟨hw,hcop,hd,hdn⟩:=dK hco he hg (fun _=>nb)
  have hcop:=hcop rfl
  rw[if_pos hw]
  left
  rcases hop with⟨hnc,hrun,_⟩|⟨f,as,k,caps,hcall,hf,hcc⟩
  ·obtain⟨nx,v,w1,g1,e1,e2,e3,e4⟩:=uJ (a:=a) hnc hcop hrun he hrel
   unfold Oper.wp
   rw[e1]
   rcases e2 with rfl|⟨rfl,rfl⟩
   ·exact hK v w1 g1 hd hdn e3 e4
   ·exact hK Go.undef w1 g1 hd hdn e3 e4
  ·rw[hcall]at hcop
   obtain⟨vs,q1,q2⟩:=pv hcop he hf
   unfold Oper.wp
   have ro:∀x,aF x=false→d=(aw false x st).1→st'=st→(Hj P k∧Calls P k vs w (ei B w g st x))→o.upon P a K Q ((execOp a.eval o).run P w):=by
    intro x hx hdx hst ⟨hE,hC⟩
    rw[q2 hE,Oper.upon_enter]
    refine hC.mono (fun e w1 hR=>?_)
    obtain⟨v,rfl,_,hmv⟩:=hR
    obtain⟨g1,k1,k2⟩:=hmv false
    rw[(sN hx st).1]at k2
    rw[←hdx]at k1
    exact hK v w1 g1 hd hdn k1 (by rw[hst];exact k2)
   rcases hcc with⟨_,rfl,x,q3,q4,q5⟩|⟨_,rfl,x,q3,q4,q5⟩|⟨_,x,_,_,q3,q4,q5⟩|⟨_,q5⟩|⟨p,bx,hq,rfl,q5⟩
   ·exact ro x q3 q4 rfl (q5 _ B w g vs hrel q1)
   ·exact ro x q3 q4 rfl (q5 B w g vs hrel q1)
   ·obtain⟨hE,hC⟩:=q5 st B w g vs hrel q1
    rw[q2 hE,Oper.upon_enter]
    refine hC.mono (fun e w1 hR=>?_)
    obtain⟨v,rfl,_,hmv⟩:=hR
    obtain⟨g1,k1,k2⟩:=hmv true
    rw[←q3]at k1
    rw[←q4]at k2
    exact hK v w1 g1 hd hdn k1 k2
   ·obtain⟨hE,hC⟩:=q5 B w g vs hrel q1
    rw[q2 hE,Oper.upon_enter]
    refine hC.mono (fun e w1 hR=>?_)
    obtain⟨v,g1,rfl,k1,k2⟩:=hR
    exact hK v w1 g1 hd hdn k1 k2
   ·obtain⟨hE,hC⟩:=q5 st (xW hq st) B w g vs hrel q1
    rw[q2 hE,Oper.upon_enter]
    refine hC.mono (fun e w1 hR=>?_)
    obtain⟨v,g1,rfl,k1,k2⟩:=hR
    exact hK v w1 g1 hd hdn k1 k2
/-! ### Which ones are forced ahead -/
def py (acc:List (List Nat)) (o:Oper):List (List Nat):=acc++[((o.after.toList.filter (Region.binds .any)).flatMap fun e=>e.on::acc.getD e.on []).eraseDups]
theorem yZ {ops:Array Oper} {S:Nat→Bool} (hD:BN ops S):∀(l2 l1:List Oper) (acc:List (List Nat)),(∀j:Nat,j<(l1++l2).length→(l1++l2)[j]?=ops[j]?)→acc.length=l1.length→
  (∀(j:Nat) o,l1[j]?=some o→(∀e∈o.after,Region.binds .any e=true→S e.on=true)→∀i∈acc.getD j [],S i=true)→
  ∀(j:Nat) o,(l1++l2)[j]?=some o→(∀e∈o.after,Region.binds .any e=true→S e.on=true)→∀i∈(l2.foldl py acc).getD j [],S i=true
 |[],l1,acc,hl,h1,h2,j,o,hj,ha,i,hi=>h2 j o (by simpa using hj) ha i (by simpa using hi)
 |o'::l2,l1,acc,hl,h1,h2,j,o,hj,ha,i,hi=>by
  refine yZ hD l2 (l1++[o']) (py acc o') (fun j hj=>by simpa using hl j (by simpa using hj)) (by simp[py,h1]) (fun j o hj ha i hi=>?_) j o (by simpa using hj) ha i hi
  unfold py at hi
  by_cases hlt:j<l1.length
  ·rw[List.getElem?_append_left hlt]at hj
   rw[List.getD_eq_getElem?_getD,List.getElem?_append_left (by omega),←List.getD_eq_getElem?_getD]at hi
   exact h2 j o hj ha i hi
  ·rw[List.getElem?_append_right (by omega)]at hj
   have hj0:j - l1.length=0:=by
    by_cases h:j - l1.length=0
    ·exact h
    ·rw[List.getElem?_eq_none (by simp;omega)]at hj;cases hj
   rw[hj0]at hj
   cases hj
   have hj':j=acc.length:=by omega
   rw[hj',List.getD_eq_getElem?_getD,List.getElem?_append_right (Nat.le_refl _)]at hi
   simp only[Nat.sub_self,List.getElem?_cons_zero,Option.getD_some,List.mem_eraseDups,List.mem_flatMap,List.mem_filter,List.mem_cons]at hi
   obtain⟨ed,⟨he,hb⟩,hi⟩:=hi
   have hS:=ha ed (by simpa using he) hb
   rcases hi with rfl|hi
   ·exact hS
   ·by_cases hlt2:ed.on<l1.length
    ·have hed:l1[ed.on]?=some (l1[ed.on]):=List.getElem?_eq_getElem hlt2
     refine h2 ed.on _ hed (fun e' he' hb'=>hD ed.on _ hS ?_ e' he' hb') i hi
     have:=hl ed.on (by simp;omega)
     rw[List.getElem?_append_left hlt2,hed]at this
     exact this.symm
    ·rw[List.getD_eq_getElem?_getD,List.getElem?_eq_none (by omega)]at hi
     simp at hi
theorem kw {ops:Array Oper} {S:Nat→Bool} (hD:BN ops S) (j:Nat) (o:Oper) (hj:ops[j]?=some o) (ha:∀e∈o.after,Region.binds .any e=true→S e.on=true):∀i∈(kY ops.toList).getD j [],S i=true:=
 yZ hD ops.toList [] [] (fun j _=>by simp) rfl (fun j o h=>by simp at h) j o (by simpa using hj) ha
end
end Go.Ev
/-
  Regions whose allocations are all made ahead: the store without those that have not come up.
-/
namespace Go.Ev
open Go.RowKit
section
variable {P:Program} {B:Nat} {w w' w1:World} {g g' g1:Ghost} {ρ ρ':Nat→D} {st st' st1:Store} {a:Act} {d:D} {o:Oper}
def dW (K:Nat→Bool) (st:Store):Store:={st with boxes:=fun p=>if K p=true then none else st.boxes p}
theorem oH {K:Nat→Bool} {p:Nat} {x:Option Box} (h:K p=false):dW K {st with boxes:=ap st.boxes p x}={dW K st with boxes:=ap (dW K st).boxes p x}:=by
 unfold dW
 simp only
 congr 1
 funext q
 by_cases e:q=p
 ·subst e;simp[ae,h]
 ·simp[ab _ _ e]
theorem xY {K:Nat→Bool} {p:Nat} (h:K p=false):(dW K st).boxes p=st.boxes p:=by simp[dW,h]
def Fl.out (q:Fl) (K:Nat→Bool):Prop:=match q with
 | .n| .t=>True
 | .r p| .w p| .a p=>K p=false
 | .v p ps=>K p=false∧∀q∈ps,K q=false
 |_=>False
theorem Fl.out_agree {K:Nat→Bool} {q:Fl} (h:q.out K) (st:Store):q.Agree st (dW K st):=by
 cases q<;>first|exact h.elim|trivial|exact⟨rfl,rfl,rfl⟩|exact⟨xY h,rfl⟩|exact⟨xY h.1,fun q hq=>xY (h.2 q hq),rfl,rfl,rfl⟩
theorem Fl.out_eff {K:Nat→Bool} {q:Fl} (h:q.out K) (s st:Store):q.eff s (dW K st)=dW K (q.eff s st):=by
 cases q with
 |a p=>
  have:=oH (st:={st with next:=s.next}) (x:=s.boxes p) h
  exact this.symm
 |v p ps=>exact(oH h.1).symm
 |_=>first|exact h.elim|rfl|exact(oH h).symm
theorem Fact.cut {K:Nat→Bool} {o1:Op1} {q:Fl} (h:Fact P o1 ρ st d st' q) (hk:q.out K):Fact P o1 ρ (dW K st) d (dW K st') q:=by
 have:=h.move (fun _ _=>rfl) (Fl.out_agree hk st)
 rw[Fl.out_eff hk,←h.eff_]at this
 exact this
theorem Fl.out_kept {K:Nat→Bool} {q:Fl} (h:q.out K) (s st:Store):((q.eff s st).next=st.next∨(∃p,q=.a p)∧(q.eff s st).next=s.next)∧(q.eff s st).lim=st.lim∧∀p,K p=true→(q.eff s st).boxes p=st.boxes p:=by
 cases q with
 |n=>exact⟨.inl rfl,rfl,fun _ _=>rfl⟩
 |t=>exact⟨.inl rfl,rfl,fun _ _=>rfl⟩
 |r p=>exact⟨.inl rfl,rfl,fun _ _=>rfl⟩
 |w p=>
  refine⟨.inl rfl,rfl,fun p' hp=>ab _ _ ?_⟩
  rintro rfl
  rw[show K p'=false from h]at hp;cases hp
 |c=>exact h.elim
 |a p=>
  refine⟨.inr ⟨⟨p,rfl⟩,rfl⟩,rfl,fun p' hp=>ab _ _ ?_⟩
  rintro rfl
  rw[show K p'=false from h]at hp;cases hp
 |v p ps=>
  refine⟨.inl rfl,rfl,fun p' hp=>ab _ _ ?_⟩
  rintro rfl
  rw[show K p'=false from h.1]at hp;cases hp
 |f=>exact h.elim
theorem Step.nameAt (h:Rel B w g st) (ob:Obj) {x:Box} {l0:Nat} (hx:BoxR (w.alloc ob) g w.heap.size x) (hι:g.ι l0=none) (hl0:l0<st.next) {st0:Store} {w0:World} {g0:Ghost} (h0:Rel B w0 g0 st0) (hs:Step B w0 g0 st0 w g st) (hn:st0.next≤l0) (hlim:st0.lim≤l0):
  Step B w0 g0 st0 (w.alloc ob) {g with ι:=ap g.ι l0 (some w.heap.size)} {st with boxes:=ap st.boxes l0 (some x)}:=by
 have h1:=Step.below_ h (fu w ob)
 have hh:=h1.rel
 have hext:Ext B (w.alloc ob) g (w.alloc ob) {g with ι:=ap g.ι l0 (some w.heap.size)}:=⟨Below.refl _ _,fun _ _ h=>h,fun _ _ _=>rfl,fun _ _=>rfl,fun l b' hl=>by
  have:l≠l0:=by rintro rfl;rw[hι]at hl;cases hl
  simpa[ab _ _ this]using hl,fun _ _ h=>h,fun _ _ h=>.inl h,fun _ _ vs _ _ _ h=>⟨vs,h,rfl⟩⟩
 have hst:=hs.trans h0 h1
 have hnn:∀l y,st.boxes l=some y→g.ι l≠some w.heap.size:=fun l y hy hl=>by have:=h.ltι l _ hl;omega
 have hτ:∀t r,st.toks t=true→g.τ t=some r→r.b≠w.heap.size:=fun t r ht hr hb=>by
  obtain⟨cs,_,h2,_⟩:=h.tok t r ht hr
  have:=(Array.getElem?_eq_some_iff.1 h2).1
  omega
 have hS:∀o,¬g.S w.heap.size o:=fun o hS=>by have:=AG h hS;omega
 refine⟨hst.ext.trans hext,⟨hh.base,hh.S,fun l y hy=>?_,fun l l' b' y y' hy hy' p q=>?_,fun t r p q=>hh.tok t r p q,fun t t' r r' p q s u v=>hh.uniq t t' r r' p q s u v,fun t r l b' p q s=>?_,fun l hl=>?_,hh.newτ,fun l b' p=>?_,hh.limι,hh.limτ⟩,
  hst.lock,hst.lockτ,fun l hl=>?_,hst.eqτ,hst.lim,hst.tlim,hst.next,hst.ntok,fun l hl=>?_,hst.toks⟩
 ·by_cases e:l=l0
  ·subst e
   simp only[ae]at hy ⊢
   cases hy
   exact⟨w.heap.size,rfl,h.base,hS,hx.mono hext rfl⟩
  ·simp only[ab _ _ e]at hy ⊢
   obtain⟨b',h1,h2,h3,h4⟩:=hh.box l y hy
   exact⟨b',h1,h2,h3,h4.mono hext rfl⟩
 ·by_cases e:l=l0<;>by_cases e':l'=l0
  ·rw[e,e']
  ·subst e
   simp only[ae,ab _ _ e']at p q hy'
   cases p
   exact absurd q (hnn l' y' hy')
  ·subst e'
   simp only[ae,ab _ _ e]at p q hy
   cases q
   exact absurd p (hnn l y hy)
  ·simp only[ab _ _ e,ab _ _ e']at p q hy hy'
   exact hh.inj l l' b' y y' hy hy' p q
 ·by_cases e:l=l0
  ·subst e
   simp only[ae]at s
   cases s
   exact hτ t r p q
  ·simp only[ab _ _ e]at s
   exact hh.apart t r l b' p q s
 ·have:l≠l0:=by simp only at hl;omega
  simp only[ab _ _ this]
  exact hh.newι l hl
 ·by_cases e:l=l0
  ·subst e
   simp only[ae]at p
   cases p
   simp
  ·simp only[ab _ _ e]at p
   exact hh.ltι l b' p
 ·have:l≠l0:=by omega
  simp only[ab _ _ this]
  exact hst.eqι l hl
 ·have:l≠l0:=by omega
  simp only[ab _ _ this]
  exact hst.boxes l hl
def O.isAl:O→Bool
 | .alloc _=>true
 |_=>false
variable {x:O}
theorem DO {α:Type} {m:Option α} {f:α→Option O} (h:∀a,f a=some x→x.isAl=false):m.bind f=some x→x.isAl=false:=fun e=>by
 obtain⟨a,_,h2⟩:=Option.bind_eq_some_iff.1 e
 exact h a h2
theorem Gr {α:Type} {m:Option α} {f:α→O} (h:∀a,(f a).isAl=false):m.map f=some x→x.isAl=false:=fun e=>by
 obtain⟨a,_,h2⟩:=Option.map_eq_some_iff.1 e
 rw[←h2]
 exact h a
theorem zQ {b:Builtin} {args:List Operand} {tys:List TypeId}:kn P b args tys=some x→x.isAl=false:=by
 cases b<;>simp only[kn,mG,mD,Io,gD,Option.bind_eq_bind]<;>
  repeat' first
   |(intro h;cases h;done)
   |(intro h;cases h;rfl)
   |(apply DO;intro _)
   |(apply Gr;intro _;rfl)
   |split
def GF:Op→Bool
 | .alloc _=>true
 |_=>false
theorem xg {op:Op} (hn:GF op=false):aq P op=some x→x.isAl=false:=by
 by_cases hb:∃c b,op=.call c∧c.callee=.builtin b
 ·obtain⟨c,b,rfl,hcb⟩:=hb
  simp only[aq,hcb]
  exact zQ
 cases op<;>simp only[aq,Option.bind_eq_bind]<;>
  repeat' first
   |(intro h;cases h;done)
   |(intro h;cases h;rfl)
   |(apply DO;intro _)
   |(apply Gr;intro _;rfl)
   |(simp[GF]at hn;done)
   |(exact absurd ⟨_,_,rfl,by assumption⟩ hb)
   |(simp_all[GF];done)
   |split
theorem zH {z:List D} (hc:aq P o.op=some (.alloc z)):∃T,o.op=.alloc T:=by
 by_cases hv:GF o.op=false
 ·have:=xg hv hc
  simp[O.isAl]at this
 ·cases hop:o.op with
  |alloc T=>exact⟨T,rfl⟩
  |_=>rw[hop]at hv;simp[GF]at hv
end
end Go.Ev
/-
  Rows of the store, handed to a function that only reads: as what they hold.
-/
namespace Go.Ev
open Go.RowKit
theorem mQ (t:Tok):t.strip.strip=t.strip:=by cases t<;>rfl
theorem wz (d:D):d.strip1.strip1=d.strip1:=by
 cases d<;>first|rfl|simp[D.strip1,mQ]
theorem cO {d:D} (h:d.strip.freeA=true):d.strip.strip=d.strip:=by
 cases d with
 |agg cs=>simp[D.strip,wz]
 |tuple cs=>simp[D.strip,D.freeA,D.free1]at h
 |slice t sz xs=>simp[D.strip,mQ]
 |_=>rfl
theorem np (st:Store) {d:D} (h:∀l off sz n c,d≠.rs l off sz n c):seen st d=d.strip:=by
 cases d<;>first|rfl|exact absurd rfl (h _ _ _ _ _)
theorem nz {st:Store} {d:D} (h:(seen st d).freeA=true):(seen st d).strip=seen st d:=by
 by_cases hd:∃l off sz n c,d=.rs l off sz n c
 ·obtain⟨l,off,sz,n,c,rfl⟩:=hd
  unfold seen at h ⊢
  simp only at h ⊢
  split at h
  ·split at h
   ·rename_i h1
    rw[if_pos h1]
    rfl
   ·simp[D.freeA,D.free1]at h
  ·simp[D.freeA,D.free1]at h
 ·have e:=np st (fun l off sz n c h=>hd ⟨l,off,sz,n,c,h⟩)
  rw[e]at h ⊢
  exact cO h
def xM (w:World):Ghost:=⟨fun b o=>b<w.heap.size,fun _=>none,fun _=>none⟩
theorem Bq (w:World):Rel w.heap.size w (xM w) Store.empty:=
 ⟨Nat.le_refl _,fun _ _ h=>h,fun l x hx=>(by simp[Store.empty]at hx),fun l l' b x x' hx=>(by simp[Store.empty]at hx),fun t r ht=>by simp[Store.empty]at ht,fun t t' r r' ht=>by simp[Store.empty]at ht,fun t r l b ht=>by simp[Store.empty]at ht,fun _ _=>rfl,fun _ _=>rfl,fun l b h=>(by cases h),Nat.le_refl _,Nat.le_refl _⟩
section
variable {P:Program} {B:Nat} {w w1:World} {g g1:Ghost} {st:Store}
theorem VR.seen (hrel:Rel B w g st) {d:D} {v:Value} (h:VR w g d v) (hf:(seen st d).freeA=true):VR w (xM w) (seen st d) v:=by
 by_cases hd:∃l off sz n c,d=.rs l off sz n c
 ·obtain⟨l,off,sz,n,c,rfl⟩:=hd
  obtain⟨b,o,cap,vs,T,rfl,hb,hh,ho,hn,hc,hk⟩:=h.rs_inv
  unfold Ev.seen at hf ⊢
  simp only at hf ⊢
  split at hf
  ·rename_i cs hbx
   split at hf
   ·rename_i h1
    rw[if_pos h1]
    obtain⟨hle,hz,hp⟩:=h1
    obtain⟨b',hb',hB,hS,vs',T',hh',hl,hone,hvv⟩:=hrel.box l _ hbx
    rw[hb]at hb'
    cases hb'
    rw[hh]at hh'
    cases hh'
    have hp':∀c∈cs,c.plain=true:=List.all_eq_true.1 hp
    have hpd:∀c∈cs.drop off,c.plain=true:=fun c hc=>hp' c (List.mem_of_mem_drop hc)
    have hld:n*sz≤(cs.drop off).length:=by simp;omega
    obtain⟨q1,q2⟩:=lY hz hpd n hld
    have hlen:(ct sz n (cs.drop off)).length=n:=by simp[ct]
    rcases Nat.eq_zero_or_pos n with h0|h0
    ·subst h0
     exact .slice .no sz _ _ 0 cap (fun _ _=>Go.undef) hlen (by omega) trivial (fun i x h=>by simp[ct]at h) (fun i x j c h=>by simp[ct]at h) (fun i x j c h=>by simp[ct]at h)
    ·have ho0:o=off:=by
      rcases ho with h|h
      ·exact h
      ·omega
     subst ho0
     have:=VR.row (w:=w) (g:=xM w) (t:=.no) (sz:=sz) (xs:=ct sz n (cs.drop o)) (ad:=⟨b,o,none⟩) (cap:=cap) (cells:=(vs.toList.drop o).take (n*sz)) hz rfl (by omega) trivial q1 (by simp[hlen];omega) (fun k u hk=>by
      have hkl:k<n*sz:=by have:=(List.getElem?_eq_some_iff.1 hk).1;simp at this;omega
      rw[List.getElem?_take_of_lt hkl,List.getElem?_drop]at hk
      have hcell:w.cell? ⟨b,o+k,none⟩=some u:=by rw[bK hh];simpa using hk
      exact⟨(Array.getElem?_eq_some_iff.1 hh).1,hcell⟩) (fun k d u p q=>by
      rw[q2]at p
      have hkl:k<n*sz:=by have:=(List.getElem?_eq_some_iff.1 p).1;simp at this;omega
      rw[List.getElem?_take_of_lt hkl,List.getElem?_drop]at q
      rw[List.getElem?_take_of_lt hkl,List.getElem?_drop]at p
      exact(hvv (o+k) d u p (by simpa using q)).plain_ (hp' d (List.mem_of_getElem? p)) (xM w) hrel.S)
     rw[hlen]at this
     exact this
   ·simp[D.freeA,D.free1]at hf
  ·simp[D.freeA,D.free1]at hf
 ·have e:=np st (fun l off sz n c h=>hd ⟨l,off,sz,n,c,h⟩)
  rw[e]at hf ⊢
  rw[←cO hf]
  refine iX d.strip v h.strip ?_ (xM w) hrel.S
  generalize d.strip=x at hf
  cases x<;>exact hf
theorem VRs.seen (hrel:Rel B w g st) {ds:List D} {vs:List Value} (h:VRs w g ds vs) (hf:∀d∈ds.map (Ev.seen st),d.freeA=true):VRs w (xM w) (ds.map (Ev.seen st)) vs:=
 ⟨by simpa using h.1,fun j d v p q=>by
  have hm:=List.mem_of_getElem? p
  simp only[List.getElem?_map,Option.map_eq_some_iff]at p
  obtain⟨d0,h0,rfl⟩:=p
  exact(h.2 j d0 v h0 q).seen hrel (hf _ hm)⟩
theorem sX {sz:Nat}:∀{xs:List D},(∀d∈xs,d.cells.length=sz)→(xs.flatMap D.cells).length=xs.length*sz
 |[],h=>by simp
 |d::xs,h=>by
  rw[List.flatMap_cons,List.length_append,sX (fun x hx=>h x (List.mem_cons_of_mem _ hx)),h d List.mem_cons_self,List.length_cons]
  rw[Nat.add_mul];omega
theorem rC {sz:Nat}:∀{xs:List D},(∀d∈xs,d.cells.length=sz∧sy d.cells=d)→ct sz xs.length (xs.flatMap D.cells)=xs:=by
 intro xs
 induction xs with
 |nil=>intro _;rfl
 |cons x xs ih=>
  intro h
  have hx:=h x List.mem_cons_self
  have ih':=ih (fun d hd=>h d (List.mem_cons_of_mem _ hd))
  unfold ct at ih' ⊢
  rw[List.length_cons,List.range_succ_eq_map,List.map_cons,List.map_map]
  congr 1
  ·rw[Nat.zero_mul,List.drop_zero,List.flatMap_cons,List.take_append_of_le_length (by omega),List.take_of_length_le (by omega)]
   exact hx.2
  ·rw[←ih']
   rw[ih']
   conv=>rhs;rw[←ih']
   apply List.map_congr_left
   intro i _
   simp only[Function.comp_apply]
   congr 2
   rw[List.flatMap_cons,show (i+1)*sz=x.cells.length+i*sz by rw[hx.1,Nat.succ_mul];omega,List.drop_append,List.drop_of_length_le (by omega),List.nil_append,Nat.add_sub_cancel_left]
theorem sk {d:D} (h:(match d.cells with|[c]=>(match d with| .agg _=>false|_=>true)|_=>(match d with| .agg _=>true|_=>false))=true):sy d.cells=d:=by
 cases d with
 |agg cs=>
  simp only[D.cells]at h ⊢
  cases cs with
  |nil=>rfl
  |cons c cs=>cases cs with
   |nil=>simp at h
   |cons=>rfl
 |_=>rfl
theorem z7 (hrel:Rel B w g st) {r:D} (hr:r.apart=true) {e:Ending} (h:ei w.heap.size w (xM w) Store.empty r e w1):ei B w g st r e w1:=by
 obtain⟨v,rfl,_,hmv⟩:=h
 obtain⟨g1,k1,k2⟩:=hmv true
 have hbel:=k2.ext.below
 have hSlt:∀b o,g.S b o→b<w.heap.size:=hrel.S
 have hwh:∀b,(∀o,g.S b o)→w1.heap[b]?=w.heap[b]?:=fun b h=>k2.ext.whole b (fun o=>hrel.S b o (h o))
 have hcell:∀b o,g.S b o→w1.cell? ⟨b,o,none⟩=w.cell? ⟨b,o,none⟩:=fun b o h=>k2.ext.cell b o (hrel.S b o h)
 have hS1:∀b o,g.S b o→b<w1.heap.size:=fun b o h=>Nat.lt_of_lt_of_le (hrel.S b o h) hbel.size
 by_cases hrow:∃sz xs,r=.slice .row sz xs
 ·obtain⟨sz,xs,rfl⟩:=hrow
  simp only[D.apart,Bool.and_eq_true,decide_eq_true_eq,List.all_eq_true]at hr
  obtain⟨hz,hxs⟩:=hr
  have hab:aw true (.slice .row sz xs) Store.empty=(.rs 0 0 sz xs.length xs.length,{Store.empty with boxes:=ap Store.empty.boxes 0 (some (.row (xs.flatMap D.cells))),next:=1}):=rfl
  rw[hab]at k1 k2
  simp only at k1 k2
  obtain⟨b,hb,hB,hS,vs,T,hh,hl,hone,hvv⟩:=k2.rel.box 0 (.row (xs.flatMap D.cells)) rfl
  have hcg:∀c∈xs.flatMap D.cells,c.ground1=true:=fun c hc=>by
   obtain⟨d,hd,hcd⟩:=List.mem_flatMap.1 hc
   have:=(hxs d hd).1.2
   exact this c hcd
  have hs1:Step w.heap.size w ⟨g.S,fun _=>none,fun _=>none⟩ Store.empty w1 ⟨g.S,g1.ι,fun _=>none⟩ {Store.empty with boxes:=ap Store.empty.boxes 0 (some (.row (xs.flatMap D.cells))),next:=1}:=by
   refine⟨⟨hbel,fun _ _ h=>h,hcell,hwh,fun l b h=>(by cases h),fun t r h=>(by cases h),fun b o h=>.inl h,fun l b vs T fr h=>(by cases h)⟩,
    ⟨hbel.size,hS1,fun l x hx=>?_,k2.rel.inj,fun t r h=>(by simp[Store.empty]at h),fun t t' r r' h=>(by simp[Store.empty]at h),fun t r l b h=>(by simp[Store.empty]at h),k2.rel.newι,fun _ _=>rfl,k2.rel.ltι,Nat.zero_le _,Nat.le_refl _⟩,
    fun l b x h=>absurd h (Nat.not_lt_zero _),fun t r h=>absurd h (Nat.not_lt_zero _),fun l h=>absurd h (Nat.not_lt_zero _),fun t h=>absurd h (Nat.not_lt_zero _),rfl,rfl,Nat.zero_le _,Nat.le_refl _,fun l h=>absurd h (Nat.not_lt_zero _),fun t h=>absurd h (Nat.not_lt_zero _)⟩
   by_cases h0:l=0
   ·subst h0
    have hx':some (Box.row (xs.flatMap D.cells))=some x:=hx
    cases hx'
    refine⟨b,hb,hB,fun o h=>?_,vs,T,hh,hl,hone,fun j c u p q=>jf (hcg c (List.mem_of_getElem? p)) (hvv j c u p q) _ _⟩
    have:=hSlt b o h
    omega
   ·have hx':ap Store.empty.boxes 0 (some (Box.row (xs.flatMap D.cells))) l=some x:=hx
    rw[ab _ _ h0]at hx'
    simp[Store.empty]at hx'
  have hrs:VR w1 ⟨g.S,g1.ι,fun _=>none⟩ (.rs 0 0 sz xs.length xs.length) v:=by
   obtain⟨b2,o,cap,vs2,T2,rfl,a1,a2,a3,a4,a5,a6⟩:=k1.rs_inv
   exact .rs 0 0 sz xs.length xs.length b2 o cap vs2 T2 a1 a2 a3 a4 a5 a6
  have hrf:eR {Store.empty with boxes:=ap Store.empty.boxes 0 (some (.row (xs.flatMap D.cells))),next:=1} (.rs 0 0 sz xs.length xs.length)=some (.slice .row sz xs):=by
   have hpl:(xs.flatMap D.cells).all D.plain=true:=by
    rw[List.all_eq_true]
    intro c hc
    have:=hcg c hc
    cases c<;>simp_all[D.ground1,D.plain]
   simp only[eR,ae]
   rw[if_pos ⟨trivial,by rw[sX (fun d hd=>by have:=(hxs d hd).1.1;simpa using this)];exact Nat.le_refl _,hz,hpl⟩,rC (fun d hd=>⟨by have:=(hxs d hd).1.1;simpa using this,sk (hxs d hd).2⟩)]
  obtain⟨hb0,hsame⟩:=yU hrel (g0:=⟨g.S,fun _=>none,fun _=>none⟩) rfl hs1
  refine⟨v,rfl,hsame,fun mv=>?_⟩
  obtain⟨g',h1,h2⟩:=xU hrel (g0:=⟨g.S,fun _=>none,fun _=>none⟩) rfl hs1 hrs hrf mv
  have hab2:aw mv (.slice .row sz xs) st=ej st mv (.slice .row sz xs):=by
   simp[aw,aF,bX,fK]
  rw[hab2]
  exact⟨g',h1,hb0.trans hrel h2⟩
 ·have key:(∀mv st,aw mv r st=(r,st))∧(VR w1 g1 r v→∀g',VR w1 g' r v):=by
   unfold D.apart at hr
   split at hr
   ·exact absurd ⟨_,_,rfl⟩ hrow
   ·refine⟨fun mv st=>rfl,fun h g'=>?_⟩
    cases h with
    |slice t sz xs A len cap vals hl hc ht hs hA hv=>exact .slice _ _ _ A len cap vals hl hc trivial hs (fun i x j c h=>by simp at h) (fun i x j c h=>by simp at h)
   ·refine⟨fun mv st=>rfl,fun h g'=>?_⟩
    cases h with
    |slice t sz xs A len cap vals hl hc ht hs hA hv=>exact .slice _ _ _ A len cap vals hl hc ht hs (fun i x j c h=>by simp at h) (fun i x j c h=>by simp at h)
   ·refine⟨fun mv st=>rfl,fun h g'=>?_⟩
    cases h with
    |slice t sz xs A len cap vals hl hc ht hs hA hv=>exact .slice _ _ _ A len cap vals hl hc ht hs (fun i x j c h=>by simp at h) (fun i x j c h=>by simp at h)
   ·exact⟨fun mv st=>rI hr mv st,fun h g'=>(oG hr h w1 g').1⟩
  obtain⟨hab,hany⟩:=key
  rw[hab]at k1
  have hs0:Step w.heap.size w ⟨g.S,fun _=>none,fun _=>none⟩ Store.empty w1 ⟨g.S,fun _=>none,fun _=>none⟩ Store.empty:=by
   refine⟨⟨hbel,fun _ _ h=>h,hcell,hwh,fun l b h=>(by cases h),fun t r h=>(by cases h),fun b o h=>.inl h,fun l b vs T fr h=>(by cases h)⟩,
    ⟨hbel.size,hS1,fun l x hx=>(by simp[Store.empty]at hx),fun l l' b x x' hx=>(by simp[Store.empty]at hx),fun t r h=>(by simp[Store.empty]at h),fun t t' r r' h=>(by simp[Store.empty]at h),fun t r l b h=>(by simp[Store.empty]at h),fun _ _=>rfl,fun _ _=>rfl,fun l b h=>(by cases h),Nat.le_refl _,Nat.le_refl _⟩,
    fun l b x h=>absurd h (Nat.not_lt_zero _),fun t r h=>absurd h (Nat.not_lt_zero _),fun l h=>absurd h (Nat.not_lt_zero _),fun t h=>absurd h (Nat.not_lt_zero _),rfl,rfl,Nat.le_refl _,Nat.le_refl _,fun l h=>absurd h (Nat.not_lt_zero _),fun t h=>absurd h (Nat.not_lt_zero _)⟩
  obtain⟨hb0,hsame⟩:=yU hrel (g0:=⟨g.S,fun _=>none,fun _=>none⟩) rfl hs0
  refine⟨v,rfl,hsame,fun mv=>⟨⟨g.S,g.ι,g.τ⟩,?_,?_⟩⟩
  ·rw[hab]
   exact hany k1 _
  ·rw[hab]
   exact hb0
end
end Go.Ev
/-
  Rows handed over for good: their boxes are no more, and their cells are settled.
-/
namespace Go.Ev
open Go.RowKit
section
variable {P:Program} {B:Nat} {w w1:World} {g g1:Ghost} {st:Store}
def EG (g:Ghost) (b n:Nat):Prop:=∀o,o<n→g.S b o
theorem De (hrel:Rel B w g st) {l:Nat} (hl:st.lim≤l):∃g',Step B w g st w g' {st with boxes:=ap st.boxes l none}∧∀x b vs T fr,st.boxes l=some x→g.ι l=some b→w.heap[b]?=some (.cells vs T fr)→EG g' b vs.size:=by
 have hk:=Step.killBox hrel (l:=l) (Nat.not_lt.2 hl)
 cases hb:st.boxes l with
 |none=>exact⟨g,hk,fun x b vs T fr h=>by cases h⟩
 |some x=>
  obtain⟨b,h1,h2,h3,h4⟩:=hrel.box l x hb
  by_cases hc:∃vs T fr,w.heap[b]?=some (.cells vs T fr)
  ·obtain⟨vs,T,fr,hh⟩:=hc
   have hs:=Step.settle hk.rel (b:=b) (lo:=0) (hi:=vs.size) h2 hh (Nat.le_refl _) (fun l' y hy hι=>by
    by_cases e:l'=l
    ·subst e
     have hy:ap st.boxes l' none l'=some y:=hy
     rw[ae]at hy
     cases hy
    ·have hy:ap st.boxes l none l'=some y:=hy
     rw[ab _ _ e]at hy
     exact e (hrel.inj l' l b y x hy hb hι h1)) (fun t r p q e=>absurd e (hrel.apart t r l b p q h1))
   refine⟨_,hk.trans hrel hs,fun x' b' vs' T' fr' _ p q o ho=>?_⟩
   rw[h1]at p
   cases p
   rw[hh]at q
   cases q
   exact .inr ⟨rfl,Nat.zero_le _,ho⟩
  ·exact⟨g,hk,fun x' b' vs' T' fr' _ p q=>by
    rw[h1]at p
    cases p
    exact absurd ⟨_,_,_,q⟩ hc⟩
theorem xG:∀(ds:List D) {g:Ghost} {st:Store},Rel B w g st→fI st ds=true→∃g',Step B w g st w g' (uS ds st)∧∀l off sz n c,D.rs l off sz n c∈ds→∀x b vs T fr,st.boxes l=some x→g.ι l=some b→w.heap[b]?=some (.cells vs T fr)→EG g' b vs.size
 |[],g,st,hrel,_=>⟨g,.refl hrel,fun _ _ _ _ _ h=>by cases h⟩
 |d::r,g,st,hrel,ho=>by
  have ho':fI st [d]=true∧fI st r=true:=by
   unfold fI at ho ⊢
   rw[List.all_cons,Bool.and_eq_true]at ho
   exact⟨by rw[List.all_cons,List.all_nil,Bool.and_true];exact ho.1,ho.2⟩
  by_cases hd:∃l off sz n c,d=.rs l off sz n c
  ·obtain⟨l,off,sz,n,c,rfl⟩:=hd
   have hl:st.lim≤l:=by simpa[fI]using ho'.1
   obtain⟨g1,hs1,h1⟩:=De hrel hl
   obtain⟨g2,hs2,h2⟩:=xG r hs1.rel ho'.2
   refine⟨g2,hs1.trans hrel hs2,fun l' off' sz' n' c' hm x b vs T fr p q hh=>?_⟩
   by_cases e:l'=l
   ·subst e
    exact fun o hlt=>hs2.ext.S _ _ (h1 x b vs T fr p q hh o hlt)
   ·rcases List.mem_cons.1 hm with hm|hm
    ·cases hm;exact absurd rfl e
    ·exact h2 l' off' sz' n' c' hm x b vs T fr ((ab _ _ e).trans p) (hs1.ext.ι _ _ q) hh
  ·have e:uS (d::r) st=uS r st:=by
    cases d<;>first|rfl|exact absurd ⟨_,_,_,_,_,rfl⟩ hd
   obtain⟨g2,hs2,h2⟩:=xG r hrel ho'.2
   refine⟨g2,by rw[e];exact hs2,fun l' off' sz' n' c' hm=>?_⟩
   rcases List.mem_cons.1 hm with hm|hm
   ·exact absurd ⟨_,_,_,_,_,hm.symm⟩ hd
   ·exact h2 l' off' sz' n' c' hm
theorem VR.seenG (hrel:Rel B w g st) {g':Ghost} (hS:∀b o,g.S b o→g'.S b o) {d:D} {v:Value} (h:VR w g d v) (hf:(Ev.seen st d).freeA=true) (hset:∀l off sz n c,d=.rs l off sz n c→∀x b vs T fr,st.boxes l=some x→g.ι l=some b→w.heap[b]?=some (.cells vs T fr)→EG g' b vs.size):VR w g' (Ev.seen st d) v:=by
 by_cases hd:∃l off sz n c,d=.rs l off sz n c
 ·obtain⟨l,off,sz,n,c,rfl⟩:=hd
  have hset:=hset l off sz n c rfl
  obtain⟨b,o,cap,vs,T,rfl,hb,hh,ho,hn,hc,hk⟩:=h.rs_inv
  unfold Ev.seen at hf ⊢
  simp only at hf ⊢
  split at hf
  ·rename_i cs hbx
   split at hf
   ·rename_i h1
    rw[if_pos h1]
    obtain⟨hle,hz,hp⟩:=h1
    have hall:=hset _ _ _ _ _ hbx hb hh
    obtain⟨b',hb',hB,hSS,vs',T',hh',hl,hone,hvv⟩:=hrel.box l _ hbx
    rw[hb]at hb'
    cases hb'
    rw[hh]at hh'
    cases hh'
    have hp':∀c∈cs,c.plain=true:=List.all_eq_true.1 hp
    have hpd:∀c∈cs.drop off,c.plain=true:=fun c hc=>hp' c (List.mem_of_mem_drop hc)
    have hld:n*sz≤(cs.drop off).length:=by simp;omega
    obtain⟨q1,q2⟩:=lY hz hpd n hld
    have hlen:(ct sz n (cs.drop off)).length=n:=by simp[ct]
    rcases Nat.eq_zero_or_pos n with h0|h0
    ·subst h0
     exact .slice .no sz _ _ 0 cap (fun _ _=>Go.undef) hlen (by omega) trivial (fun i x h=>by simp[ct]at h) (fun i x j c h=>by simp[ct]at h) (fun i x j c h=>by simp[ct]at h)
    ·have ho0:o=off:=by
      rcases ho with h|h
      ·exact h
      ·omega
     subst ho0
     have:=VR.row (w:=w) (g:=g') (t:=.no) (sz:=sz) (xs:=ct sz n (cs.drop o)) (ad:=⟨b,o,none⟩) (cap:=cap) (cells:=(vs.toList.drop o).take (n*sz)) hz rfl (by omega) trivial q1 (by simp[hlen];omega) (fun k u hk=>by
      have hkl:k<n*sz:=by have:=(List.getElem?_eq_some_iff.1 hk).1;simp at this;omega
      rw[List.getElem?_take_of_lt hkl,List.getElem?_drop]at hk
      have hcell:w.cell? ⟨b,o+k,none⟩=some u:=by rw[bK hh];simpa using hk
      have hlt:o+k<vs.size:=by
       have:=(List.getElem?_eq_some_iff.1 hk).1
       simpa using this
      exact⟨hall _ hlt,hcell⟩) (fun k d u p q=>by
      rw[q2]at p
      have hkl:k<n*sz:=by have:=(List.getElem?_eq_some_iff.1 p).1;simp at this;omega
      rw[List.getElem?_take_of_lt hkl,List.getElem?_drop]at q
      rw[List.getElem?_take_of_lt hkl,List.getElem?_drop]at p
      exact(hvv (o+k) d u p (by simpa using q)).plain_ (hp' d (List.mem_of_getElem? p)) g' hS)
     rw[hlen]at this
     exact this
   ·simp[D.freeA,D.free1]at hf
  ·simp[D.freeA,D.free1]at hf
 ·have e:=np st (fun l off sz n c h=>hd ⟨l,off,sz,n,c,h⟩)
  rw[e]at hf ⊢
  rw[←cO hf]
  refine iX d.strip v h.strip ?_ g' hS
  generalize d.strip=x at hf
  cases x<;>exact hf
theorem va (hrel:Rel B w g st) {ds:List D} {vs:List Value} (h:VRs w g ds vs) (hf:∀d∈ds.map (Ev.seen st),d.freeA=true) (ho:fI st ds=true):∃g',Step B w g st w g' (uS ds st)∧VRs w g' (ds.map (Ev.seen st)) vs:=by
 obtain⟨g',hs,hset⟩:=xG ds hrel ho
 refine⟨g',hs,by simpa using h.1,fun j d v p q=>?_⟩
 have hm:=List.mem_of_getElem? p
 simp only[List.getElem?_map,Option.map_eq_some_iff]at p
 obtain⟨d0,h0,rfl⟩:=p
 exact(h.2 j d0 v h0 q).seenG hrel hs.ext.S (hf _ hm) (fun l off sz n c e=>hset l off sz n c (by rw[←e];exact List.mem_of_getElem? h0))
end
end Go.Ev
/-
  A call that is told of one row, and of some boxes that it reads: all else stays as it is.
-/
namespace Go.Ev
open Go.RowKit
section
variable {P:Program} {B:Nat} {w w1:World} {g g1:Ghost} {st:Store} {l:Nat} {ps:List Nat}
def Far (g:Ghost) (st:Store) (l:Nat) (ps:List Nat) (b:Nat):Prop:=(∃q x,st.boxes q=some x∧¬(q=l∨q∈ps)∧g.ι q=some b)∨∃t r,st.toks t=true∧g.τ t=some r∧r.b=b
def D9 (g:Ghost) (st:Store) (l:Nat) (ps:List Nat):Ghost:=⟨fun b o=>g.S b o∨Far g st l ps b,g.ι,g.τ⟩
theorem Far.lt (hrel:Rel B w g st) {b:Nat} (h:Far g st l ps b):B≤b∧b<w.heap.size:=by
 rcases h with⟨q,x,h1,_,h3⟩|⟨t,r,h1,h2,rfl⟩
 ·obtain⟨b',k1,k2,_⟩:=hrel.box q x h1
  rw[h3]at k1
  cases k1
  exact⟨k2,hrel.ltι q b h3⟩
 ·obtain⟨cs,k1,k2,_⟩:=hrel.tok t r h1 h2
  exact⟨k1,(Array.getElem?_eq_some_iff.1 k2).1⟩
theorem mc (hrel:Rel B w g st):Ext B w g w (D9 g st l ps):=⟨Below.refl _ _,fun _ _ h=>.inl h,fun _ _ _=>rfl,fun _ _=>rfl,fun _ _ h=>h,fun _ _ h=>h,fun b o h=>by
 rcases h with h|h
 ·exact .inl h
 ·exact .inr (h.lt hrel).1,fun _ _ vs _ _ _ h=>⟨vs,h,rfl⟩⟩
theorem rV (h:jh st l ps=true):st.lim≤l∧l<st.next∧(∃cs,st.boxes l=some (.row cs))∧∀p∈ps,p<l∧∃cs,st.boxes p=some (.cells cs):=by
 simp only[jh,Bool.and_eq_true,decide_eq_true_eq,List.all_eq_true]at h
 obtain⟨⟨⟨h1,h2⟩,h3⟩,h4⟩:=h
 refine⟨h1,h2,?_,fun p hp=>⟨(h4 p hp).1,?_⟩⟩
 ·cases hb:st.boxes l with
  |none=>rw[hb]at h3;cases h3
  |some x=>cases x<;>first|exact⟨_,rfl⟩|(rw[hb]at h3;cases h3)
 ·have h5:=(h4 p hp).2
  cases hb:st.boxes p with
  |none=>rw[hb]at h5;cases h5
  |some x=>cases x<;>first|exact⟨_,rfl⟩|(rw[hb]at h5;cases h5)
theorem mF {q:Nat} {x:Box} (h:(jO st l ps).boxes q=some x):(q=l∨q∈ps)∧st.boxes q=some x:=by
 have h:(if q=l∨q∈ps then st.boxes q else none)=some x:=h
 split at h
 ·exact⟨by assumption,h⟩
 ·cases h
theorem ju {q:Nat} (h:q=l∨q∈ps):(jO st l ps).boxes q=st.boxes q:=if_pos h
theorem Gn (hrel:Rel B w g st) {q b:Nat} {x:Box} (hq:q=l∨q∈ps) (hx:st.boxes q=some x) (hb:g.ι q=some b):¬Far g st l ps b:=fun h=>by
 rcases h with⟨q',x',h1,h2,h3⟩|⟨t,r,h1,h2,h3⟩
 ·have:=hrel.inj q q' b x x' hx h1 hb h3
  subst this
  exact h2 hq
 ·exact hrel.apart t r q b h1 h2 hb h3
theorem Dn (hrel:Rel B w g st) (hok:jh st l ps=true):Rel B w (D9 g st l ps) (jO st l ps):=by
 obtain⟨o1,o2,o3,o4⟩:=rV hok
 have hext:=mc (l:=l) (ps:=ps) hrel
 refine⟨hrel.base,fun b o h=>?_,fun q x hx=>?_,fun q q' b x x' hx hx' p p'=>hrel.inj q q' b x x' (mF hx).2 (mF hx').2 p p',fun t r ht=>(by cases ht),fun t t' r r' ht=>(by cases ht),fun t r q b ht=>(by cases ht),hrel.newι,hrel.newτ,hrel.ltι,Nat.le_of_lt o2,Nat.le_refl _⟩
 ·rcases h with h|h
  ·exact hrel.S b o h
  ·exact(h.lt hrel).2
 ·obtain⟨hq,hx⟩:=mF hx
  obtain⟨b,h1,h2,h3,h4⟩:=hrel.box q x hx
  refine⟨b,h1,h2,fun o h=>?_,h4.mono hext rfl⟩
  rcases h with h|h
  ·exact h3 o h
  ·exact Gn hrel hq hx h1 h
theorem ig {α:Type} {p:α→Bool} {c:α}:∀{l:List α},c∈l.takeWhile p→p c=true
 |[],h=>by cases h
 |x::l,h=>by
  rw[List.takeWhile_cons]at h
  split at h
  ·rename_i hx
   rcases List.mem_cons.1 h with rfl|h
   ·exact hx
   ·exact ig h
  ·cases h
theorem Ec {f:Nat} {ds:List D} {vs:Array Value} {r:D} {C1:Store} (hrel:Rel B w g st) (hv:VRs w g ds vs.toList) (hok:jh st l ps=true) (hres:oc r l=true)
  (h:∀gC:Ghost,Rel B w gC (jO st l ps)→VRs w gC ds vs.toList→Hj P f∧Calls P f vs w (kL B w gC (jO st l ps) r C1)):Hj P f∧Calls P f vs w (kL B w g st r {st with boxes:=ap st.boxes l (gRow (C1.boxes l))}):=by
 obtain⟨o1,o2,⟨cs0,o3⟩,o4⟩:=rV hok
 have hrelC:=Dn hrel hok
 obtain⟨hE,hC⟩:=h _ hrelC (hv.mono (mc hrel))
 refine⟨hE,hC.mono fun e w' hR=>?_⟩
 obtain⟨v,g',rfl,hr,hs⟩:=hR
 simp only[oc,Bool.or_eq_true]at hres
 have hr1:=hres
 obtain⟨bl,e1,e2,e3,e4⟩:=hrel.box l _ o3
 have hι:∀q,q<st.next→g'.ι q=g.ι q:=fun q hq=>hs.eqι q hq
 have far:∀b,Far g st l ps b→w'.heap[b]?=w.heap[b]?:=fun b hb=>hs.ext.whole b (fun o=>.inr hb)
 have hcell:∀b o,g.S b o→w'.cell? ⟨b,o,none⟩=w.cell? ⟨b,o,none⟩:=fun b o h=>hs.ext.cell b o (.inl h)
 have hext:Ext B w g w' g:=⟨hs.ext.below,fun _ _ h=>h,hcell,fun b h=>hs.ext.whole b (fun o=>.inl (h o)),fun _ _ h=>h,fun _ _ h=>h,fun _ _ h=>.inl h,fun q b vs T fr p q'=>hs.ext.keep q b vs T fr p q'⟩
 have other:∀q b x,q≠l→st.boxes q=some x→g.ι q=some b→w'.heap[b]?=w.heap[b]?:=fun q b x hq hx hb=>by
  by_cases hqp:q∈ps
  ·exact hs.lock q b x (o4 q hqp).1 ((ju (.inr hqp)).trans hx) hb
  ·exact far b (.inl ⟨q,x,hx,fun h=>h.elim hq hqp,hb⟩)
 refine⟨v,g,rfl,?_,⟨hext,⟨Nat.le_trans hrel.base hs.ext.below.size,fun b o h=>Nat.lt_of_lt_of_le (hrel.S b o h) hs.ext.below.size,fun q x hx=>?_,fun q q' b x x' hx hx' p p'=>?_,fun t r' p q=>?_,hrel.uniq,hrel.apart,hrel.newι,hrel.newτ,fun q b p=>Nat.lt_of_lt_of_le (hrel.ltι q b p) hs.ext.below.size,hrel.limι,hrel.limτ⟩,fun q b x hq hx hb=>?_,fun t r' ht h1 h2=>far _ (.inr ⟨t,r',h1,h2,rfl⟩),fun _ _=>rfl,fun _ _=>rfl,rfl,rfl,Nat.le_refl _,Nat.le_refl _,fun q hq=>?_,fun _ _=>rfl⟩⟩
 ·rcases hr1 with hr1|hr1
  ·exact(oG hr1 hr w' g).1
  ·cases r with
   |rs q off sz n c=>
    simp only[beq_iff_eq]at hr1
    subst hr1
    obtain⟨b,o,cap,vs',T,rfl,a1,a2,a3,a4,a5,a6⟩:=hr.rs_inv
    exact .rs q off sz n c b o cap vs' T (by rw[←hι q o2];exact a1) a2 a3 a4 a5 a6
   |_=>cases hr1
 ·by_cases e:q=l
  ·subst e
   have hx:ap st.boxes q (gRow (C1.boxes q)) q=some x:=hx
   rw[ae]at hx
   obtain⟨cs1,hb1,rfl⟩:∃cs1,C1.boxes q=some (.row cs1)∧x=.row (cs1.takeWhile D.ground1):=by
    cases hb:C1.boxes q with
    |none=>rw[hb]at hx;cases hx
    |some y=>cases y<;>first|(rw[hb]at hx;cases hx;exact⟨_,rfl,rfl⟩)|(rw[hb]at hx;cases hx)
   obtain⟨b,k1,k2,k3,vs',T,k4,k5,k6,k7⟩:=hs.rel.box q _ hb1
   rw[hι q o2,e1]at k1
   cases k1
   have hle:(cs1.takeWhile D.ground1).length≤cs1.length:=(List.takeWhile_prefix _).length_le
   refine⟨bl,e1,e2,e3,vs',T,k4,Nat.le_trans hle k5,fun c hc=>k6 c ((List.takeWhile_prefix _).subset hc),fun j c u p q=>?_⟩
   have hc:=List.mem_of_getElem? p
   have hp:cs1[j]?=some c:=by
    obtain⟨t,ht⟩:=List.takeWhile_prefix (p:=D.ground1) (l:=cs1)
    rw[←ht,List.getElem?_append_left (List.getElem?_eq_some_iff.1 p).1]
    exact p
   exact jf (ig hc) (k7 j c u hp q) _ _
  ·have hx:ap st.boxes l (gRow (C1.boxes l)) q=some x:=hx
   rw[ab _ _ e]at hx
   obtain⟨b,k1,k2,k3,k4⟩:=hrel.box q x hx
   exact⟨b,k1,k2,k3,k4.mono hext (other q b x e hx k1)⟩
 ·have live:∀q x,ap st.boxes l (gRow (C1.boxes l)) q=some x→∃y,st.boxes q=some y:=fun q x hx=>by
   by_cases e:q=l
   ·subst e;exact⟨_,o3⟩
   ·rw[ab _ _ e]at hx;exact⟨x,hx⟩
  obtain⟨y,hy⟩:=live q x hx
  obtain⟨y',hy'⟩:=live q' x' hx'
  exact hrel.inj q q' b y y' hy hy' p p'
 ·obtain⟨cs,h1,h2,h3⟩:=hrel.tok t r' p q
  exact⟨cs,h1,(far _ (.inr ⟨t,r',p,q,rfl⟩)).trans h2,h3⟩
 ·exact other q b x (by have hq:q<st.lim:=hq;omega) hx hb
 ·exact ab _ _ (by have hq:q<st.lim:=hq;omega)
theorem pM {r:D} (hf:r.free=true) {w:World} {g g':Ghost} {v:Value} (hv:VR w g r v) (hS:∀b o,g.S b o→g'.S b o):VR w g' r.strip v:=by
 by_cases ht:∃cs,r=.tuple cs
 ·obtain⟨cs,rfl⟩:=ht
  have hfa:∀d∈cs,(match (generalizing:=false) d with| .agg cs=>cs.all D.free1|d=>d.free1)=true:=List.all_eq_true.1 hf
  cases hv with
  |tuple cs vs hl hv=>
   refine .tuple _ vs (by simpa using hl) (fun j c' v' p q=>?_)
   simp only[List.getElem?_map,Option.map_eq_some_iff]at p
   obtain⟨c0,h0,rfl⟩:=p
   have:=iX c0 v' (hv j c0 v' h0 q) (hfa c0 (List.mem_of_getElem? h0)) g' hS
   have hf0:=hfa c0 (List.mem_of_getElem? h0)
   cases c0<;>first|exact this|(cases hf0;done)
 ·refine iX r v hv ?_ g' hS
  cases r<;>first|exact absurd ⟨_,rfl⟩ ht|exact hf
theorem Ap (k:Nat) {r:D} (hf:r.free=true):(wS k r).free=true∧(wS k r).strip=r.strip:=by
 have one:∀d:D,(∀vs,d≠.tuple vs)→(match (generalizing:=false) d with| .agg cs=>cs.all D.free1|d=>d.free1)=true→(match (generalizing:=false) dl k d with| .agg cs=>cs.all D.free1|d=>d.free1)=true∧(match (generalizing:=false) dl k d with| .agg cs=>D.agg (cs.map D.strip1)|d=>d.strip1)=(match (generalizing:=false) d with| .agg cs=>D.agg (cs.map D.strip1)|d=>d.strip1):=fun d hd h=>by
  have o1:∀c:D,c.free1=true→(rF k c).free1=true∧(rF k c).strip1=c.strip1:=fun c hc=>by
   cases c with
   |slice t sz xs=>cases t<;>exact⟨rfl,rfl⟩
   |_=>exact⟨hc,rfl⟩
  cases d with
  |tuple vs=>exact absurd rfl (hd vs)
  |agg cs=>cases cs with
   |nil=>exact⟨rfl,rfl⟩
   |cons c cs=>
    simp only[List.all_cons,Bool.and_eq_true]at h
    obtain⟨h1,h2⟩:=o1 c h.1
    refine⟨?_,?_⟩
    ·show ((rF k c::cs).all D.free1)=true
     rw[List.all_cons,h1,h.2];rfl
    ·show D.agg ((rF k c::cs).map D.strip1)=D.agg ((c::cs).map D.strip1)
     rw[List.map_cons,List.map_cons,h2]
  |slice t sz xs=>cases t<;>exact⟨rfl,rfl⟩
  |_=>exact⟨h,rfl⟩
 by_cases ht:∃vs,r=.tuple vs
 ·obtain⟨vs,rfl⟩:=ht
  cases vs with
  |nil=>exact⟨rfl,rfl⟩
  |cons v vs=>
   have hf':(v::vs).all (fun| .agg cs=>cs.all D.free1|d=>d.free1)=true:=hf
   rw[List.all_cons,Bool.and_eq_true]at hf'
   by_cases hv:∃us,v=.tuple us
   ·obtain⟨us,rfl⟩:=hv
    cases hf'.1
   obtain⟨h1,h2⟩:=one v (fun us e=>hv ⟨us,e⟩) (by have:=hf'.1;cases v<;>exact this)
   refine⟨?_,?_⟩
   ·show ((dl k v::vs).all (fun| .agg cs=>cs.all D.free1|d=>d.free1))=true
    rw[List.all_cons,Bool.and_eq_true]
    refine⟨?_,hf'.2⟩
    generalize dl k v=z at h1
    cases z<;>exact h1
   ·show D.tuple ((dl k v::vs).map _)=D.tuple ((v::vs).map _)
    rw[List.map_cons,List.map_cons]
    congr 2
 ·obtain⟨h1,h2⟩:=one r (fun us e=>ht ⟨us,e⟩) (by cases r<;>first|exact absurd ⟨_,rfl⟩ ht|exact hf)
  have e:wS k r=dl k r:=by cases r<;>first|exact absurd ⟨_,rfl⟩ ht|rfl
  rw[e]
  have nt:∀us,dl k r≠.tuple us:=fun us h=>by
   cases r with
   |tuple vs=>exact ht ⟨_,rfl⟩
   |agg cs=>cases cs<;>cases h
   |slice t sz xs=>cases t<;>cases h
   |_=>cases h
  generalize dl k r=z at h1 h2 nt
  constructor
  ·cases z<;>first|exact absurd rfl (nt _)|exact h1
  ·cases z<;>first|exact absurd rfl (nt _)|(cases r<;>first|exact absurd ⟨_,rfl⟩ ht|exact h2)
theorem uZ (hrel:Rel B w g st) {r:D} {e:Ending} {w':World} (h:ei B w g st r e w') (hf:r.free=true) (hrow:dS r=false):∃v g3,e=.returned v∧VR w' g3 r.strip v∧Step B w g st w' g3 st:=by
 obtain⟨v,rfl,same,hmv⟩:=h
 obtain⟨g2,k1,k2⟩:=hmv false
 by_cases hfr:aF r=true
 ·have hab:aw false r st=(wS st.ntok r,{st with toks:=ap st.toks st.ntok true,ntok:=st.ntok+1}):=by
   unfold aw
   rw[if_pos hfr]
  rw[hab]at k1 k2
  simp only at k1 k2
  obtain⟨f1,f2⟩:=Ap st.ntok hf
  have hltτ:∀t r,g.τ t=some r→t<st.ntok:=fun t r h=>by
   rcases Nat.lt_or_ge t st.ntok with h'|h'
   ·exact h'
   ·rw[hrel.newτ t h']at h;cases h
  let g3:Ghost:=⟨g2.S,g2.ι,fun t=>if t<st.ntok then g2.τ t else none⟩
  have hτ:∀t r,g3.τ t=some r→t<st.ntok∧g.τ t=some r:=fun t r h=>by
   have h:(if t<st.ntok then g2.τ t else none)=some r:=h
   split at h
   ·rename_i hlt
    exact⟨hlt,by rw[←k2.eqτ t hlt];exact h⟩
   ·cases h
  have hτ2:∀t r,g.τ t=some r→g3.τ t=some r:=fun t r h=>by
   show (if t<st.ntok then g2.τ t else none)=some r
   rw[if_pos (hltτ t r h)]
   exact k2.ext.τ t r h
  have htk:∀t,t<st.ntok→st.toks t=true→(ap st.toks st.ntok true) t=true:=fun t hlt h=>(ab _ _ (Nat.ne_of_lt hlt)).trans h
  have hext:Ext B w g w' g3:=⟨k2.ext.below,k2.ext.S,k2.ext.cell,k2.ext.whole,k2.ext.ι,hτ2,k2.ext.new,k2.ext.keep⟩
  refine⟨v,g3,rfl,by rw[←f2];exact pM f1 k1 (fun _ _ h=>h),⟨hext,⟨k2.rel.base,k2.rel.S,fun l x hx=>?_,fun l l' b x x' hx hx' p p'=>k2.rel.inj l l' b x x' hx hx' p p',fun t r' ht p=>?_,fun t t' r1 r2 h1 h2 p q e=>?_,fun t r' l b h1 p q=>?_,k2.rel.newι,fun t ht=>if_neg (by omega),k2.rel.ltι,hrel.limι,hrel.limτ⟩,k2.lock,k2.lockτ,k2.eqι,fun t ht=>?_,rfl,rfl,Nat.le_refl _,Nat.le_refl _,fun _ _=>rfl,fun _ _=>rfl⟩⟩
  ·obtain⟨b,h1,h2,h3,h4⟩:=hrel.box l x hx
   have hl:l<st.next:=by
    rcases Nat.lt_or_ge l st.next with h'|h'
    ·exact h'
    ·rw[hrel.newι l h']at h1;cases h1
   obtain⟨b',q1,q2,q3,q4⟩:=k2.rel.box l x hx
   have q1':=q1
   rw[k2.eqι l hl,h1]at q1'
   cases q1'
   exact⟨b,q1,q2,q3,h4.mono hext (same.box l b x hx h1)⟩
  ·obtain⟨hlt,hg⟩:=hτ t r' p
   exact k2.rel.tok t r' (htk t hlt ht) (k2.ext.τ t r' hg)
  ·exact hrel.uniq t t' r1 r2 h1 h2 (hτ t r1 p).2 (hτ t' r2 q).2 e
  ·obtain⟨hlt,hg⟩:=hτ t r' p
   exact k2.rel.apart t r' l b (htk t hlt h1) (k2.ext.τ t r' hg) q
  ·show (if t<st.ntok then g2.τ t else none)=g.τ t
   rw[if_pos ht]
   exact k2.eqτ t ht
 ·have hab:aw false r st=(r,st)∨∃d,aw false r st=(d,st)∧d=r:=by
   left
   have key:∀u:D,(∀sz xs,u≠.slice .row sz xs)→ej st false u=(u,st):=fun u hu=>fp st false hu
   unfold aw
   rw[if_neg hfr]
   cases r with
   |tuple vs=>
    cases vs with
    |nil=>exact key _ (fun sz xs h=>by cases h)
    |cons u vs=>
     have:=key u (fun sz xs h=>by subst h;cases hrow)
     simp only[this]
   |slice t sz xs=>exact key _ (fun sz' xs' h=>by cases h;cases hrow)
   |_=>exact key _ (fun sz xs h=>by cases h)
  have hab:aw false r st=(r,st):=hab.elim id fun⟨d,h,e⟩=>e▸h
  rw[hab]at k1 k2
  exact⟨v,g2,rfl,pM hf k1 (fun _ _ h=>h),k2⟩
theorem x8 {r:D} (h:gz r=true) {w':World} {g':Ghost} {v:Value} (hv:VR w' g' r v) (g:Ghost):VR w' g r v:=by
 simp only[gz,Bool.or_eq_true]at h
 rcases h with h|h
 ·exact(oG h hv w' g).1
 ·split at h
  ·cases hv with
   |slice t sz xs A len cap vals hl hc ht hs hA hv=>exact .slice _ _ _ A len cap vals hl hc trivial hs (fun i x j c h=>by simp at h) (fun i x j c h=>by simp at h)
  ·cases hv with
   |slice t sz xs A len cap vals hl hc ht hs hA hv=>exact .slice _ _ _ A len cap vals hl hc ht hs (fun i x j c h=>by simp at h) (fun i x j c h=>by simp at h)
  ·cases hv with
   |slice t sz xs A len cap vals hl hc ht hs hA hv=>exact .slice _ _ _ A len cap vals hl hc ht hs (fun i x j c h=>by simp at h) (fun i x j c h=>by simp at h)
  ·cases h
theorem wH (hrel:Rel B w g st):Rel B w (D9 g st l ps) (lx st l ps):=by
 have hext:=mc (l:=l) (ps:=ps) hrel
 refine⟨hrel.base,fun b o h=>?_,fun q x hx=>?_,fun q q' b x x' hx hx' p p'=>hrel.inj q q' b x x' (mF hx).2 (mF hx').2 p p',fun t r ht=>(by cases ht),fun t t' r r' ht=>(by cases ht),fun t r q b ht=>(by cases ht),hrel.newι,hrel.newτ,hrel.ltι,Nat.le_refl _,Nat.le_refl _⟩
 ·rcases h with h|h
  ·exact hrel.S b o h
  ·exact(h.lt hrel).2
 ·obtain⟨hq,hx⟩:=mF hx
  obtain⟨b,h1,h2,h3,h4⟩:=hrel.box q x hx
  refine⟨b,h1,h2,fun o h=>?_,h4.mono hext rfl⟩
  rcases h with h|h
  ·exact h3 o h
  ·exact Gn hrel hq hx h1 h
theorem Dt {f:Nat} {ds:List D} {vs:Array Value} {r:D} {C1:Store} (hrel:Rel B w g st) (hv:VRs w g ds vs.toList) (hres:gz r=true)
  (h:∀gC:Ghost,Rel B w gC (lx st l ps)→VRs w gC ds vs.toList→Hj P f∧Calls P f vs w (kL B w gC (lx st l ps) r C1)):Hj P f∧Calls P f vs w (kL B w g st r st):=by
 obtain⟨hE,hC⟩:=h _ (wH hrel) (hv.mono (mc hrel))
 refine⟨hE,hC.mono fun e w' hR=>?_⟩
 obtain⟨v,g',rfl,hr,hs⟩:=hR
 have far:∀b,Far g st l ps b→w'.heap[b]?=w.heap[b]?:=fun b hb=>hs.ext.whole b (fun o=>.inr hb)
 have hcell:∀b o,g.S b o→w'.cell? ⟨b,o,none⟩=w.cell? ⟨b,o,none⟩:=fun b o h=>hs.ext.cell b o (.inl h)
 have hext:Ext B w g w' g:=⟨hs.ext.below,fun _ _ h=>h,hcell,fun b h=>hs.ext.whole b (fun o=>.inl (h o)),fun _ _ h=>h,fun _ _ h=>h,fun _ _ h=>.inl h,fun q b vs T fr p q'=>hs.ext.keep q b vs T fr p q'⟩
 have other:∀q b x,st.boxes q=some x→g.ι q=some b→w'.heap[b]?=w.heap[b]?:=fun q b x hx hb=>by
  by_cases hqp:q=l∨q∈ps
  ·have hlt:q<st.next:=by
    rcases Nat.lt_or_ge q st.next with h'|h'
    ·exact h'
    ·rw[hrel.newι q h']at hb;cases hb
   exact hs.lock q b x hlt ((ju hqp).trans hx) hb
  ·exact far b (.inl ⟨q,x,hx,hqp,hb⟩)
 refine⟨v,g,rfl,x8 hres hr g,⟨hext,⟨Nat.le_trans hrel.base hs.ext.below.size,fun b o h=>Nat.lt_of_lt_of_le (hrel.S b o h) hs.ext.below.size,fun q x hx=>?_,hrel.inj,fun t r' p q=>?_,hrel.uniq,hrel.apart,hrel.newι,hrel.newτ,fun q b p=>Nat.lt_of_lt_of_le (hrel.ltι q b p) hs.ext.below.size,hrel.limι,hrel.limτ⟩,fun q b x hq hx hb=>other q b x hx hb,fun t r' ht h1 h2=>far _ (.inr ⟨t,r',h1,h2,rfl⟩),fun _ _=>rfl,fun _ _=>rfl,rfl,rfl,Nat.le_refl _,Nat.le_refl _,fun q hq=>rfl,fun _ _=>rfl⟩⟩
 ·obtain⟨b,k1,k2,k3,k4⟩:=hrel.box q x hx
  exact⟨b,k1,k2,k3,k4.mono hext (other q b x hx k1)⟩
 ·obtain⟨cs,h1,h2,h3⟩:=hrel.tok t r' p q
  exact⟨cs,h1,(far _ (.inr ⟨t,r',p,q,rfl⟩)).trans h2,h3⟩
theorem xZ {C1:Store} {r d:D} (h:fA st C1 r=some d):∃q off sz n c t sz' xs,r=.rs q off sz n c∧st.next≤q∧seen C1 r=d∧d=.slice t sz' xs∧xs.all (fun d=>d.cells.all D.ground1)=true:=by
 cases r with
 |rs q off sz n c=>
  simp only[fA]at h
  split at h<;>try contradiction
  rename_i hq
  split at h<;>try contradiction
  rename_i t sz' xs hs
  split at h<;>try contradiction
  rename_i hg
  cases h
  exact⟨q,off,sz,n,c,t,sz',xs,rfl,hq,hs,rfl,hg⟩
 |_=>cases h
theorem zo {f:Nat} {ds:List D} {vs:Array Value} {r d:D} {C1:Store} (hrel:Rel B w g st) (hv:VRs w g ds vs.toList) (hres:fA st C1 r=some d)
  (h:∀gC:Ghost,Rel B w gC (lx st l ps)→VRs w gC ds vs.toList→Hj P f∧Calls P f vs w (kL B w gC (lx st l ps) r C1)):Hj P f∧Calls P f vs w (kL B w g st d st):=by
 obtain⟨q,off,sz,n,c,t,sz',xs,rfl,hq,hsn,rfl,hgr⟩:=xZ hres
 obtain⟨hE,hC⟩:=h _ (wH hrel) (hv.mono (mc hrel))
 refine⟨hE,hC.mono fun e w' hR=>?_⟩
 obtain⟨v,g',rfl,hr,hs⟩:=hR
 have far:∀b,Far g st l ps b→w'.heap[b]?=w.heap[b]?:=fun b hb=>hs.ext.whole b (fun o=>.inr hb)
 have farS:∀b o,Far g st l ps b→g'.S b o:=fun b o hb=>hs.ext.S b o (.inr hb)
 have hcell:∀b o,g.S b o→w'.cell? ⟨b,o,none⟩=w.cell? ⟨b,o,none⟩:=fun b o h=>hs.ext.cell b o (.inl h)
 have other:∀q b x,st.boxes q=some x→g.ι q=some b→w'.heap[b]?=w.heap[b]?:=fun q b x hx hb=>by
  by_cases hqp:q=l∨q∈ps
  ·have hlt:q<st.next:=by
    rcases Nat.lt_or_ge q st.next with h'|h'
    ·exact h'
    ·rw[hrel.newι q h']at hb;cases hb
   exact hs.lock q b x hlt ((ju hqp).trans hx) hb
  ·exact far b (.inl ⟨q,x,hx,hqp,hb⟩)
 have hrow:∃cs,C1.boxes q=some (.row cs):=by
  simp only[seen]at hsn
  split at hsn
  ·exact⟨_,by assumption⟩
  ·cases hsn
 obtain⟨cs,hbx⟩:=hrow
 obtain⟨b,hb1,hb2,hb3,hb4⟩:=hs.rel.box q _ hbx
 have hbl:b<w'.heap.size:=hs.rel.ltι q b hb1
 have nfar:∀b',Far g st l ps b'→b'≠b:=fun b' hf e=>hb3 0 (farS b 0 (e▸hf))
 have nbox:∀q' b' x,st.boxes q'=some x→g.ι q'=some b'→b'≠b:=fun q' b' x hx hb e=>by
  by_cases hqp:q'=l∨q'∈ps
  ·have hlt:q'<st.next:=by
    rcases Nat.lt_or_ge q' st.next with h'|h'
    ·exact h'
    ·rw[hrel.newι q' h']at hb;cases hb
   have e1:=(hs.boxes q' hlt).trans ((ju hqp).trans hx)
   have e2:=hs.ext.ι q' b' hb
   have:=hs.rel.inj q' q b _ _ e1 hbx (e▸e2) hb1
   omega
  ·exact nfar b' (.inl ⟨q',x,hx,hqp,hb⟩) e
 let gX:Ghost:=⟨fun b' o=>g'.S b' o∨b'=b,g'.ι,g'.τ⟩
 have hX:VR w' gX (.slice t sz' xs) v:=by
  rw[←hsn]
  refine VR.seenG (g':=gX) hs.rel (fun b o h=>.inl h) hr (by rw[hsn];rfl) (fun l' off' sz2 n' c' e x b' vs T fr hx hb' hw=>?_)
  cases e
  rw[hb1]at hb'
  cases hb'
  exact fun o _=>.inr rfl
 let g3:Ghost:=⟨fun b' o=>g.S b' o∨b'=b,g.ι,g.τ⟩
 have ht:t=.no:=by
  simp only[seen]at hsn
  split at hsn
  ·split at hsn
   ·cases hsn;rfl
   ·cases hsn
  ·cases hsn
 subst ht
 have h3:VR w' g3 (.slice .no sz' xs) v:=by
  have hr':=hr
  cases hr' with
  |rs _ _ _ _ _ b0 o cap vs T k1 k2 k3 k4 k5 k6=>
  rw[hb1]at k1
  cases k1
  cases hX with
  |slice _ _ _ _ _ _ vals hl hc ht' hs' hA hv'=>
  refine .slice _ _ _ _ _ _ vals hl hc trivial hs' (fun i x j c p1 p2=>?_) (fun i x j c p1 p2=>?_)
  ·obtain⟨ad,e1,e2,e3,e4⟩:=hA i x j c p1 p2
   cases e1
   exact⟨_,rfl,.inr rfl,e3,e4⟩
  ·exact jf (List.all_eq_true.1 (List.all_eq_true.1 hgr x (List.mem_of_getElem? p1)) c (List.mem_of_getElem? p2)) (hv' i x j c p1 p2) w' g3
 have hext:Ext B w g w' g3:=⟨hs.ext.below,fun _ _ h=>.inl h,hcell,fun b h=>hs.ext.whole b (fun o=>.inl (h o)),fun _ _ h=>h,fun _ _ h=>h,fun b' o h=>h.elim .inl (fun e=>.inr (e▸hb2)),fun q b vs T fr p q'=>hs.ext.keep q b vs T fr p q'⟩
 refine⟨v,g3,rfl,h3,⟨hext,⟨Nat.le_trans hrel.base hs.ext.below.size,fun b' o h=>?_,fun q x hx=>?_,hrel.inj,fun t r' p q=>?_,hrel.uniq,hrel.apart,hrel.newι,hrel.newτ,fun q b p=>Nat.lt_of_lt_of_le (hrel.ltι q b p) hs.ext.below.size,hrel.limι,hrel.limτ⟩,fun q b x hq hx hb=>other q b x hx hb,fun t r' ht h1 h2=>far _ (.inr ⟨t,r',h1,h2,rfl⟩),fun _ _=>rfl,fun _ _=>rfl,rfl,rfl,Nat.le_refl _,Nat.le_refl _,fun q hq=>rfl,fun _ _=>rfl⟩⟩
 ·rcases h with h|rfl
  ·exact Nat.lt_of_lt_of_le (hrel.S b' o h) hs.ext.below.size
  ·exact hbl
 ·obtain⟨b',k1,k2,k3,k4⟩:=hrel.box q x hx
  exact⟨b',k1,k2,fun o h=>h.elim (k3 o) (nbox q b' x hx k1),k4.mono hext (other q b' x hx k1)⟩
 ·obtain⟨cs,h0,h1,h2,h3,h4⟩:=hrel.tok t r' p q
  have hfar:Far g st l ps r'.b:=.inr ⟨t,r',p,q,rfl⟩
  exact⟨cs,h0,(far _ hfar).trans h1,h2,h3,fun o ho h=>h.elim (h4 o ho) (nfar _ hfar)⟩
end
end Go.Ev
