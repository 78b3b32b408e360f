/-
  Regions that draw their order: any order comes to the same data, if those that clash are forced into theirs.
-/
import Derived.Test.YtjcilbnbciclpaaEvEvU
set_option linter.unusedVariables false
set_option linter.unusedSimpArgs false
set_option linter.unnecessarySimpa false
namespace Go.Ev
open Go.RowKit
section
variable {P:Program} {ops:Array Oper}
def xa (ops:Array Oper) (S:Nat→Bool):Prop:=∀i o,S i=true→ops[i]?=some o→∀e∈o.after,Region.binds .any e=true→S e.on=true
theorem vk {l:List Bool} {i:Nat} (h:l[i]?=some false):(l.set i true).count false+1=l.count false:=by
 induction l generalizing i with
 |nil=>simp at h
 |cons b l ih=>
  cases i with
  |zero=>simp at h;subst h;simp
  |succ i=>
   simp only[List.getElem?_cons_succ]at h
   have:=ih h
   simp only[List.set_cons_succ,List.count_cons]
   omega
theorem nL (I:(Nat→Bool)→Act→World→Prop) {Q:Exit→Act→World→Prop}
  (hafter:∀i o,ops[i]?=some o→∀e∈o.after,Region.binds .any e=true→e.on<i)
  (hstep:∀(S:Nat→Bool) (i:Nat) (o:Oper) (a:Act) (w:World) (K:Act→World→Prop),I S a w→xa ops S→S i=false→ops[i]?=some o→(∀e∈o.after,Region.binds .any e=true→S e.on=true)→
   (∀a' w',I (fun j=>S j||j==i) a' w'→K a' w')→wpOp P ops Q i K a w)
  (hfin:∀(S:Nat→Bool) a w,I S a w→(∀j,j<ops.size→S j=true)→(∀j,ops.size≤j→S j=false)→Q .normal a w):
  ∀(fuel:Nat) (listed:Array Bool) (a:Act) (w:World),listed.size=ops.size→listed.toList.count false=fuel→xa ops (fun j=>listed.getD j false)→I (fun j=>listed.getD j false) a w→wpAny P .any ops Q fuel listed a w:=by
 have final:∀(listed:Array Bool) (a:Act) (w:World),listed.size=ops.size→I (fun j=>listed.getD j false) a w→Region.ready .any ops listed=[]→Q .normal a w:=by
  intro listed a w hs hI hr
  refine hfin _ a w hI (fun j hj=>?_) (fun j hj=>by simp[Array.getD,show¬j<listed.size by omega])
  have key:∀j,j<ops.size→listed.getD j false=true:=by
   intro j
   induction j using Nat.strongRecOn with
   |_ j ih=>
    intro hj
    cases hb:listed.getD j false with
    |true=>rfl
    |false=>
     exfalso
     have:j∈Region.ready .any ops listed:=mem_ready.2 ⟨by
      have hlt:j<listed.size:=by omega
      simp only[Array.getD,hlt,dite_true]at hb ⊢
      exact hb,ops[j],Array.getElem?_eq_getElem hj,fun e he hbd=>by
      have hlt:=hafter j _ (Array.getElem?_eq_getElem hj) e he hbd
      exact ih e.on hlt (by omega)⟩
     rw[hr]at this
     cases this
  exact key j hj
 intro fuel
 induction fuel with
 |zero=>
  intro listed a w hs hc hd hI
  have hall:∀j,listed.getD j true=true:=fun j=>by
   by_cases hlt:j<listed.size
   ·simp only[Array.getD,hlt,dite_true]
    cases hb:listed[j]with
    |true=>simpa using hb
    |false=>
     exfalso
     have hmem:false∈listed.toList:=by
      rw[←hb]
      exact Array.getElem_mem_toList hlt
     have:=List.count_pos_iff.2 hmem
     omega
   ·simp[Array.getD,hlt]
  have hr:Region.ready .any ops listed=[]:=by
   apply List.eq_nil_iff_forall_not_mem.2
   intro j hj
   have:=(mem_ready.1 hj).1
   rw[hall]at this
   cases this
  exact⟨hr,final listed a w hs hI hr⟩
 |succ fuel ih=>
  intro listed a w hs hc hd hI
  refine⟨final listed a w hs hI,fun i hi=>?_⟩
  obtain⟨h0,o,ho,hall⟩:=mem_ready.1 hi
  have hlt:i<listed.size:=by
   have:=(Array.getElem?_eq_some_iff.1 ho).1
   omega
  have h0':listed[i]=false:=by simpa[Array.getD,hlt]using h0
  have hset:(fun j=>(listed.setIfInBounds i true).getD j false)=fun j=>listed.getD j false||j==i:=by
   funext j
   by_cases e:j=i
   ·subst e
    simp[Array.getD,hlt]
   ·by_cases hj:j<listed.size
    ·simp[Array.getD,hj,Array.getElem_setIfInBounds,Ne.symm e,e]
    ·simp[Array.getD,hj,e]
  refine hstep _ i o a w _ hI hd (by simp[Array.getD,hlt,h0']) ho hall (fun a' w' hI'=>?_)
  refine ih _ a' w' (by simpa using hs) ?_ ?_ (by rw[hset];exact hI')
  ·have:=vk (l:=listed.toList) (i:=i) (by simp[hlt,h0'])
   rw[Array.toList_setIfInBounds]
   omega
  ·rw[hset]
   intro k ok hk hok e he hbd
   simp only[Bool.or_eq_true,beq_iff_eq]at hk ⊢
   rcases hk with hk|rfl
   ·exact .inl (hd k ok hk hok e he hbd)
   ·rw[ho]at hok
    cases hok
    exact .inl (hall e he hbd)
/-! ### What an operation leaves behind -/
def Fl.eff (k:Fl) (s st:Store):Store:=match k with
 | .w p=>{st with boxes:=ap st.boxes p (s.boxes p)}
 | .t=>{st with toks:=s.toks,ntok:=s.ntok}
 | .a p=>{st with boxes:=ap st.boxes p (s.boxes p),next:=s.next}
 | .v p _=>{st with boxes:=ap st.boxes p (s.boxes p)}
 | .f=>s
 |_=>st
def Fl.Agree (k:Fl) (st st2:Store):Prop:=match k with
 | .n=>True
 | .r p| .w p=>st2.boxes p=st.boxes p∧st2.lim=st.lim
 | .t=>st2.toks=st.toks∧st2.ntok=st.ntok∧st2.tlim=st.tlim
 | .a _=>st2.next=st.next
 | .v p ps=>st2.boxes p=st.boxes p∧(∀q∈ps,st2.boxes q=st.boxes q)∧st2.lim=st.lim∧st2.next=st.next∧st2.ntok=st.ntok
 |_=>st2=st
theorem Fl.clash_symm (a b:Fl):a.clash b=b.clash a:=by
 have h:∀p q:Nat,(p==q)=(q==p):=fun p q=>by
  by_cases e:p=q
  ·rw[e]
  ·rw[beq_eq_false_iff_ne.2 e,beq_eq_false_iff_ne.2 (Ne.symm e)]
 cases a<;>cases b<;>first|rfl|exact h _ _|(simp only[Fl.clash];rw[h])
theorem mA {α:Type} (f:Nat→α) {p q:Nat} (h:p≠q) (a b:α):ap (ap f p a) q b=ap (ap f q b) p a:=by
 funext i
 by_cases h1:i=p
 ·subst h1;rw[ab _ _ h,ae,ae]
 ·by_cases h2:i=q
  ·subst h2;rw[ae,ab _ _ h1,ae]
  ·rw[ab _ _ h2,ab _ _ h1,ab _ _ h1,ab _ _ h2]
theorem Fl.eff_comm {k k':Fl} (h:k.clash k'=false) (s s' st:Store):k.eff s (k'.eff s' st)=k'.eff s' (k.eff s st):=by
 cases k<;>cases k'<;>simp only[Fl.clash]at h<;>first|contradiction|rfl|skip
 case w.v p q ps=>
  have h':p≠q:=by
   simp only[Bool.or_eq_false_iff,beq_eq_false_iff_ne]at h
   exact h.1
  simp only[Fl.eff]
  rw[mA _ h']
 case v.w p ps q=>
  have h':p≠q:=by
   simp only[Bool.or_eq_false_iff,beq_eq_false_iff_ne]at h
   exact h.1
  simp only[Fl.eff]
  rw[mA _ h']
 all_goals
  rename_i p q
  have h':p≠q:=by simpa using h
  simp only[Fl.eff]
  rw[mA _ h']
/-! ### Frames and stores over a set of operations -/
section
variable {α:Type} (ρ0:Nat→D) (dst:Nat→Option Nat) (dv:Nat→D) (st0:Store) (sv:Nat→Store) (kf:Nat→Fl)
def cP (S:Nat→Bool):Nat→(Nat→D)
 |0=>ρ0
 |n+1=>if S n then bN (cP S n) (dst n) (dv n)else cP S n
def bJ (S:Nat→Bool):Nat→Store
 |0=>st0
 |n+1=>if S n then(kf n).eff (sv n) (bJ S n)else bJ S n
theorem mr {ρ:Nat→D} {d:Option Nat} {x:D} {t:Nat} (h:d≠some t):bN ρ d x t=ρ t:=by
 cases d with
 |none=>rfl
 |some k=>exact ab _ _ (fun e=>h (by rw[e]))
theorem kU {ρ:Nat→D} {x:D} {t:Nat}:bN ρ (some t) x t=x:=ae _ _ _
theorem el {S S':Nat→Bool} {t:Nat}:∀n,(∀j,j<n→dst j=some t→S j=S' j)→cP ρ0 dst dv S n t=cP ρ0 dst dv S' n t
 |0,_=>rfl
 |n+1,h=>by
  have ih:=el n (fun j hj=>h j (by omega))
  unfold cP
  by_cases hd:dst n=some t
  ·rw[h n (by omega) hd]
   split
   ·rw[hd,kU,kU]
   ·exact ih
  ·have e:∀(b:Bool) (ρ:Nat→D),(if b=true then bN ρ (dst n) (dv n)else ρ) t=ρ t:=fun b ρ=>by
    split
    ·exact mr hd
    ·rfl
   rw[e,e]
   exact ih
theorem ub (i:Nat):∀n,i≤n→cP ρ0 dst dv (fun j=>decide (j<i)) n=cP ρ0 dst dv (fun _=>true) i:=by
 intro n
 induction n with
 |zero=>intro h;have:i=0:=by omega
        subst this;rfl
 |succ n ih=>
  intro h
  by_cases e:i=n+1
  ·subst e
   clear ih h
   have:∀m,m≤n+1→cP ρ0 dst dv (fun j=>decide (j<n+1)) m=cP ρ0 dst dv (fun _=>true) m:=by
    intro m
    induction m with
    |zero=>intro _;rfl
    |succ m ihm=>
     intro hm
     unfold cP
     rw[ihm (by omega)]
     simp[show m<n+1 by omega]
   exact this _ (Nat.le_refl _)
  ·conv=>lhs;unfold cP
   simp only[show¬n<i by omega,decide_false,Bool.false_eq_true,if_false]
   exact ih (by omega)
theorem ly {S:Nat→Bool} {t i:Nat} (hi:dst i=some t) (hS:S i=true):∀n,i<n→(∀j,i<j→j<n→S j=true→dst j≠some t)→cP ρ0 dst dv S n t=dv i
 |0,h,_=>by omega
 |n+1,h,hl=>by
  unfold cP
  by_cases e:i=n
  ·subst e
   rw[hS,if_pos rfl,hi,kU]
  ·have ih:=ly hi hS n (by omega) (fun j h1 h2=>hl j h1 (by omega))
   split
   ·rename_i hSn
    rw[mr (hl n (by omega) (by omega) hSn)]
    exact ih
   ·exact ih
theorem wT (i:Nat):∀n,i≤n→bJ st0 sv kf (fun j=>decide (j<i)) n=bJ st0 sv kf (fun _=>true) i:=by
 intro n
 induction n with
 |zero=>intro h;have:i=0:=by omega
        subst this;rfl
 |succ n ih=>
  intro h
  by_cases e:i=n+1
  ·subst e
   clear ih h
   have:∀m,m≤n+1→bJ st0 sv kf (fun j=>decide (j<n+1)) m=bJ st0 sv kf (fun _=>true) m:=by
    intro m
    induction m with
    |zero=>intro _;rfl
    |succ m ihm=>
     intro hm
     unfold bJ
     rw[ihm (by omega)]
     simp[show m<n+1 by omega]
   exact this _ (Nat.le_refl _)
  ·conv=>lhs;unfold bJ
   simp only[show¬n<i by omega,decide_false,Bool.false_eq_true,if_false]
   exact ih (by omega)
theorem kL {S S':Nat→Bool} {p:Nat}:∀n,(∀j,j<n→kf j=.w p∨kf j=.f∨kf j=.a p∨(∃ps,kf j=.v p ps)→S j=S' j)→(bJ st0 sv kf S n).boxes p=(bJ st0 sv kf S' n).boxes p
 |0,_=>rfl
 |n+1,h=>by
  have ih:=kL n (fun j hj=>h j (by omega))
  have hn:=h n (by omega)
  have key:∀(b:Bool) (X:Store),(∀q,kf n=.w q→q≠p)→kf n≠.f→(∀q,kf n=.a q→q≠p)→(∀q ps,kf n=.v q ps→q≠p)→(if b=true then(kf n).eff (sv n) X else X).boxes p=X.boxes p:=fun b X h1 h2 h3 h4=>by
   split
   ·cases hk:kf n with
    |w q=>simp only[Fl.eff];exact ab _ _ (fun e=>h1 q hk e.symm)
    |a q=>simp only[Fl.eff];exact ab _ _ (fun e=>h3 q hk e.symm)
    |v q ps=>simp only[Fl.eff];exact ab _ _ (fun e=>h4 q ps hk e.symm)
    |f=>exact absurd hk h2
    |_=>rfl
   ·rfl
  unfold bJ
  by_cases hw:kf n=.w p∨kf n=.f∨kf n=.a p∨(∃ps,kf n=.v p ps)
  ·rw[hn hw]
   split
   ·rcases hw with hw|hw|hw|⟨ps,hw⟩
    ·rw[hw];simp only[Fl.eff,ae]
    ·rw[hw];rfl
    ·rw[hw];simp only[Fl.eff,ae]
    ·rw[hw];simp only[Fl.eff,ae]
   ·exact ih
  ·have h1:∀q,kf n=.w q→q≠p:=fun q hq e=>hw (.inl (by rw[hq,e]))
   have h2:kf n≠.f:=fun e=>hw (.inr (.inl e))
   have h3:∀q,kf n=.a q→q≠p:=fun q hq e=>hw (.inr (.inr (.inl (by rw[hq,e]))))
   have h4:∀q ps,kf n=.v q ps→q≠p:=fun q ps hq e=>hw (.inr (.inr (.inr ⟨ps,by rw[hq,e]⟩)))
   rw[key _ _ h1 h2 h3 h4,key _ _ h1 h2 h3 h4]
   exact ih
theorem pp {S S':Nat→Bool}:∀n,(∀j,j<n→kf j=.t∨kf j=.f→S j=S' j)→(bJ st0 sv kf S n).toks=(bJ st0 sv kf S' n).toks∧(bJ st0 sv kf S n).ntok=(bJ st0 sv kf S' n).ntok
 |0,_=>⟨rfl,rfl⟩
 |n+1,h=>by
  have ih:=pp n (fun j hj=>h j (by omega))
  have hn:=h n (by omega)
  have key:∀(b:Bool) (X:Store),kf n≠.t→kf n≠.f→(if b=true then(kf n).eff (sv n) X else X).toks=X.toks∧(if b=true then(kf n).eff (sv n) X else X).ntok=X.ntok:=fun b X h1 h2=>by
   split
   ·cases hk:kf n with
    |t=>exact absurd hk h1
    |f=>exact absurd hk h2
    |_=>exact⟨rfl,rfl⟩
   ·exact⟨rfl,rfl⟩
  unfold bJ
  by_cases hw:kf n=.t∨kf n=.f
  ·rw[hn hw]
   split
   ·rcases hw with hw|hw<;>rw[hw]<;>exact⟨rfl,rfl⟩
   ·exact ih
  ·have h1:kf n≠.t:=fun e=>hw (.inl e)
   have h2:kf n≠.f:=fun e=>hw (.inr e)
   rw[(key _ _ h1 h2).1,(key _ _ h1 h2).1,(key _ _ h1 h2).2,(key _ _ h1 h2).2]
   exact ih
theorem kE {S S':Nat→Bool}:∀n,(∀j,j<n→kf j=.f→S j=S' j)→(bJ st0 sv kf S n).lim=(bJ st0 sv kf S' n).lim∧(bJ st0 sv kf S n).tlim=(bJ st0 sv kf S' n).tlim
 |0,_=>⟨rfl,rfl⟩
 |n+1,h=>by
  have ih:=kE n (fun j hj=>h j (by omega))
  have hn:=h n (by omega)
  have key:∀(b:Bool) (X:Store),kf n≠.f→(if b=true then(kf n).eff (sv n) X else X).lim=X.lim∧(if b=true then(kf n).eff (sv n) X else X).tlim=X.tlim:=fun b X h2=>by
   split
   ·cases hk:kf n with
    |f=>exact absurd hk h2
    |_=>exact⟨rfl,rfl⟩
   ·exact⟨rfl,rfl⟩
  unfold bJ
  by_cases hw:kf n=.f
  ·rw[hn hw]
   split
   ·rw[hw];exact⟨rfl,rfl⟩
   ·exact ih
  ·rw[(key _ _ hw).1,(key _ _ hw).1,(key _ _ hw).2,(key _ _ hw).2]
   exact ih
theorem nj {S S':Nat→Bool}:∀n,(∀j,j<n→kf j=.f∨(∃p,kf j=.a p)→S j=S' j)→(bJ st0 sv kf S n).next=(bJ st0 sv kf S' n).next
 |0,_=>rfl
 |n+1,h=>by
  have ih:=nj n (fun j hj=>h j (by omega))
  have hn:=h n (by omega)
  have key:∀(b:Bool) (X:Store),kf n≠.f→(∀p,kf n≠.a p)→(if b=true then(kf n).eff (sv n) X else X).next=X.next:=fun b X h2 h3=>by
   split
   ·cases hk:kf n with
    |f=>exact absurd hk h2
    |a p=>exact absurd hk (h3 p)
    |_=>rfl
   ·rfl
  unfold bJ
  by_cases hw:kf n=.f∨∃p,kf n=.a p
  ·rw[hn hw]
   split
   ·rcases hw with hw|⟨p,hw⟩<;>rw[hw]<;>rfl
   ·exact ih
  ·have h2:kf n≠.f:=fun e=>hw (.inl e)
   have h3:∀p,kf n≠.a p:=fun p e=>hw (.inr ⟨p,e⟩)
   rw[key _ _ h2 h3,key _ _ h2 h3]
   exact ih
theorem nM {S S':Nat→Bool} (n:Nat) (h:∀j,j<n→(∀s X,(kf j).eff s X=X)∨S j=S' j):bJ st0 sv kf S n=bJ st0 sv kf S' n:=by
 induction n with
 |zero=>rfl
 |succ n ih=>
  have ih:=ih (fun j hj=>h j (by omega))
  unfold bJ
  rcases h n (by omega)with h1|h1
  ·simp only[h1,ite_self];exact ih
  ·rw[h1,ih]
theorem oA {S S':Nat→Bool} (k:Fl) (n:Nat) (h:∀j,j<n→(kf j).clash k=true→S j=S' j):k.Agree (bJ st0 sv kf S n) (bJ st0 sv kf S' n):=by
 have full:(∀j,j<n→(∀s X,(kf j).eff s X=X)∨(kf j).clash k=true)→bJ st0 sv kf S' n=bJ st0 sv kf S n:=fun hk=>(nM st0 sv kf n (fun j hj=>by
  rcases hk j hj with h1|h1
  ·exact .inl h1
  ·exact .inr (h j hj h1))).symm
 cases k with
 |n=>trivial
 |r p=>exact⟨(kL st0 sv kf n (fun j hj hk=>h j hj (by rcases hk with hk|hk|hk|⟨_,hk⟩<;>rw[hk]<;>simp[Fl.clash]))).symm,(kE st0 sv kf n (fun j hj hk=>h j hj (by rw[hk];rfl))).1.symm⟩
 |w p=>exact⟨(kL st0 sv kf n (fun j hj hk=>h j hj (by rcases hk with hk|hk|hk|⟨_,hk⟩<;>rw[hk]<;>simp[Fl.clash]))).symm,(kE st0 sv kf n (fun j hj hk=>h j hj (by rw[hk];rfl))).1.symm⟩
 |t=>
  have h1:=pp st0 sv kf n (fun j hj hk=>h j hj (by rcases hk with hk|hk<;>rw[hk]<;>rfl))
  exact⟨h1.1.symm,h1.2.symm,(kE st0 sv kf n (fun j hj hk=>h j hj (by rw[hk];rfl))).2.symm⟩
 |a p=>exact(nj st0 sv kf n (fun j hj hk=>h j hj (by rcases hk with hk|⟨q,hk⟩<;>rw[hk]<;>rfl))).symm
 |v p ps=>
  refine⟨(kL st0 sv kf n (fun j hj hk=>h j hj (by rcases hk with hk|hk|hk|⟨_,hk⟩<;>rw[hk]<;>simp[Fl.clash]))).symm,fun q hq=>(kL st0 sv kf n (fun j hj hk=>h j hj (by
   rcases hk with hk|hk|hk|⟨_,hk⟩<;>rw[hk]<;>simp[Fl.clash]
   exact .inr hq))).symm,(kE st0 sv kf n (fun j hj hk=>h j hj (by rw[hk];rfl))).1.symm,(nj st0 sv kf n (fun j hj hk=>h j hj (by rcases hk with hk|⟨q,hk⟩<;>rw[hk]<;>rfl))).symm,(pp st0 sv kf n (fun j hj hk=>h j hj (by rcases hk with hk|hk<;>rw[hk]<;>rfl))).2.symm⟩
 |c=>exact full fun j hj=>by cases hk:kf j<;>first|exact .inl fun _ _=>rfl|exact .inr rfl
 |f=>exact full fun j hj=>by cases hk:kf j<;>first|exact .inl fun _ _=>rfl|exact .inr rfl
theorem pl {S:Nat→Bool} {i:Nat} (hi:S i=false):∀n,i<n→(∀j,i<j→j<n→S j=true→(kf i).clash (kf j)=false)→bJ st0 sv kf (fun j=>S j||j==i) n=(kf i).eff (sv i) (bJ st0 sv kf S n)
 |0,h,_=>by omega
 |n+1,h,hc=>by
  by_cases e:i=n
  ·subst e
   have:bJ st0 sv kf (fun j=>S j||j==i) i=bJ st0 sv kf S i:=by
    have:∀m,m≤i→bJ st0 sv kf (fun j=>S j||j==i) m=bJ st0 sv kf S m:=by
     intro m
     induction m with
     |zero=>intro _;rfl
     |succ m ih=>
      intro hm
      unfold bJ
      rw[ih (by omega)]
      simp[show m≠i by omega]
    exact this i (Nat.le_refl _)
   conv=>lhs;unfold bJ
   conv=>rhs;unfold bJ
   simp only[hi,beq_self_eq_true,Bool.or_true,if_true,Bool.false_eq_true,if_false]
   rw[this]
  ·have ih:=pl hi n (by omega) (fun j h1 h2=>hc j h1 (by omega))
   conv=>lhs;unfold bJ
   conv=>rhs;unfold bJ
   have hn:(n==i)=false:=by simp;omega
   simp only[hn,Bool.or_false,ih]
   cases hS:S n with
   |false=>rfl
   |true=>
    simp only[if_true]
    exact Fl.eff_comm (by rw[Fl.clash_symm];exact hc n (by omega) (by omega) hS) _ _ _
end
end
end Go.Ev
