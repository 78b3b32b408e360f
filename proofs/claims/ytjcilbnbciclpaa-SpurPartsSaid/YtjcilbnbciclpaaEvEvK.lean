/-
  Regions whose allocations are all made ahead: the store without those that have not come up.
-/
import Derived.Test.YtjcilbnbciclpaaEvEvT3
set_option linter.unusedVariables false
set_option linter.unusedSimpArgs false
set_option linter.unnecessarySimpa false
namespace Go.Ev
open Go.RowKit
section
variable {P:Program} {B:Nat} {w w' w1:World} {g g' g1:Ghost} {ρ ρ':Nat→D} {st st' st1:Store} {a:Act} {d:D} {o:Oper}
def cM (K:Nat→Bool) (st:Store):Store:={st with boxes:=fun p=>if K p=true then none else st.boxes p}
theorem lb {K:Nat→Bool} {p:Nat} {x:Option Box} (h:K p=false):cM K {st with boxes:=ap st.boxes p x}={cM K st with boxes:=ap (cM K st).boxes p x}:=by
 unfold cM
 simp only
 congr 1
 funext q
 by_cases e:q=p
 ·subst e;simp[ae,h]
 ·simp[ab _ _ e]
theorem sE {K:Nat→Bool} {p:Nat} (h:K p=false):(cM K st).boxes p=st.boxes p:=by simp[cM,h]
def Fl.out (q:Fl) (K:Nat→Bool):Prop:=match q with
 | .n| .t=>True
 | .r p| .w p| .a p=>K p=false
 | .v p ps=>K p=false∧∀q∈ps,K q=false
 |_=>False
theorem Fl.out_agree {K:Nat→Bool} {q:Fl} (h:q.out K) (st:Store):q.Agree st (cM K st):=by
 cases q<;>first|exact h.elim|trivial|exact⟨rfl,rfl,rfl⟩|exact⟨sE h,rfl⟩|exact⟨sE h.1,fun q hq=>sE (h.2 q hq),rfl,rfl,rfl⟩
theorem Fl.out_eff {K:Nat→Bool} {q:Fl} (h:q.out K) (s st:Store):q.eff s (cM K st)=cM K (q.eff s st):=by
 cases q with
 |a p=>
  have:=lb (st:={st with next:=s.next}) (x:=s.boxes p) h
  exact this.symm
 |v p ps=>exact(lb h.1).symm
 |_=>first|exact h.elim|rfl|exact(lb h).symm
theorem Fact.cut {K:Nat→Bool} {o1:Op1} {q:Fl} (h:Fact P o1 ρ st d st' q) (hk:q.out K):Fact P o1 ρ (cM K st) d (cM K st') q:=by
 have:=h.move (fun _ _=>rfl) (Fl.out_agree hk st)
 rw[Fl.out_eff hk,←h.eff_]at this
 exact this
theorem Fl.out_kept {K:Nat→Bool} {q:Fl} (h:q.out K) (s st:Store):((q.eff s st).next=st.next∨(∃p,q=.a p)∧(q.eff s st).next=s.next)∧(q.eff s st).lim=st.lim∧∀p,K p=true→(q.eff s st).boxes p=st.boxes p:=by
 cases q with
 |n=>exact⟨.inl rfl,rfl,fun _ _=>rfl⟩
 |t=>exact⟨.inl rfl,rfl,fun _ _=>rfl⟩
 |r p=>exact⟨.inl rfl,rfl,fun _ _=>rfl⟩
 |w p=>
  refine⟨.inl rfl,rfl,fun p' hp=>ab _ _ ?_⟩
  rintro rfl
  rw[show K p'=false from h]at hp;cases hp
 |c=>exact h.elim
 |a p=>
  refine⟨.inr ⟨⟨p,rfl⟩,rfl⟩,rfl,fun p' hp=>ab _ _ ?_⟩
  rintro rfl
  rw[show K p'=false from h]at hp;cases hp
 |v p ps=>
  refine⟨.inl rfl,rfl,fun p' hp=>ab _ _ ?_⟩
  rintro rfl
  rw[show K p'=false from h.1]at hp;cases hp
 |f=>exact h.elim
theorem Step.nameAt (h:Rel B w g st) (ob:Obj) {x:Box} {l0:Nat} (hx:BoxR (w.alloc ob) g w.heap.size x) (hι:g.ι l0=none) (hl0:l0<st.next) {st0:Store} {w0:World} {g0:Ghost} (h0:Rel B w0 g0 st0) (hs:Step B w0 g0 st0 w g st) (hn:st0.next≤l0) (hlim:st0.lim≤l0):
  Step B w0 g0 st0 (w.alloc ob) {g with ι:=ap g.ι l0 (some w.heap.size)} {st with boxes:=ap st.boxes l0 (some x)}:=by
 have h1:=Step.below_ h (dE w ob)
 have hh:=h1.rel
 have hext:Ext B (w.alloc ob) g (w.alloc ob) {g with ι:=ap g.ι l0 (some w.heap.size)}:=⟨Below.refl _ _,fun _ _ h=>h,fun _ _ _=>rfl,fun _ _=>rfl,fun l b' hl=>by
  have:l≠l0:=by rintro rfl;rw[hι]at hl;cases hl
  simpa[ab _ _ this]using hl,fun _ _ h=>h,fun _ _ h=>.inl h,fun _ _ vs _ _ _ h=>⟨vs,h,rfl⟩⟩
 have hst:=hs.trans h0 h1
 have hnn:∀l y,st.boxes l=some y→g.ι l≠some w.heap.size:=fun l y hy hl=>by have:=h.ltι l _ hl;omega
 have hτ:∀t r,st.toks t=true→g.τ t=some r→r.b≠w.heap.size:=fun t r ht hr hb=>by
  obtain⟨cs,_,h2,_⟩:=h.tok t r ht hr
  have:=(Array.getElem?_eq_some_iff.1 h2).1
  omega
 have hS:∀o,¬g.S w.heap.size o:=fun o hS=>by have:=xB h hS;omega
 refine⟨hst.ext.trans hext,⟨hh.base,hh.S,fun l y hy=>?_,fun l l' b' y y' hy hy' p q=>?_,fun t r p q=>hh.tok t r p q,fun t t' r r' p q s u v=>hh.uniq t t' r r' p q s u v,fun t r l b' p q s=>?_,fun l hl=>?_,hh.newτ,fun l b' p=>?_,hh.limι,hh.limτ⟩,
  hst.lock,hst.lockτ,fun l hl=>?_,hst.eqτ,hst.lim,hst.tlim,hst.next,hst.ntok,fun l hl=>?_,hst.toks⟩
 ·by_cases e:l=l0
  ·subst e
   simp only[ae]at hy ⊢
   cases hy
   exact⟨w.heap.size,rfl,h.base,hS,hx.mono hext rfl⟩
  ·simp only[ab _ _ e]at hy ⊢
   obtain⟨b',h1,h2,h3,h4⟩:=hh.box l y hy
   exact⟨b',h1,h2,h3,h4.mono hext rfl⟩
 ·by_cases e:l=l0<;>by_cases e':l'=l0
  ·rw[e,e']
  ·subst e
   simp only[ae,ab _ _ e']at p q hy'
   cases p
   exact absurd q (hnn l' y' hy')
  ·subst e'
   simp only[ae,ab _ _ e]at p q hy
   cases q
   exact absurd p (hnn l y hy)
  ·simp only[ab _ _ e,ab _ _ e']at p q hy hy'
   exact hh.inj l l' b' y y' hy hy' p q
 ·by_cases e:l=l0
  ·subst e
   simp only[ae]at s
   cases s
   exact hτ t r p q
  ·simp only[ab _ _ e]at s
   exact hh.apart t r l b' p q s
 ·have:l≠l0:=by simp only at hl;omega
  simp only[ab _ _ this]
  exact hh.newι l hl
 ·by_cases e:l=l0
  ·subst e
   simp only[ae]at p
   cases p
   simp
  ·simp only[ab _ _ e]at p
   exact hh.ltι l b' p
 ·have:l≠l0:=by omega
  simp only[ab _ _ this]
  exact hst.eqι l hl
 ·have:l≠l0:=by omega
  simp only[ab _ _ this]
  exact hst.boxes l hl
def O.isAl:O→Bool
 | .alloc _=>true
 |_=>false
variable {x:O}
theorem yX {α:Type} {m:Option α} {f:α→Option O} (h:∀a,f a=some x→x.isAl=false):m.bind f=some x→x.isAl=false:=fun e=>by
 obtain⟨a,_,h2⟩:=Option.bind_eq_some_iff.1 e
 exact h a h2
theorem AR {α:Type} {m:Option α} {f:α→O} (h:∀a,(f a).isAl=false):m.map f=some x→x.isAl=false:=fun e=>by
 obtain⟨a,_,h2⟩:=Option.map_eq_some_iff.1 e
 rw[←h2]
 exact h a
theorem vh {b:Builtin} {args:List Operand} {tys:List TypeId}:gQ P b args tys=some x→x.isAl=false:=by
 cases b<;>simp only[gQ,jv,jF,eo,ek,Option.bind_eq_bind]<;>
  repeat' first
   |(intro h;cases h;done)
   |(intro h;cases h;rfl)
   |(apply yX;intro _)
   |(apply AR;intro _;rfl)
   |split
def AJ:Op→Bool
 | .alloc _=>true
 |_=>false
theorem sH {op:Op} (hn:AJ op=false):ao P op=some x→x.isAl=false:=by
 by_cases hb:∃c b,op=.call c∧c.callee=.builtin b
 ·obtain⟨c,b,rfl,hcb⟩:=hb
  simp only[ao,hcb]
  exact vh
 cases op<;>simp only[ao,Option.bind_eq_bind]<;>
  repeat' first
   |(intro h;cases h;done)
   |(intro h;cases h;rfl)
   |(apply yX;intro _)
   |(apply AR;intro _;rfl)
   |(simp[AJ]at hn;done)
   |(exact absurd ⟨_,_,rfl,by assumption⟩ hb)
   |(simp_all[AJ];done)
   |split
theorem vG {z:List D} (hc:ao P o.op=some (.alloc z)):∃T,o.op=.alloc T:=by
 by_cases hv:AJ o.op=false
 ·have:=sH hv hc
  simp[O.isAl]at this
 ·cases hop:o.op with
  |alloc T=>exact⟨T,rfl⟩
  |_=>rw[hop]at hv;simp[AJ]at hv
end
end Go.Ev
