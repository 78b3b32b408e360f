/-
  One operation of a region that draws its order, at any time that it may come up.
-/
import Derived.Test.YtjcilbnbciclpaaEvEvT2
set_option linter.unusedVariables false
set_option linter.unusedSimpArgs false
set_option linter.unnecessarySimpa false
namespace Go.Ev
open Go.RowKit
section
variable {P:Program} {B:Nat} {w w' w1:World} {g g' g1:Ghost} {ρ ρ':Nat→D} {st st' st1:Store} {a:Act} {d:D} {o:Oper}
def Fact (P:Program) (o1:Op1) (ρ:Nat→D) (st:Store) (d:D) (st':Store) (q:Fl):Prop:=
 (ak ρ o1.guard=some false∧d=.undef∧st'=st∧q=.n)∨
 (ak ρ o1.guard=some true∧
  (((∀f as,o1.op≠.call f as)∧o1.op.runM o1.mv ρ st=some (d,st')∧q=o1.op.acc o1.mv ρ)∨
   (∃f as k caps,o1.op=.call f as∧f.ev ρ=.func k caps∧
    ((q=.n∧st'=st∧∃x,av x=false∧d=(au false x st).1∧∀(st2:Store) (B:Nat) (w:World) (g:Ghost) (vs:Array Value),Rel B w g st2→VRs w g (as.map (·.ev ρ)++caps) vs.toList→Enters P k∧Calls P k vs w (cU B w g st2 x))∨
     (q=.c∧st'=st∧∃x,av x=false∧d=(au false x st).1∧∀(B:Nat) (w:World) (g:Ghost) (vs:Array Value),Rel B w g st→VRs w g (as.map (·.ev ρ)++caps) vs.toList→Enters P k∧Calls P k vs w (cU B w g st x))∨
     (q=.a st.next∧∃x,cS x=true∧av x=false∧d=(au true x st).1∧st'=(au true x st).2∧∀(st2:Store) (B:Nat) (w:World) (g:Ghost) (vs:Array Value),Rel B w g st2→VRs w g (as.map (·.ev ρ)++caps) vs.toList→Enters P k∧Calls P k vs w (cU B w g st2 x))∨
     (q=.f∧∀(B:Nat) (w:World) (g:Ghost) (vs:Array Value),Rel B w g st→VRs w g (as.map (·.ev ρ)++caps) vs.toList→Enters P k∧Calls P k vs w (js B w g st d st'))∨
     (∃p bx,(q=.w p∨∃ps,q=.v p ps)∧st'={st with boxes:=ap st.boxes p bx}∧∀st2:Store,q.Agree st st2→∀(B:Nat) (w:World) (g:Ghost) (vs:Array Value),Rel B w g st2→VRs w g (as.map (·.ev ρ)++caps) vs.toList→Enters P k∧Calls P k vs w (js B w g st2 d {st2 with boxes:=ap st2.boxes p bx}))))))
theorem rX {q:Fl} {p:Nat} (hq:q=.w p∨∃ps,q=.v p ps) (st:Store):q.Agree st st:=by
 rcases hq with rfl|⟨ps,rfl⟩
 ·exact⟨rfl,rfl⟩
 ·exact⟨rfl,fun _ _=>rfl,rfl,rfl,rfl⟩
theorem rA {q:Fl} {p:Nat} (hq:q=.w p∨∃ps,q=.v p ps) {s1 s2 s3:Store} (h:q.Agree s1 s2) (h2:q.Agree s2 s3):q.Agree s1 s3:=by
 rcases hq with rfl|⟨ps,rfl⟩
 ·exact⟨h2.1.trans h.1,h2.2.trans h.2⟩
 ·exact⟨h2.1.trans h.1,fun x hx=>(h2.2.1 x hx).trans (h.2.1 x hx),h2.2.2.1.trans h.2.2.1,h2.2.2.2.1.trans h.2.2.2.1,h2.2.2.2.2.trans h.2.2.2.2⟩
theorem tT {q:Fl} {p:Nat} (hq:q=.w p∨∃ps,q=.v p ps) (s st:Store) (bx:Option Box) (h:s.boxes p=bx):q.eff s st={st with boxes:=ap st.boxes p bx}:=by
 rcases hq with rfl|⟨ps,rfl⟩<;>simp only[Fl.eff,h]
theorem oK {x:D} (h:av x=false) (st:Store):(au false x st).2=st∧∀st2,(au false x st2).1=(au false x st).1:=by
 have key:∀(st:Store) (d:D),(cZ st false d).2=st∧∀st2,(cZ st2 false d).1=(cZ st false d).1:=fun st d=>by
  unfold cZ
  split<;>simp
 unfold au
 simp only[h,Bool.false_eq_true,if_false]
 cases x with
 |tuple vs=>
  cases vs with
  |nil=>exact key st _
  |cons v vs=>exact⟨(key st v).1,fun st2=>by simp only[(key st v).2 st2]⟩
 |_=>exact key st _
theorem j8 {x:D} (h:cS x=true) (hf:av x=false):∃(F:Nat→D) (cs:List D),∀st,au true x st=(F st.next,{st with boxes:=ap st.boxes st.next (some (.row cs)),next:=st.next+1}):=by
 cases x with
 |slice t sz xs=>cases t<;>first|(cases h;done)|exact⟨fun n=>.rs n 0 sz xs.length xs.length,xs.flatMap D.cells,fun st=>rfl⟩
 |tuple vs=>
  cases vs with
  |nil=>cases h
  |cons v vs=>cases v with
   |slice t sz xs=>cases t<;>first|(cases h;done)|exact⟨fun n=>.tuple (.rs n 0 sz xs.length xs.length::vs),xs.flatMap D.cells,fun st=>rfl⟩
   |_=>cases h
 |_=>cases h
theorem pH {gd:Option (Nat×Bool)} (h:∀t∈(match gd with|some (g,_)=>[g]|none=>[]),ρ t=ρ' t):ak ρ gd=ak ρ' gd:=by
 cases gd with
 |none=>rfl
 |some q=>
  obtain⟨k,want⟩:=q
  simp only[ak]
  rw[h k (by simp)]
theorem Fact.move {o1:Op1} {q:Fl} (h:Fact P o1 ρ st d st' q) (hr:∀t∈o1.rd,ρ t=ρ' t) {st2:Store} (hs:q.Agree st st2):Fact P o1 ρ' st2 d (q.eff st' st2) q:=by
 have hg:ak ρ o1.guard=ak ρ' o1.guard:=pH fun t ht=>hr t (by simp only[Op1.rd,List.mem_append];exact .inl ht)
 have ho:∀t∈o1.op.reads,ρ t=ρ' t:=fun t ht=>hr t (by simp only[Op1.rd,List.mem_append];exact .inr ht)
 rcases h with⟨h1,h2,h3,rfl⟩|⟨h1,h2⟩
 ·exact .inl ⟨hg▸h1,h2,rfl,rfl⟩
 ·refine .inr ⟨hg▸h1,?_⟩
  rcases h2 with⟨h3,h4,rfl⟩|⟨f,as,k,caps,h3,h4,h5⟩
  ·refine .inl ⟨h3,?_,vc ho⟩
   rw[←ss ho]
   exact(tO h4).2 st2 hs
  ·have hfa:(∀t∈f.reads,ρ t=ρ' t)∧∀t∈as.flatMap A.reads,ρ t=ρ' t:=by
    rw[h3]at ho
    simp only[O.reads,List.mem_append,or_imp,forall_and]at ho
    exact ho
   have e1:f.ev ρ'=.func k caps:=by rw[←bo hfa.1];exact h4
   have e2:=iZ hfa.2
   rw[e2]at h5
   refine .inr ⟨f,as,k,caps,h3,e1,?_⟩
   rcases h5 with⟨rfl,rfl,x,q1,q2,q3⟩|⟨rfl,rfl,x,q1,q2,q3⟩|⟨rfl,x,q0,q1,q2,q4,q3⟩|⟨rfl,q3⟩|⟨p,bx,hq,rfl,q3⟩
   ·exact .inl ⟨rfl,rfl,x,q1,by rw[q2];exact((oK q1 st2).2 _),q3⟩
   ·have hs:st2=st':=hs
    subst hs
    exact .inr (.inl ⟨rfl,rfl,x,q1,q2,q3⟩)
   ·have hs:st2.next=st.next:=hs
    obtain⟨F,cs,hF⟩:=j8 q0 q1
    refine .inr (.inr (.inl ⟨by rw[hs],x,q0,q1,?_,?_,q3⟩))
    ·rw[q2,hF,hF,hs]
    ·rw[q4,hF,hF,hs]
     simp only[Fl.eff,ae]
   ·have hs:st2=st:=hs
    subst hs
    exact .inr (.inr (.inr (.inl ⟨rfl,q3⟩)))
   ·exact .inr (.inr (.inr (.inr ⟨p,bx,hq,tT hq _ _ _ (ae _ _ _),fun st3 h3=>q3 st3 (rA hq hs h3)⟩)))
theorem Fact.eff_ {o1:Op1} {q:Fl} (h:Fact P o1 ρ st d st' q):st'=q.eff st' st:=by
 rcases h with⟨h1,h2,h3,rfl⟩|⟨h1,h2⟩
 ·exact h3
 ·rcases h2 with⟨h3,h4,rfl⟩|⟨f,as,k,caps,h3,h4,h5⟩
  ·exact(tO h4).1
  ·rcases h5 with⟨rfl,h,_⟩|⟨rfl,h,_⟩|⟨rfl,x,q0,q1,q2,q4,_⟩|⟨rfl,_⟩|⟨p,bx,hq,rfl,_⟩
   ·exact h
   ·exact h
   ·obtain⟨F,cs,hF⟩:=j8 q0 q1
    rw[q4,hF]
    simp only[Fl.eff,ae]
   ·rfl
   ·exact(tT hq _ _ _ (ae _ _ _)).symm
theorem Fact.exec {o1:Op1} {q:Fl} (h:Fact P o1 ρ st d st' q) {mu:List Nat} {nt:Nat} {ops:Array Oper} (hco:fI P mu nt ops o=some o1) (he:EnvR w g ρ a.tmps) (hrel:Rel B w g st) {K:Act→World→Prop} {Q:Exit→Act→World→Prop}
  (hK:∀v w1 g1,o1.dst=o.dst→o.dst.any (fun d=>decide (nt≤d))=false→VR w1 g1 d v→Step B w g st w1 g1 st'→K (a.put o.dst v) w1):
  if Region.wanted o (yielded ops a.tmps)=true then o.wp P a w K Q∨(o.asks P a w∧LetsOut Q)else K (a.put o.dst undef) w:=by
 rcases h with⟨hg,rfl,rfl,_⟩|⟨hg,hop⟩
 ·obtain⟨hw,_,hd,hdn⟩:=cz hco he hg (fun h=>by cases h)
  rw[if_neg (by simp[hw])]
  exact hK _ w g hd hdn .undef (.refl hrel)
 ·have nb:o1.op≠.bad:=by
   intro e
   rcases hop with⟨_,h,_⟩|⟨f,as,k,caps,h,_⟩
   ·rw[e]at h
    unfold O.runM at h
    split at h
    ·rename_i h1 h2;cases h2
    ·simp[O.run]at h
   ·rw[e]at h;cases h
  obtain⟨hw,hcop,hd,hdn⟩:=cz hco he hg (fun _=>nb)
  have hcop:=hcop rfl
  rw[if_pos hw]
  left
  rcases hop with⟨hnc,hrun,_⟩|⟨f,as,k,caps,hcall,hf,hcc⟩
  ·obtain⟨nx,v,w1,g1,e1,e2,e3,e4⟩:=pa (a:=a) hnc hcop hrun he hrel
   unfold Oper.wp
   rw[e1]
   rcases e2 with rfl|⟨rfl,rfl⟩
   ·exact hK v w1 g1 hd hdn e3 e4
   ·exact hK Go.undef w1 g1 hd hdn e3 e4
  ·rw[hcall]at hcop
   obtain⟨vs,q1,q2⟩:=ml hcop he hf
   unfold Oper.wp
   have ro:∀x,av x=false→d=(au false x st).1→st'=st→(Enters P k∧Calls P k vs w (cU B w g st x))→o.upon P a K Q ((execOp a.eval o).run P w):=by
    intro x hx hdx hst ⟨hE,hC⟩
    rw[q2 hE,Oper.upon_enter]
    refine hC.mono (fun e w1 hR=>?_)
    obtain⟨v,rfl,_,hmv⟩:=hR
    obtain⟨g1,k1,k2⟩:=hmv false
    rw[(oK hx st).1]at k2
    rw[←hdx]at k1
    exact hK v w1 g1 hd hdn k1 (by rw[hst];exact k2)
   rcases hcc with⟨_,rfl,x,q3,q4,q5⟩|⟨_,rfl,x,q3,q4,q5⟩|⟨_,x,_,_,q3,q4,q5⟩|⟨_,q5⟩|⟨p,bx,hq,rfl,q5⟩
   ·exact ro x q3 q4 rfl (q5 _ B w g vs hrel q1)
   ·exact ro x q3 q4 rfl (q5 B w g vs hrel q1)
   ·obtain⟨hE,hC⟩:=q5 st B w g vs hrel q1
    rw[q2 hE,Oper.upon_enter]
    refine hC.mono (fun e w1 hR=>?_)
    obtain⟨v,rfl,_,hmv⟩:=hR
    obtain⟨g1,k1,k2⟩:=hmv true
    rw[←q3]at k1
    rw[←q4]at k2
    exact hK v w1 g1 hd hdn k1 k2
   ·obtain⟨hE,hC⟩:=q5 B w g vs hrel q1
    rw[q2 hE,Oper.upon_enter]
    refine hC.mono (fun e w1 hR=>?_)
    obtain⟨v,g1,rfl,k1,k2⟩:=hR
    exact hK v w1 g1 hd hdn k1 k2
   ·obtain⟨hE,hC⟩:=q5 st (rX hq st) B w g vs hrel q1
    rw[q2 hE,Oper.upon_enter]
    refine hC.mono (fun e w1 hR=>?_)
    obtain⟨v,g1,rfl,k1,k2⟩:=hR
    exact hK v w1 g1 hd hdn k1 k2
/-! ### Which ones are forced ahead -/
def mj (acc:List (List Nat)) (o:Oper):List (List Nat):=acc++[((o.after.toList.filter (Region.binds .any)).flatMap fun e=>e.on::acc.getD e.on []).eraseDups]
theorem tQ {ops:Array Oper} {S:Nat→Bool} (hD:xa ops S):∀(l2 l1:List Oper) (acc:List (List Nat)),(∀j:Nat,j<(l1++l2).length→(l1++l2)[j]?=ops[j]?)→acc.length=l1.length→
  (∀(j:Nat) o,l1[j]?=some o→(∀e∈o.after,Region.binds .any e=true→S e.on=true)→∀i∈acc.getD j [],S i=true)→
  ∀(j:Nat) o,(l1++l2)[j]?=some o→(∀e∈o.after,Region.binds .any e=true→S e.on=true)→∀i∈(l2.foldl mj acc).getD j [],S i=true
 |[],l1,acc,hl,h1,h2,j,o,hj,ha,i,hi=>h2 j o (by simpa using hj) ha i (by simpa using hi)
 |o'::l2,l1,acc,hl,h1,h2,j,o,hj,ha,i,hi=>by
  refine tQ hD l2 (l1++[o']) (mj acc o') (fun j hj=>by simpa using hl j (by simpa using hj)) (by simp[mj,h1]) (fun j o hj ha i hi=>?_) j o (by simpa using hj) ha i hi
  unfold mj at hi
  by_cases hlt:j<l1.length
  ·rw[List.getElem?_append_left hlt]at hj
   rw[List.getD_eq_getElem?_getD,List.getElem?_append_left (by omega),←List.getD_eq_getElem?_getD]at hi
   exact h2 j o hj ha i hi
  ·rw[List.getElem?_append_right (by omega)]at hj
   have hj0:j - l1.length=0:=by
    by_cases h:j - l1.length=0
    ·exact h
    ·rw[List.getElem?_eq_none (by simp;omega)]at hj;cases hj
   rw[hj0]at hj
   cases hj
   have hj':j=acc.length:=by omega
   rw[hj',List.getD_eq_getElem?_getD,List.getElem?_append_right (Nat.le_refl _)]at hi
   simp only[Nat.sub_self,List.getElem?_cons_zero,Option.getD_some,List.mem_eraseDups,List.mem_flatMap,List.mem_filter,List.mem_cons]at hi
   obtain⟨ed,⟨he,hb⟩,hi⟩:=hi
   have hS:=ha ed (by simpa using he) hb
   rcases hi with rfl|hi
   ·exact hS
   ·by_cases hlt2:ed.on<l1.length
    ·have hed:l1[ed.on]?=some (l1[ed.on]):=List.getElem?_eq_getElem hlt2
     refine h2 ed.on _ hed (fun e' he' hb'=>hD ed.on _ hS ?_ e' he' hb') i hi
     have:=hl ed.on (by simp;omega)
     rw[List.getElem?_append_left hlt2,hed]at this
     exact this.symm
    ·rw[List.getD_eq_getElem?_getD,List.getElem?_eq_none (by omega)]at hi
     simp at hi
theorem gK {ops:Array Oper} {S:Nat→Bool} (hD:xa ops S) (j:Nat) (o:Oper) (hj:ops[j]?=some o) (ha:∀e∈o.after,Region.binds .any e=true→S e.on=true):∀i∈(iu ops.toList).getD j [],S i=true:=
 tQ hD ops.toList [] [] (fun j _=>by simp) rfl (fun j o h=>by simp at h) j o (by simpa using hj) ha
end
end Go.Ev
