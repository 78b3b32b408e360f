/-
  A part of the evaluator.
-/
import Derived.Test.YtjcilbnbciclpaaEvEvS
set_option linter.unusedVariables false
set_option linter.unusedSimpArgs false
set_option linter.unnecessarySimpa false
namespace Go.Ev
open Go.RowKit
theorem l8 (P:Program) (op:BinOp) (t:TypeId) (x y:Operand) (k:IntKind) (a:Int) (v:Value) (w:World):(eqGuard op t x y (.int k a) v).run P w=.ok () w:=by
 unfold eqGuard
 split<;>simp
theorem gD (P:Program) (op:BinOp) (t:TypeId) (x y:Operand) (a:Bool) (v:Value) (w:World):(eqGuard op t x y (.bool a) v).run P w=.ok () w:=by
 unfold eqGuard
 split<;>simp
theorem cJ (P:Program) (op:BinOp) (t:TypeId) (x y:Operand) (a:Option Addr) (l c:Nat) (v:Value) (w:World):(eqGuard op t x y (.slice a l c) v).run P w=.ok () w:=by
 unfold eqGuard
 split<;>simp
theorem dn (P:Program) (op:BinOp) (t:TypeId) (x y:Operand) (a:Option Addr) (v:Value) (w:World):(eqGuard op t x y (.pointer a) v).run P w=.ok () w:=by
 unfold eqGuard
 split<;>simp
theorem zu (P:Program) (op:BinOp) (T:TypeId) {a b d:D} (h:fH op a b=some d) {w:World} {g:Ghost} {u v:Value} (ha:VR w g a u) (hb:VR w g b v):
  ∃r,VR w g d r∧(∃k n,u=.int k n)∧∀w',(binOp op T u v).run P w'=.ok r w':=by
 cases a<;>try (simp[fH]at h;done)
 cases b<;>try (simp[fH]at h;done)
 rename_i k x k' y
 cases ha.int_inv
 cases hb.int_inv
 cases op<;>simp only[fH]at h
 case shl=>
  by_cases hy:0≤y
  ·simp[hy]at h;subst h
   exact⟨_,.int _ _,⟨k,x,rfl⟩,fun w'=>by simp[binOp,Op.shift,show¬y<0 by omega]⟩
  ·simp[hy]at h
 case shr=>
  by_cases hy:0≤y
  ·simp[hy]at h;subst h
   exact⟨_,.int _ _,⟨k,x,rfl⟩,fun w'=>by simp[binOp,Op.shift,show¬y<0 by omega]⟩
  ·simp[hy]at h
 all_goals
  rcases Classical.em (k=k')with hk|hk
  ·subst hk
   simp at h<;>first
   |(subst h;exact⟨_,.int _ _,⟨k,x,rfl⟩,fun w'=>by simp[binOp,Op.intArith,Op.intBits,Op.intCmp]⟩)
   |(subst h;exact⟨_,.bool _,⟨k,x,rfl⟩,fun w'=>by simp[binOp,Op.intArith,Op.intBits,Op.intCmp]⟩)
   |(obtain⟨h0,rfl⟩:=h;exact⟨_,.int _ _,⟨k,x,rfl⟩,fun w'=>by simp[binOp,Op.intDiv,h0]⟩)
  ·simp[hk]at h
/-! ### Cells, loads -/
theorem bG {P:Program} {t:TypeId} {b:Bool} (h:ba P t=some b) (w:World):(isAgg t).run P w=.ok b w:=by
 unfold ba at h
 cases hu:P.underlying t with
 |none=>simp[hu]at h
 |some u=>
  unfold isAgg
  simp only[Sem.run_bind,run_underlying hu,Result.andThen_ok]
  rw[hu]at h
  cases u<;>simp_all
theorem bg {P:Program} {t:TypeId} {n:Nat} (h:dg P t=some n) (w:World):(sizeOf t).run P w=.ok n w:=by
 unfold dg at h
 cases hi:P.info? t with
 |none=>simp[hi]at h
 |some i=>simp[hi]at h;simp[sizeOf,typeInfo,hi,h]
theorem cj (ad:Addr) (hs:ad.spot=none) (k:Nat):ad.add k=⟨ad.block,ad.off+k,none⟩:=by
 unfold Addr.add
 split
 ·rename_i h;subst h;cases ad;simp_all
 ·rfl
theorem pE {P:Program} {T:TypeId} {agg:Bool} {sz:Nat} (hA:ba P T=some agg) (hz:dg P T=some sz) {w:World} {g:Ghost} (b off:Nat) (cs:List D) (vals:Nat→Value) {d:D}
  (hd:cut agg sz off cs=some d) (ho:∀c∈cs,c.one=true) (hv:∀(j:Nat) c,cs[j]?=some c→VR w g c (vals j)):
  ∃r,VR w g d r∧∀(w':World) (base:Nat),(∀j,j<cs.length→w'.cell? ⟨b,base+j,none⟩=some (vals j))→(Instr.loadAt T (.pointer (some ⟨b,base+off,none⟩))).run P w'=.ok r w':=by
 unfold cut at hd
 split at hd<;>try contradiction
 rename_i hle
 cases agg with
 |true=>
  simp at hd
  subst hd
  refine⟨.agg ((List.range sz).map fun j=>vals (off+j)).toArray,?_,fun w' base hc=>?_⟩
  ·refine .agg _ _ (by simp;omega) (fun c hc=>ho c (List.mem_of_mem_drop (List.mem_of_mem_take hc))) (fun j c v h1 h2=>?_)
   have hj:j<sz:=by
    have:=(List.getElem?_eq_some_iff.1 h1).1
    simp at this;omega
   rw[List.getElem?_take_of_lt hj,List.getElem?_drop]at h1
   simp[hj]at h2
   subst h2
   exact hv _ _ h1
  ·simp only[Instr.loadAt,Instr.sureAddr,loadVar,Sem.run_bind,Sem.run_pure,Result.andThen_ok,bG hA,if_true,bg hz]
   rw[run_loadCells w' ⟨b,base+off,none⟩ sz (fun j=>vals (off+j)) (fun j hj=>by
    rw[cj _ rfl]
    have:=hc (off+j) (by omega)
    simpa[Nat.add_assoc]using this)]
   rfl
 |false=>
  simp at hd
  obtain⟨h1,h2⟩:=hd
  subst h1
  refine⟨vals off,hv _ _ h2,fun w' base hc=>?_⟩
  simp only[Instr.loadAt,Instr.sureAddr,loadVar,Sem.run_bind,Sem.run_pure,Result.andThen_ok,bG hA]
  simp[run_load,hc off (by omega)]
end Go.Ev
