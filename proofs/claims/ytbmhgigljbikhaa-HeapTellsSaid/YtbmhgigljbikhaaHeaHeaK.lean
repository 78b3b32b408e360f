/-
  The heap's code, as the evaluator has it, is the program's: each function by the kernel.
-/
import Derived.Test.YtbmhgigljbikhaaHeaHeaX
import Derived.Test.YtbmhgigljbikhaaEvEvZ2
import Derived.Test.YtbmhgigljbikhaaRows
import Derived.ProofKit
import Derived.WalkSpells
set_option linter.unusedVariables false
set_option linter.unusedSimpArgs false
set_option linter.unnecessarySimpa false
namespace Go.Proofs.Ytbmhgigljbikhaa
open Go.ChangeShapes Go.WideShapes Go.ChangeAt Go.RowKit Go.Ev Go.Hea
theorem Try.own : ownKnob Try.prog.godebug = none := by kernel_rfl
theorem Try.laidOut : laidOutB Try.prog = true := by kernel_rfl
theorem Try.mixed : Try.prog.follows .mixedOrders = true := by kernel_rfl
theorem k_heap_New : compF Try.prog 14 c_heap_New.ro c_heap_New.mv = some c_heap_New := by kernel_rfl
theorem k_feluccaref14_New : compF Try.prog 15 c_feluccaref14_New.ro c_feluccaref14_New.mv = some c_feluccaref14_New := by kernel_rfl
theorem k_heap_Heap_Push : compF Try.prog 16 c_heap_Heap_Push.ro c_heap_Heap_Push.mv = some c_heap_Heap_Push := by kernel_rfl
theorem k_feluccaref14_Heap_Push : compF Try.prog 17 c_feluccaref14_Heap_Push.ro c_feluccaref14_Heap_Push.mv = some c_feluccaref14_Heap_Push := by kernel_rfl
theorem k_heap_Heap_Pop : compF Try.prog 18 c_heap_Heap_Pop.ro c_heap_Heap_Pop.mv = some c_heap_Heap_Pop := by kernel_rfl
theorem k_feluccaref14_Heap_Pop : compF Try.prog 19 c_feluccaref14_Heap_Pop.ro c_feluccaref14_Heap_Pop.mv = some c_feluccaref14_Heap_Pop := by kernel_rfl
theorem k_heap_Heap_Peek : compF Try.prog 20 c_heap_Heap_Peek.ro c_heap_Heap_Peek.mv = some c_heap_Heap_Peek := by kernel_rfl
theorem k_feluccaref14_Heap_Peek : compF Try.prog 21 c_feluccaref14_Heap_Peek.ro c_feluccaref14_Heap_Peek.mv = some c_feluccaref14_Heap_Peek := by kernel_rfl
theorem k_heap_Heap_Len : compF Try.prog 22 c_heap_Heap_Len.ro c_heap_Heap_Len.mv = some c_heap_Heap_Len := by kernel_rfl
theorem k_feluccaref14_Heap_Len : compF Try.prog 23 c_feluccaref14_Heap_Len.ro c_feluccaref14_Heap_Len.mv = some c_feluccaref14_Heap_Len := by kernel_rfl
theorem k_heap_Heap_ahead : compF Try.prog 44 c_heap_Heap_ahead.ro c_heap_Heap_ahead.mv = some c_heap_Heap_ahead := by kernel_rfl
theorem k_heap_Heap_swap : compF Try.prog 45 c_heap_Heap_swap.ro c_heap_Heap_swap.mv = some c_heap_Heap_swap := by kernel_rfl
theorem k_heap_Heap_down : compF Try.prog 47 c_heap_Heap_down.ro c_heap_Heap_down.mv = some c_heap_Heap_down := by kernel_rfl
theorem k_feluccaref14_Less : compF Try.prog 46 c_feluccaref14_Less.ro c_feluccaref14_Less.mv = some c_feluccaref14_Less := by kernel_rfl
theorem k_cmp_Or_int : compF Try.prog 63 c_cmp_Or_int.ro c_cmp_Or_int.mv = some c_cmp_Or_int := by kernel_rfl
theorem k_cmp_Compare_int : compF Try.prog 64 c_cmp_Compare_int.ro c_cmp_Compare_int.mv = some c_cmp_Compare_int := by kernel_rfl
theorem k_cmp_isNaN_int : compF Try.prog 72 c_cmp_isNaN_int.ro c_cmp_isNaN_int.mv = some c_cmp_isNaN_int := by kernel_rfl
theorem k_feluccalaw14_small : compF Try.prog 13 c_feluccalaw14_small.ro c_feluccalaw14_small.mv = some c_feluccalaw14_small := by kernel_rfl
theorem k_feluccalaw14_HeapTells : compF Try.prog 3 c_feluccalaw14_HeapTells.ro c_feluccalaw14_HeapTells.mv = some c_feluccalaw14_HeapTells := by kernel_rfl
theorem k_feluccalaw14_HeapRises : compF Try.prog 4 c_feluccalaw14_HeapRises.ro c_feluccalaw14_HeapRises.mv = some c_feluccalaw14_HeapRises := by kernel_rfl
theorem k_feluccalaw14_HeapPeeks : compF Try.prog 5 c_feluccalaw14_HeapPeeks.ro c_feluccalaw14_HeapPeeks.mv = some c_feluccalaw14_HeapPeeks := by kernel_rfl
theorem k_feluccalaw14_HeapOrder : compF Try.prog 6 c_feluccalaw14_HeapOrder.ro c_feluccalaw14_HeapOrder.mv = some c_feluccalaw14_HeapOrder := by kernel_rfl
theorem known : Known Try.prog Γ := by
  intro f fd h
  unfold Γ at h
  split at h
  · cases h; exact k_heap_New
  · cases h; exact k_feluccaref14_New
  · cases h; exact k_heap_Heap_Push
  · cases h; exact k_feluccaref14_Heap_Push
  · cases h; exact k_heap_Heap_Pop
  · cases h; exact k_feluccaref14_Heap_Pop
  · cases h; exact k_heap_Heap_Peek
  · cases h; exact k_feluccaref14_Heap_Peek
  · cases h; exact k_heap_Heap_Len
  · cases h; exact k_feluccaref14_Heap_Len
  · cases h; exact k_heap_Heap_ahead
  · cases h; exact k_heap_Heap_swap
  · cases h; exact k_heap_Heap_down
  · cases h; exact k_feluccaref14_Less
  · cases h; exact k_cmp_Or_int
  · cases h; exact k_cmp_Compare_int
  · cases h; exact k_cmp_isNaN_int
  · cases h; exact k_feluccalaw14_small
  · cases h; exact k_feluccalaw14_HeapTells
  · cases h; exact k_feluccalaw14_HeapRises
  · cases h; exact k_feluccalaw14_HeapPeeks
  · cases h; exact k_feluccalaw14_HeapOrder
  · cases h
/-- Those that are ready, as an argument. -/
theorem arg_rds {d : D} (h : HasArg Try.prog 20 22 d) : ∃ l : List Rd, d = .slice .no 2 (l.map Rd.e) := by
  obtain ⟨xs, rfl, hx⟩ := arg_sl (e := [.int .i64, .int .i64]) h (by kernel_rfl) (by kernel_rfl)
  obtain ⟨l, rfl, hl⟩ := choose_list (e := Rd.e) (p := fun b => True) xs (fun x hx' => by
    obtain ⟨cs, rfl, hs⟩ := hx x hx'
    obtain ⟨a, _, rfl, ha, hs⟩ := shs_int hs
    obtain ⟨b, _, rfl, hb, hs⟩ := shs_int hs
    rw [shs_nil hs]
    exact ⟨⟨a, b⟩, rfl, trivial⟩)
  exact ⟨l, rfl⟩
theorem arg_rd {d : D} (h : HasArg Try.prog 20 30 d) : ∃ r : Rd, d = r.e := by
  obtain ⟨cs, rfl, hs⟩ := arg_agg (s := [.int .i64, .int .i64]) h (by kernel_rfl) (by kernel_rfl)
  obtain ⟨a, _, rfl, ha, hs⟩ := shs_int hs
  obtain ⟨b, _, rfl, hb, hs⟩ := shs_int hs
  rw [shs_nil hs]
  exact ⟨⟨a, b⟩, rfl⟩
end Go.Proofs.Ytbmhgigljbikhaa
