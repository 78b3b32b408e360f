/-
  The order's code, as the evaluator has it, is the program's; arguments.
-/
import Derived.Test.YtklegmbpppegaaaOrdOrdB
import Derived.Test.YtklegmbpppegaaaEvEvP1
import Derived.Test.YtklegmbpppegaaaEvEvZ2
import Derived.Test.YtklegmbpppegaaaRows
import Derived.ProofKit
import Derived.WalkSpells
set_option linter.unusedVariables false
set_option linter.unusedSimpArgs false
set_option linter.unnecessarySimpa false
namespace Go.Proofs.Ytklegmbpppegaaa
open Go.ChangeShapes Go.WideShapes Go.ChangeAt Go.RowKit Go.Ev Go.Ord
theorem Try.own : ownKnob Try.prog.godebug = none := by kernel_rfl
theorem Try.laidOut : laidOutB Try.prog = true := by kernel_rfl
theorem Try.mixed : Try.prog.follows .mixedOrders = true := by kernel_rfl
theorem Try.clone_ntmpsR : Try.f64.ntmps = 8 := rfl
theorem Try.clone_ntmpsH : Try.f65.ntmps = 8 := rfl
set_option maxRecDepth 1000000 in
set_option maxHeartbeats 2000000 in
theorem clone_nilR (w : World) (cap : Nat) : Calls Try.prog 64 #[.slice none 0 cap] w fun e w' => e = .returned (.slice none 0 0) ∧ w' = w := by
  have q : ∀ (w : World) (a : Option Addr) (n c n2 c2 : Nat), (binOp .eql 22 (.slice a n c) (.slice none n2 c2)).run Try.prog w = .ok (.bool a.isNone) w := fun w a n c n2 c2 => Lib.run_eql_slice_nil w _ _ a n c n2 c2 Try.underlying22
  go_enter Try.func64, Try.clone_ntmpsR
  go_wp2
  go_ret
  exact ⟨rfl, rfl⟩
set_option maxRecDepth 1000000 in
set_option maxHeartbeats 2000000 in
theorem clone_nilH (w : World) (cap : Nat) : Calls Try.prog 65 #[.slice none 0 cap] w fun e w' => e = .returned (.slice none 0 0) ∧ w' = w := by
  have q : ∀ (w : World) (a : Option Addr) (n c n2 c2 : Nat), (binOp .eql 23 (.slice a n c) (.slice none n2 c2)).run Try.prog w = .ok (.bool a.isNone) w := fun w a n c n2 c2 => Lib.run_eql_slice_nil w _ _ a n c n2 c2 Try.underlying23
  go_enter Try.func65, Try.clone_ntmpsH
  go_wp2
  go_ret
  exact ⟨rfl, rfl⟩
theorem clone_knownR : PrimOK Try.prog 64 (cloneE 2 32) := clone_primE Try.mixed (by kernel_rfl) (by decide) clone_nilR
theorem clone_knownH : PrimOK Try.prog 65 (cloneF 3 24) := clone_prim Try.mixed (by kernel_rfl) (by decide) clone_nilH
theorem k_feluccalaw13_small : compF Try.prog 12 c_feluccalaw13_small.ro c_feluccalaw13_small.mv = some c_feluccalaw13_small := by kernel_rfl
theorem k_feluccalaw13_OrderInserts : compF Try.prog 6 c_feluccalaw13_OrderInserts.ro c_feluccalaw13_OrderInserts.mv = some c_feluccalaw13_OrderInserts := by kernel_rfl
theorem k_feluccalaw13_places : compF Try.prog 26 c_feluccalaw13_places.ro c_feluccalaw13_places.mv = some c_feluccalaw13_places := by kernel_rfl
theorem k_feluccalaw13_Few : compF Try.prog 13 c_feluccalaw13_Few.ro c_feluccalaw13_Few.mv = some c_feluccalaw13_Few := by kernel_rfl
theorem k_order_Sort : compF Try.prog 15 c_order_Sort.ro c_order_Sort.mv = some c_order_Sort := by kernel_rfl
theorem k_order_Insert : compF Try.prog 17 c_order_Insert.ro c_order_Insert.mv = some c_order_Insert := by kernel_rfl
theorem k_order_Same : compF Try.prog 20 c_order_Same.ro c_order_Same.mv = some c_order_Same := by kernel_rfl
theorem k_order_Compare : compF Try.prog 21 c_order_Compare.ro c_order_Compare.mv = some c_order_Compare := by kernel_rfl
theorem k_order_Less : compF Try.prog 23 c_order_Less.ro c_order_Less.mv = some c_order_Less := by kernel_rfl
theorem k_path_Same : compF Try.prog 25 c_path_Same.ro c_path_Same.mv = some c_path_Same := by kernel_rfl
theorem k_order_copied : compF Try.prog 37 c_order_copied.ro c_order_copied.mv = some c_order_copied := by kernel_rfl
theorem k_order_Sort_1 : compF Try.prog 40 c_order_Sort_1.ro c_order_Sort_1.mv = some c_order_Sort_1 := by kernel_rfl
theorem k_cmp_Or_int : compF Try.prog 43 c_cmp_Or_int.ro c_cmp_Or_int.mv = some c_cmp_Or_int := by kernel_rfl
theorem k_cmp_Compare_int : compF Try.prog 44 c_cmp_Compare_int.ro c_cmp_Compare_int.mv = some c_cmp_Compare_int := by kernel_rfl
theorem k_slices_Compare_int : compF Try.prog 45 c_slices_Compare_int.ro c_slices_Compare_int.mv = some c_slices_Compare_int := by kernel_rfl
theorem k_path_IDs : compF Try.prog 46 c_path_IDs.ro c_path_IDs.mv = some c_path_IDs := by kernel_rfl
theorem k_slices_Equal_Hop : compF Try.prog 47 c_slices_Equal_Hop.ro c_slices_Equal_Hop.mv = some c_slices_Equal_Hop := by kernel_rfl
theorem k_slices_EqualFunc_Route : compF Try.prog 42 c_slices_EqualFunc_Route.ro c_slices_EqualFunc_Route.mv = some c_slices_EqualFunc_Route := by kernel_rfl
theorem k_cmp_isNaN_int : compF Try.prog 67 c_cmp_isNaN_int.ro c_cmp_isNaN_int.mv = some c_cmp_isNaN_int := by kernel_rfl
theorem k_slices_SortStableFunc_Route : compF Try.prog 38 c_slices_SortStableFunc_Route.ro c_slices_SortStableFunc_Route.mv = some c_slices_SortStableFunc_Route := by kernel_rfl
theorem k_slices_CompactFunc_Route : compF Try.prog 39 c_slices_CompactFunc_Route.ro c_slices_CompactFunc_Route.mv = some c_slices_CompactFunc_Route := by kernel_rfl
theorem k_slices_stableCmpFunc_Route : compF Try.prog 66 c_slices_stableCmpFunc_Route.ro c_slices_stableCmpFunc_Route.mv = some c_slices_stableCmpFunc_Route := by kernel_rfl
theorem k_slices_insertionSortCmpFunc_Route : compF Try.prog 71 c_slices_insertionSortCmpFunc_Route.ro c_slices_insertionSortCmpFunc_Route.mv = some c_slices_insertionSortCmpFunc_Route := by kernel_rfl
theorem k_slices_symMergeCmpFunc_Route : compF Try.prog 72 c_slices_symMergeCmpFunc_Route.ro c_slices_symMergeCmpFunc_Route.mv = some c_slices_symMergeCmpFunc_Route := by kernel_rfl
theorem k_slices_rotateCmpFunc_Route : compF Try.prog 74 c_slices_rotateCmpFunc_Route.ro c_slices_rotateCmpFunc_Route.mv = some c_slices_rotateCmpFunc_Route := by kernel_rfl
theorem k_slices_swapRangeCmpFunc_Route : compF Try.prog 76 c_slices_swapRangeCmpFunc_Route.ro c_slices_swapRangeCmpFunc_Route.mv = some c_slices_swapRangeCmpFunc_Route := by kernel_rfl
theorem known : Known Try.prog Γ := by
  intro f fd h
  unfold Γ at h
  split at h
  · cases h; exact k_feluccalaw13_small
  · cases h; exact k_feluccalaw13_OrderInserts
  · cases h; exact k_feluccalaw13_places
  · cases h; exact k_feluccalaw13_Few
  · cases h; exact k_order_Sort
  · cases h; exact k_order_Insert
  · cases h; exact k_order_Same
  · cases h; exact k_order_Compare
  · cases h; exact k_order_Less
  · cases h; exact k_path_Same
  · cases h; exact k_order_copied
  · cases h; exact k_order_Sort_1
  · cases h; exact k_cmp_Or_int
  · cases h; exact k_cmp_Compare_int
  · cases h; exact k_slices_Compare_int
  · cases h; exact k_path_IDs
  · cases h; exact k_slices_Equal_Hop
  · cases h; exact k_slices_EqualFunc_Route
  · cases h; exact k_cmp_isNaN_int
  · cases h; exact k_slices_SortStableFunc_Route
  · cases h; exact k_slices_CompactFunc_Route
  · cases h; exact k_slices_stableCmpFunc_Route
  · cases h; exact k_slices_insertionSortCmpFunc_Route
  · cases h; exact k_slices_symMergeCmpFunc_Route
  · cases h; exact k_slices_rotateCmpFunc_Route
  · cases h; exact k_slices_swapRangeCmpFunc_Route
  · cases h; exact clone_knownR
  · cases h; exact clone_knownH
  · cases h
/-- Routes, as an argument. -/
theorem arg_rts {d : D} (h : HasArg Try.prog 20 22 d) : ∃ l : List Rt, d = .slice .no 2 (l.map Rt.e) := by
  obtain ⟨xs, rfl, hx⟩ := arg_sl (e := [.slice true [.int .i64, .int .i64, .int .i64], .int .i64]) h (by kernel_rfl) (by kernel_rfl)
  obtain ⟨l, rfl, hl⟩ := choose_list (e := Rt.e) (p := fun c => True) xs (fun x hx' => by
    obtain ⟨cs, rfl, hs⟩ := hx x hx'
    obtain ⟨d1, _, rfl, ⟨ys, rfl, hy⟩, hs⟩ := hs
    obtain ⟨ar, _, rfl, _, hs⟩ := shs_int hs
    rw [shs_nil hs]
    obtain ⟨l, rfl, hl⟩ := choose_list (e := Hp.e) (p := fun c => True) ys (fun y hy' => by
      obtain ⟨cs, rfl, hs⟩ := hy y hy'
      obtain ⟨a, _, rfl, ha, hs⟩ := shs_int hs
      obtain ⟨b, _, rfl, hb, hs⟩ := shs_int hs
      obtain ⟨c, _, rfl, hc, hs⟩ := shs_int hs
      rw [shs_nil hs]
      exact ⟨⟨a, b, c⟩, rfl, trivial⟩)
    exact ⟨⟨l, ar⟩, rfl, trivial⟩)
  exact ⟨l, rfl⟩
end Go.Proofs.Ytklegmbpppegaaa
