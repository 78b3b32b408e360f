/-
  The view's code, as the evaluator has it, is the program's: each function by the kernel.
-/
import Derived.Test.YtdjokmfncammeaaVitVieL
import Derived.Test.YtdjokmfncammeaaVitVieC
set_option linter.unusedVariables false
set_option linter.unusedSimpArgs false
set_option linter.unnecessarySimpa false

namespace Go.Proofs.Ytdjokmfncammeaa
open Go.ChangeShapes Go.WideShapes Go.ChangeAt Go.RowKit Go.Ev Go.Vit
theorem Try.own : ownKnob Try.prog.godebug = none := by kernel_rfl
theorem Try.laidOut : laidOutB Try.prog = true := by kernel_rfl
theorem k_feluccalaw11_small : compF Try.prog 8 c_feluccalaw11_small.ro c_feluccalaw11_small.mv = some c_feluccalaw11_small := by kernel_rfl
theorem k_feluccalaw11_base : compF Try.prog 30 c_feluccalaw11_base.ro c_feluccalaw11_base.mv = some c_feluccalaw11_base := by kernel_rfl
theorem k_feluccalaw11_ViewFroms : compF Try.prog 4 c_feluccalaw11_ViewFroms.ro c_feluccalaw11_ViewFroms.mv = some c_feluccalaw11_ViewFroms := by kernel_rfl
theorem k_feluccalaw11_ViewBare : compF Try.prog 5 c_feluccalaw11_ViewBare.ro c_feluccalaw11_ViewBare.mv = some c_feluccalaw11_ViewBare := by kernel_rfl
theorem k_feluccalaw11_ViewBooks : compF Try.prog 6 c_feluccalaw11_ViewBooks.ro c_feluccalaw11_ViewBooks.mv = some c_feluccalaw11_ViewBooks := by kernel_rfl
theorem k_feluccalaw11_ViewRight : compF Try.prog 7 c_feluccalaw11_ViewRight.ro c_feluccalaw11_ViewRight.mv = some c_feluccalaw11_ViewRight := by kernel_rfl
theorem k_feluccalaw11_ViewTells : compF Try.prog 3 c_feluccalaw11_ViewTells.ro c_feluccalaw11_ViewTells.mv = some c_feluccalaw11_ViewTells := by kernel_rfl
theorem k_feluccalaw08_Few : compF Try.prog 9 c_feluccalaw08_Few.ro c_feluccalaw08_Few.mv = some c_feluccalaw08_Few := by kernel_rfl
theorem k_view_Edge : compF Try.prog 12 c_view_Edge.ro c_view_Edge.mv = some c_view_Edge := by kernel_rfl
theorem k_view_Find : compF Try.prog 14 c_view_Find.ro c_view_Find.mv = some c_view_Find := by kernel_rfl
theorem k_view_All : compF Try.prog 16 c_view_All.ro c_view_All.mv = some c_view_All := by kernel_rfl
theorem k_view_Bare : compF Try.prog 19 c_view_Bare.ro c_view_Bare.mv = some c_view_Bare := by kernel_rfl
theorem k_view_From : compF Try.prog 21 c_view_From.ro c_view_From.mv = some c_view_From := by kernel_rfl
theorem k_view_Same : compF Try.prog 23 c_view_Same.ro c_view_Same.mv = some c_view_Same := by kernel_rfl
theorem k_plan_Right : compF Try.prog 24 c_plan_Right.ro c_plan_Right.mv = some c_plan_Right := by kernel_rfl
theorem k_contacts_Find : compF Try.prog 25 c_contacts_Find.ro c_contacts_Find.mv = some c_contacts_Find := by kernel_rfl
theorem k_check_Volume : compF Try.prog 26 c_check_Volume.ro c_check_Volume.mv = some c_check_Volume := by kernel_rfl
theorem k_ledger_Right : compF Try.prog 27 c_ledger_Right.ro c_ledger_Right.mv = some c_ledger_Right := by kernel_rfl
theorem k_hop_Right : compF Try.prog 28 c_hop_Right.ro c_hop_Right.mv = some c_hop_Right := by kernel_rfl
theorem k_ranges_Owlt : compF Try.prog 29 c_ranges_Owlt.ro c_ranges_Owlt.mv = some c_ranges_Owlt := by kernel_rfl
theorem k_check_Contact : compF Try.prog 33 c_check_Contact.ro c_check_Contact.mv = some c_check_Contact := by kernel_rfl
theorem k_num_Ceil : compF Try.prog 34 c_num_Ceil.ro c_num_Ceil.mv = some c_num_Ceil := by kernel_rfl
theorem k_ledger_Backlog : compF Try.prog 35 c_ledger_Backlog.ro c_ledger_Backlog.mv = some c_ledger_Backlog := by kernel_rfl
theorem k_num_Clamp : compF Try.prog 36 c_num_Clamp.ro c_num_Clamp.mv = some c_num_Clamp := by kernel_rfl
theorem k_ledger_Room : compF Try.prog 37 c_ledger_Room.ro c_ledger_Room.mv = some c_ledger_Room := by kernel_rfl
theorem k_slices_Equal_Edge : compF Try.prog 46 c_slices_Equal_Edge.ro c_slices_Equal_Edge.mv = some c_slices_Equal_Edge := by kernel_rfl
theorem k_plan_Right_1 : compF Try.prog 47 c_plan_Right_1.ro c_plan_Right_1.mv = some c_plan_Right_1 := by kernel_rfl
theorem k_plan_Right_2 : compF Try.prog 48 c_plan_Right_2.ro c_plan_Right_2.mv = some c_plan_Right_2 := by kernel_rfl
theorem k_slices_ContainsFunc_Contact : compF Try.prog 49 c_slices_ContainsFunc_Contact.ro c_slices_ContainsFunc_Contact.mv = some c_slices_ContainsFunc_Contact := by kernel_rfl
theorem k_slices_ContainsFunc_Range : compF Try.prog 50 c_slices_ContainsFunc_Range.ro c_slices_ContainsFunc_Range.mv = some c_slices_ContainsFunc_Range := by kernel_rfl
theorem k_contacts_Right : compF Try.prog 51 c_contacts_Right.ro c_contacts_Right.mv = some c_contacts_Right := by kernel_rfl
theorem k_ranges_Right : compF Try.prog 52 c_ranges_Right.ro c_ranges_Right.mv = some c_ranges_Right := by kernel_rfl
theorem k_slices_IndexFunc_Contact : compF Try.prog 53 c_slices_IndexFunc_Contact.ro c_slices_IndexFunc_Contact.mv = some c_slices_IndexFunc_Contact := by kernel_rfl
theorem k_contacts_of : compF Try.prog 54 c_contacts_of.ro c_contacts_of.mv = some c_contacts_of := by kernel_rfl
theorem k_check_Node : compF Try.prog 55 c_check_Node.ro c_check_Node.mv = some c_check_Node := by kernel_rfl
theorem k_num_In : compF Try.prog 56 c_num_In.ro c_num_In.mv = some c_num_In := by kernel_rfl
theorem k_ranges_Owlt_1 : compF Try.prog 57 c_ranges_Owlt_1.ro c_ranges_Owlt_1.mv = some c_ranges_Owlt_1 := by kernel_rfl
theorem k_slices_IndexFunc_Range : compF Try.prog 58 c_slices_IndexFunc_Range.ro c_slices_IndexFunc_Range.mv = some c_slices_IndexFunc_Range := by kernel_rfl
theorem k_check_way : compF Try.prog 64 c_check_way.ro c_check_way.mv = some c_check_way := by kernel_rfl
theorem k_check_span : compF Try.prog 65 c_check_span.ro c_check_span.mv = some c_check_span := by kernel_rfl
theorem k_ledger_class : compF Try.prog 66 c_ledger_class.ro c_ledger_class.mv = some c_ledger_class := by kernel_rfl
theorem k_ledger_Used : compF Try.prog 67 c_ledger_Used.ro c_ledger_Used.mv = some c_ledger_Used := by kernel_rfl
theorem k_cmp_isNaN_int : compF Try.prog 74 c_cmp_isNaN_int.ro c_cmp_isNaN_int.mv = some c_cmp_isNaN_int := by kernel_rfl
theorem k_cmp_Compare_int : compF Try.prog 45 c_cmp_Compare_int.ro c_cmp_Compare_int.mv = some c_cmp_Compare_int := by kernel_rfl
theorem k_contacts_Compare : compF Try.prog 75 c_contacts_Compare.ro c_contacts_Compare.mv = some c_contacts_Compare := by kernel_rfl
theorem k_contacts_overlap : compF Try.prog 76 c_contacts_overlap.ro c_contacts_overlap.mv = some c_contacts_overlap := by kernel_rfl
theorem k_check_Range : compF Try.prog 77 c_check_Range.ro c_check_Range.mv = some c_check_Range := by kernel_rfl
theorem k_ranges_Compare : compF Try.prog 78 c_ranges_Compare.ro c_ranges_Compare.mv = some c_ranges_Compare := by kernel_rfl
theorem k_ranges_overlap : compF Try.prog 79 c_ranges_overlap.ro c_ranges_overlap.mv = some c_ranges_overlap := by kernel_rfl
theorem k_contacts_of_1 : compF Try.prog 80 c_contacts_of_1.ro c_contacts_of_1.mv = some c_contacts_of_1 := by kernel_rfl
theorem k_ledger_at : compF Try.prog 81 c_ledger_at.ro c_ledger_at.mv = some c_ledger_at := by kernel_rfl
theorem k_cmp_Or_int : compF Try.prog 93 c_cmp_Or_int.ro c_cmp_Or_int.mv = some c_cmp_Or_int := by kernel_rfl
theorem k_slices_BinarySearchFunc_Booked : compF Try.prog 94 c_slices_BinarySearchFunc_Booked.ro c_slices_BinarySearchFunc_Booked.mv = some c_slices_BinarySearchFunc_Booked := by kernel_rfl
theorem k_ledger_at_1 : compF Try.prog 95 c_ledger_at_1.ro c_ledger_at_1.mv = some c_ledger_at_1 := by kernel_rfl
theorem k_feluccaref11_Edge : compF Try.prog 13 c_feluccaref11_Edge.ro c_feluccaref11_Edge.mv = some c_feluccaref11_Edge := by kernel_rfl
theorem k_feluccaref11_Find : compF Try.prog 15 c_feluccaref11_Find.ro c_feluccaref11_Find.mv = some c_feluccaref11_Find := by kernel_rfl
theorem k_feluccaref11_Same : compF Try.prog 17 c_feluccaref11_Same.ro c_feluccaref11_Same.mv = some c_feluccaref11_Same := by kernel_rfl
theorem k_feluccaref11_Bare : compF Try.prog 20 c_feluccaref11_Bare.ro c_feluccaref11_Bare.mv = some c_feluccaref11_Bare := by kernel_rfl
theorem k_feluccaref11_From : compF Try.prog 22 c_feluccaref11_From.ro c_feluccaref11_From.mv = some c_feluccaref11_From := by kernel_rfl
theorem k_feluccaref11_All : compF Try.prog 18 c_feluccaref11_All.ro c_feluccaref11_All.mv = some c_feluccaref11_All := by kernel_rfl
theorem k_feluccaref08_Right : compF Try.prog 10 c_feluccaref08_Right.ro c_feluccaref08_Right.mv = some c_feluccaref08_Right := by kernel_rfl
theorem k_feluccaref09_Right : compF Try.prog 11 c_feluccaref09_Right.ro c_feluccaref09_Right.mv = some c_feluccaref09_Right := by kernel_rfl
theorem k_feluccaref06_Right : compF Try.prog 31 c_feluccaref06_Right.ro c_feluccaref06_Right.mv = some c_feluccaref06_Right := by kernel_rfl
theorem k_feluccaref07_Right : compF Try.prog 32 c_feluccaref07_Right.ro c_feluccaref07_Right.mv = some c_feluccaref07_Right := by kernel_rfl
theorem k_feluccaref07_Owlt : compF Try.prog 38 c_feluccaref07_Owlt.ro c_feluccaref07_Owlt.mv = some c_feluccaref07_Owlt := by kernel_rfl
theorem k_feluccaref03_Contact : compF Try.prog 39 c_feluccaref03_Contact.ro c_feluccaref03_Contact.mv = some c_feluccaref03_Contact := by kernel_rfl
theorem k_feluccaref01_Ceil : compF Try.prog 40 c_feluccaref01_Ceil.ro c_feluccaref01_Ceil.mv = some c_feluccaref01_Ceil := by kernel_rfl
theorem k_feluccaref09_Backlog : compF Try.prog 41 c_feluccaref09_Backlog.ro c_feluccaref09_Backlog.mv = some c_feluccaref09_Backlog := by kernel_rfl
theorem k_feluccaref09_Room : compF Try.prog 42 c_feluccaref09_Room.ro c_feluccaref09_Room.mv = some c_feluccaref09_Room := by kernel_rfl
theorem k_feluccaref06_less : compF Try.prog 59 c_feluccaref06_less.ro c_feluccaref06_less.mv = some c_feluccaref06_less := by kernel_rfl
theorem k_feluccaref06_overlap : compF Try.prog 60 c_feluccaref06_overlap.ro c_feluccaref06_overlap.mv = some c_feluccaref06_overlap := by kernel_rfl
theorem k_feluccaref03_Range : compF Try.prog 61 c_feluccaref03_Range.ro c_feluccaref03_Range.mv = some c_feluccaref03_Range := by kernel_rfl
theorem k_feluccaref07_less : compF Try.prog 62 c_feluccaref07_less.ro c_feluccaref07_less.mv = some c_feluccaref07_less := by kernel_rfl
theorem k_feluccaref07_overlap : compF Try.prog 63 c_feluccaref07_overlap.ro c_feluccaref07_overlap.mv = some c_feluccaref07_overlap := by kernel_rfl
theorem k_feluccaref03_pair : compF Try.prog 68 c_feluccaref03_pair.ro c_feluccaref03_pair.mv = some c_feluccaref03_pair := by kernel_rfl
theorem k_feluccaref09_class : compF Try.prog 69 c_feluccaref09_class.ro c_feluccaref09_class.mv = some c_feluccaref09_class := by kernel_rfl
theorem k_feluccaref09_Used : compF Try.prog 70 c_feluccaref09_Used.ro c_feluccaref09_Used.mv = some c_feluccaref09_Used := by kernel_rfl
theorem k_feluccaref03_Volume : compF Try.prog 71 c_feluccaref03_Volume.ro c_feluccaref03_Volume.mv = some c_feluccaref03_Volume := by kernel_rfl
theorem k_feluccaref03_Node : compF Try.prog 82 c_feluccaref03_Node.ro c_feluccaref03_Node.mv = some c_feluccaref03_Node := by kernel_rfl
theorem known : Known Try.prog Γ := by
  intro f fd h
  unfold Γ at h
  split at h
  · cases h; exact k_feluccalaw11_small
  · cases h; exact k_feluccalaw11_base
  · cases h; exact k_feluccalaw11_ViewFroms
  · cases h; exact k_feluccalaw11_ViewBare
  · cases h; exact k_feluccalaw11_ViewBooks
  · cases h; exact k_feluccalaw11_ViewRight
  · cases h; exact k_feluccalaw11_ViewTells
  · cases h; exact k_feluccalaw08_Few
  · cases h; exact k_view_Edge
  · cases h; exact k_view_Find
  · cases h; exact k_view_All
  · cases h; exact k_view_Bare
  · cases h; exact k_view_From
  · cases h; exact k_view_Same
  · cases h; exact k_plan_Right
  · cases h; exact k_contacts_Find
  · cases h; exact k_check_Volume
  · cases h; exact k_ledger_Right
  · cases h; exact k_hop_Right
  · cases h; exact k_ranges_Owlt
  · cases h; exact k_check_Contact
  · cases h; exact k_num_Ceil
  · cases h; exact k_ledger_Backlog
  · cases h; exact k_num_Clamp
  · cases h; exact k_ledger_Room
  · cases h; exact k_slices_Equal_Edge
  · cases h; exact k_plan_Right_1
  · cases h; exact k_plan_Right_2
  · cases h; exact k_slices_ContainsFunc_Contact
  · cases h; exact k_slices_ContainsFunc_Range
  · cases h; exact k_contacts_Right
  · cases h; exact k_ranges_Right
  · cases h; exact k_slices_IndexFunc_Contact
  · cases h; exact k_contacts_of
  · cases h; exact k_check_Node
  · cases h; exact k_num_In
  · cases h; exact k_ranges_Owlt_1
  · cases h; exact k_slices_IndexFunc_Range
  · cases h; exact k_check_way
  · cases h; exact k_check_span
  · cases h; exact k_ledger_class
  · cases h; exact k_ledger_Used
  · cases h; exact k_cmp_isNaN_int
  · cases h; exact k_cmp_Compare_int
  · cases h; exact k_contacts_Compare
  · cases h; exact k_contacts_overlap
  · cases h; exact k_check_Range
  · cases h; exact k_ranges_Compare
  · cases h; exact k_ranges_overlap
  · cases h; exact k_contacts_of_1
  · cases h; exact k_ledger_at
  · cases h; exact k_cmp_Or_int
  · cases h; exact k_slices_BinarySearchFunc_Booked
  · cases h; exact k_ledger_at_1
  · cases h; exact k_feluccaref11_Edge
  · cases h; exact k_feluccaref11_Find
  · cases h; exact k_feluccaref11_Same
  · cases h; exact k_feluccaref11_Bare
  · cases h; exact k_feluccaref11_From
  · cases h; exact k_feluccaref11_All
  · cases h; exact k_feluccaref08_Right
  · cases h; exact k_feluccaref09_Right
  · cases h; exact k_feluccaref06_Right
  · cases h; exact k_feluccaref07_Right
  · cases h; exact k_feluccaref07_Owlt
  · cases h; exact k_feluccaref03_Contact
  · cases h; exact k_feluccaref01_Ceil
  · cases h; exact k_feluccaref09_Backlog
  · cases h; exact k_feluccaref09_Room
  · cases h; exact k_feluccaref06_less
  · cases h; exact k_feluccaref06_overlap
  · cases h; exact k_feluccaref03_Range
  · cases h; exact k_feluccaref07_less
  · cases h; exact k_feluccaref07_overlap
  · cases h; exact k_feluccaref03_pair
  · cases h; exact k_feluccaref09_class
  · cases h; exact k_feluccaref09_Used
  · cases h; exact k_feluccaref03_Volume
  · cases h; exact k_feluccaref03_Node
  · cases h; exact sort_known
  · cases h
end Go.Proofs.Ytdjokmfncammeaa

/-
  What the ledger's functions come to.
-/
namespace Go.Vit
open Go.Ev
set_option linter.unusedVariables false
set_option linter.unusedSimpArgs false
theorem s_num_In (n lo hi : Int) : EvP Γ 56 [.int .i64 n, .int .i64 lo, .int .i64 hi] (.bool (decide (lo ≤ n ∧ n ≤ hi))) := by
  refine EvP_code rfl rfl ?_
  repeat' (first
 | (refine I_WS ?_; first
 | (refine I_mov ?_; first
 | refine W_skip rfl ?_
 | refine W_mov (v := .int _ _) rfl rfl rfl ?_
 | refine W_mov (v := .bool _) rfl rfl rfl ?_)
 | (refine I_bin ?_; first
 | refine W_skip rfl ?_
 | (refine W_leq rfl rfl rfl rfl ?_ ?_ <;> intro _))
 | (refine I_pick ?_; first
 | refine W_pick (v := .bool _) rfl rfl rfl rfl ?_)
 | refine WS_nil ?_)
 | refine WC_seq ?_
 | refine WC_opsS ?_
 | refine WC_ret ?_)
  all_goals refine fin_bool (by simp) rfl ?_
  all_goals simp [*]
theorem s_check_Node (n : Int) : EvP Γ 55 [.int .i64 n] (.bool (decide (1 ≤ n ∧ n ≤ 255))) := by
  refine EvP_code rfl rfl ?_
  repeat' (first
 | (refine I_WS ?_; first
 | (refine I_mov ?_; first
 | refine W_mov (v := .int _ _) rfl rfl rfl ?_
 | refine W_mov (v := .bool _) rfl rfl rfl ?_)
 | (refine I_call ?_; first
 | refine W_callB rfl rfl rfl (s_num_In _ _ _) rfl ?_ ?_ <;> intro _)
 | refine WS_nil ?_)
 | refine WC_seq ?_
 | refine WC_opsS ?_
 | refine WC_ret ?_)
  all_goals refine fin_bool (by simp) rfl ?_
  all_goals simp_all
theorem s_check_way (a b : Int) : EvP Γ 64 [.int .i64 a, .int .i64 b] (.bool (decide ((1 ≤ a ∧ a ≤ 255) ∧ (1 ≤ b ∧ b ≤ 255) ∧ a ≠ b))) := by
  refine EvP_code rfl rfl ?_
  repeat' (first
 | (refine I_WS ?_; first
 | (refine I_mov ?_; first
 | refine W_skip rfl ?_
 | refine W_mov (v := .int _ _) rfl rfl rfl ?_
 | refine W_mov (v := .bool _) rfl rfl rfl ?_)
 | (refine I_bin ?_; first
 | refine W_skip rfl ?_
 | (refine W_neq rfl rfl rfl rfl ?_ ?_ <;> intro _))
 | (refine I_call ?_; first
 | refine W_skip rfl ?_
 | refine W_callB rfl rfl rfl (s_check_Node _) rfl ?_ ?_ <;> intro _)
 | (refine I_pick ?_; first
 | refine W_pick (v := .bool _) rfl rfl rfl rfl ?_)
 | refine WS_nil ?_)
 | refine WC_seq ?_
 | refine WC_opsS ?_
 | refine WC_ret ?_)
  all_goals refine fin_bool (by simp) rfl ?_
  all_goals simp_all
  all_goals omega
theorem s_check_span (a b : Int) (hb : -9223372036854775808 ≤ b ∧ b ≤ 9223372036854775807) : EvP Γ 65 [.int .i64 a, .int .i64 b] (.bool (decide (0 ≤ a ∧ a < b ∧ b ≤ 2147483647))) := by
  refine EvP_code rfl rfl ?_
  by_cases h1 : 1 ≤ b
  · repeat' (first
 | (refine I_WS ?_; first
 | (refine I_mov ?_; first
 | refine W_skip rfl ?_
 | refine W_mov (v := .int _ _) rfl rfl rfl ?_
 | refine W_mov (v := .bool _) rfl rfl rfl ?_)
 | (refine I_bin ?_; first
 | refine W_sub rfl rfl rfl rfl (by first | exact w64 (by omega) | rfl) ?_)
 | (refine I_call ?_; first
 | refine W_skip rfl ?_
 | refine W_callB rfl rfl rfl (s_num_In _ _ _) rfl ?_ ?_ <;> intro _)
 | (refine I_pick ?_; first
 | refine W_pick (v := .bool _) rfl rfl rfl rfl ?_)
 | refine WS_nil ?_)
 | refine WC_seq ?_
 | refine WC_opsS ?_
 | refine WC_ret ?_)
    all_goals refine fin_bool (by simp) rfl ?_
    all_goals simp_all
    all_goals omega
  · repeat' (first
 | (refine I_WS ?_; first
 | (refine I_mov ?_; first
 | refine W_skip rfl ?_
 | refine W_mov (v := .int _ _) rfl rfl rfl ?_
 | refine W_mov (v := .bool _) rfl rfl rfl ?_)
 | (refine I_bin ?_; first
 | refine W_sub rfl rfl rfl rfl (by first | exact w64 (by omega) | rfl) ?_)
 | (refine I_call ?_; first
 | refine W_skip rfl ?_
 | refine W_callB rfl rfl rfl (s_num_In _ _ _) rfl ?_ ?_ <;> intro _)
 | (refine I_pick ?_; first
 | refine W_pick (v := .bool _) rfl rfl rfl rfl ?_)
 | refine WS_nil ?_)
 | refine WC_seq ?_
 | refine WC_opsS ?_
 | refine WC_ret ?_)
    all_goals refine fin_bool (by simp) rfl ?_
    all_goals simp_all
    all_goals omega
/-- May a contact be? -/
def okC (id from' to start end' rate : Int) : Prop := ((1 ≤ from' ∧ from' ≤ 255) ∧ (1 ≤ to ∧ to ≤ 255) ∧ from' ≠ to) ∧ (0 ≤ start ∧ start < end' ∧ end' ≤ 2147483647) ∧ (1 ≤ id ∧ id ≤ 1048576) ∧ (1 ≤ rate ∧ rate ≤ 2147483647)
instance (a b c d e f : Int) : Decidable (okC a b c d e f) := by unfold okC; infer_instance
theorem s_check_Contact (id fr to st en ra : Int) (hb : -9223372036854775808 ≤ en ∧ en ≤ 9223372036854775807) : EvP Γ 33 [.agg [.int .i64 id, .int .i64 fr, .int .i64 to, .int .i64 st, .int .i64 en, .int .i64 ra]] (.bool (decide (okC id fr to st en ra))) := by
  refine EvP_code rfl rfl ?_
  repeat' (first
 | (refine I_WS ?_; first
 | (refine I_mov ?_; first
 | refine W_mov (v := .bool _) rfl rfl rfl ?_)
 | (refine I_load ?_; first
 | refine W_skip rfl ?_
 | refine W_load (agg := false) (d := .int _ _) rfl rfl rfl rfl (by first | exact Nat.zero_le _ | omega) rfl ?_)
 | (refine I_call ?_; first
 | refine W_skip rfl ?_
 | refine W_callB rfl rfl rfl (s_check_way _ _) rfl ?_ ?_ <;> intro _
 | refine W_callB rfl rfl rfl (s_check_span _ _ hb) rfl ?_ ?_ <;> intro _
 | refine W_callB rfl rfl rfl (s_num_In _ _ _) rfl ?_ ?_ <;> intro _)
 | (refine I_pick ?_; first
 | refine W_pick (v := .bool _) rfl rfl rfl rfl ?_)
 | (refine I_box ?_; first
 | refine W_boxA rfl rfl rfl rfl rfl ?_)
 | refine W_faddr rfl rfl rfl ?_
 | refine W_skip rfl ?_
 | refine WS_nil ?_)
 | refine WC_seq ?_
 | refine WC_opsS ?_
 | refine WC_ret ?_)
  all_goals unfold okC
  all_goals (refine fin_bool (by simp) rfl ?_; first | (simp_all; done) | (simp_all; omega) | (simp only [eq_comm (a := true), eq_comm (a := false), decide_eq_true_eq, decide_eq_false_iff_not] at *; omega) | grind)
/-- What it may carry. -/
def volC (id fr to st en ra : Int) : Int := if okC id fr to st en ra then (en - st) * ra else 0
theorem mul_bound {a b A B : Int} (ha : 0 ≤ a) (hA : a ≤ A) (hb : 0 ≤ b) (hB : b ≤ B) : 0 ≤ a * b ∧ a * b ≤ A * B :=
  ⟨Int.mul_nonneg ha hb, Int.le_trans (Int.mul_le_mul_of_nonneg_right hA hb) (Int.mul_le_mul_of_nonneg_left hB (Int.le_trans ha hA))⟩
theorem volC_in (id fr to st en ra : Int) : 0 ≤ volC id fr to st en ra ∧ volC id fr to st en ra ≤ 4611686014132420609 := by
  unfold volC
  split
  · rename_i h
    unfold okC at h
    have := mul_bound (a := en - st) (b := ra) (A := 2147483647) (B := 2147483647) (by omega) (by omega) (by omega) (by omega)
    omega
  · omega
theorem s_check_Volume (id fr to st en ra : Int) (hb : -9223372036854775808 ≤ en ∧ en ≤ 9223372036854775807) : EvP Γ 26 [.agg [.int .i64 id, .int .i64 fr, .int .i64 to, .int .i64 st, .int .i64 en, .int .i64 ra]] (.int .i64 (volC id fr to st en ra)) := by
  refine EvP_code rfl rfl ?_
  by_cases h : okC id fr to st en ra
  · have hv := volC_in id fr to st en ra
    unfold volC at hv ⊢
    rw [if_pos h] at hv ⊢
    have h' := h
    unfold okC at h'
    repeat' (first
 | (refine I_WS ?_; first
 | (refine I_mov ?_; first
 | refine W_mov (v := .int _ _) rfl rfl rfl ?_)
 | (refine I_bin ?_; first
 | refine W_sub rfl rfl rfl rfl (by first | exact w64 (by omega) | rfl) ?_
 | refine W_mul rfl rfl rfl rfl (by first | exact w64 (by omega) | rfl) ?_)
 | (refine I_load ?_; first
 | refine W_load (agg := false) (d := .int _ _) rfl rfl rfl rfl (by first | exact Nat.zero_le _ | omega) rfl ?_
 | refine W_load (agg := true) (d := .agg [_, _, _, _, _, _]) rfl rfl rfl rfl (by first | exact Nat.zero_le _ | omega) rfl ?_)
 | (refine I_call ?_; first
 | refine W_callB rfl rfl rfl (s_check_Contact _ _ _ _ _ _ hb) rfl ?_ ?_ <;> intro _)
 | (refine I_box ?_; first
 | refine W_boxA rfl rfl rfl rfl rfl ?_)
 | refine W_not rfl rfl rfl ?_
 | refine W_faddr rfl rfl rfl ?_
 | refine WS_nil ?_)
 | refine WC_seq ?_
 | refine WC_opsS ?_
 | refine WC_skip ?_
 | refine WC_condT rfl ?_
 | refine WC_condF rfl ?_
 | refine WC_ret ?_)
    all_goals first | exact fin_int (by simp) rfl rfl | simp_all
  · repeat' (first
 | (refine I_WS ?_; first
 | (refine I_mov ?_; first
 | refine W_mov (v := .int _ _) rfl rfl rfl ?_)
 | (refine I_bin ?_; first
 | refine W_sub rfl rfl rfl rfl (by first | exact w64 (by omega) | rfl) ?_
 | refine W_mul rfl rfl rfl rfl (by first | exact w64 (by omega) | rfl) ?_)
 | (refine I_load ?_; first
 | refine W_load (agg := false) (d := .int _ _) rfl rfl rfl rfl (by first | exact Nat.zero_le _ | omega) rfl ?_
 | refine W_load (agg := true) (d := .agg [_, _, _, _, _, _]) rfl rfl rfl rfl (by first | exact Nat.zero_le _ | omega) rfl ?_)
 | (refine I_call ?_; first
 | refine W_callB rfl rfl rfl (s_check_Contact _ _ _ _ _ _ hb) rfl ?_ ?_ <;> intro _)
 | (refine I_box ?_; first
 | refine W_boxA rfl rfl rfl rfl rfl ?_)
 | refine W_not rfl rfl rfl ?_
 | refine W_faddr rfl rfl rfl ?_
 | refine WS_nil ?_)
 | refine WC_seq ?_
 | refine WC_opsS ?_
 | refine WC_skip ?_
 | refine WC_condT rfl ?_
 | refine WC_condF rfl ?_
 | refine WC_ret ?_)
    · simp_all
    · exact fin_int (by simp) rfl (by simp [volC, h])
theorem s_class (k : Int) : EvP Γ 66 [.int .i64 k] (.bool (decide (0 ≤ k ∧ k < 3))) := by
  refine EvP_code rfl rfl ?_
  repeat' (first
 | (refine I_WS ?_; first
 | (refine I_mov ?_; first
 | refine W_skip rfl ?_
 | refine W_mov (v := .int _ _) rfl rfl rfl ?_
 | refine W_mov (v := .bool _) rfl rfl rfl ?_)
 | (refine I_bin ?_; first
 | refine W_skip rfl ?_
 | (refine W_lss rfl rfl rfl rfl ?_ ?_ <;> intro _)
 | (refine W_geq rfl rfl rfl rfl ?_ ?_ <;> intro _))
 | (refine I_pick ?_; first
 | refine W_pick (v := .bool _) rfl rfl rfl rfl ?_)
 | refine WS_nil ?_)
 | refine WC_seq ?_
 | refine WC_opsS ?_
 | refine WC_ret ?_)
  all_goals refine fin_bool (by simp) rfl ?_
  all_goals simp [*]
theorem s_isNaN (k : Int) : EvP Γ 74 [.int .i64 k] (.bool false) := by
  refine EvP_code rfl rfl ?_
  repeat' (first
 | (refine I_WS ?_; first
 | (refine I_mov ?_; first
 | refine W_mov (v := .int _ _) rfl rfl rfl ?_
 | refine W_mov (v := .bool _) rfl rfl rfl ?_)
 | (refine I_bin ?_; first
 | refine W_neqF rfl rfl rfl rfl (by omega) ?_)
 | refine WS_nil ?_)
 | refine WC_seq ?_
 | refine WC_opsS ?_
 | refine WC_ret ?_)
  all_goals exact fin_bool (by simp) rfl rfl
/-- Below, the same, above. -/
def cmpI (a b : Int) : Int := if a < b then -1 else if b < a then 1 else 0
theorem s_Compare (a b : Int) : EvP Γ 45 [.int .i64 a, .int .i64 b] (.int .i64 (cmpI a b)) := by
  refine EvP_code rfl rfl ?_
  repeat' (first
 | (refine I_WS ?_; first
 | (refine I_mov ?_; first
 | refine W_mov (v := .int _ _) rfl rfl rfl ?_
 | refine W_mov (v := .bool _) rfl rfl rfl ?_)
 | (refine I_bin ?_; first
 | (refine W_lss rfl rfl rfl rfl ?_ ?_ <;> intro _)
 | (refine W_gtr rfl rfl rfl rfl ?_ ?_ <;> intro _))
 | (refine I_call ?_; first
 | refine W_call rfl rfl rfl (s_isNaN _) rfl rfl ?_)
 | refine WS_nil ?_)
 | refine WC_seq ?_
 | refine WC_opsS ?_
 | refine WC_skip ?_
 | refine WC_condT rfl ?_
 | refine WC_condF rfl ?_
 | refine WC_ret ?_)
  all_goals refine fin_int (by simp) rfl ?_
  all_goals simp [cmpI, *]

/-- A row of the ledger. -/
structure Bk where
  id : Int
  u0 : Int
  u1 : Int
  u2 : Int
  deriving DecidableEq
def Bk.e (b : Bk) : D := .agg [.int .i64 b.id, .int .i64 b.u0, .int .i64 b.u1, .int .i64 b.u2]
theorem s_at1 (b : Bk) (id : Int) : EvP Γ 95 [b.e, .int .i64 id] (.int .i64 (cmpI b.id id)) := by
  refine EvP_code rfl rfl ?_
  repeat' (first
 | (refine I_WS ?_; first
 | (refine I_mov ?_; first
 | refine W_mov (v := .int _ _) rfl rfl rfl ?_)
 | (refine I_load ?_; first
 | refine W_load (agg := false) (d := .int _ _) rfl rfl rfl rfl (by first | exact Nat.zero_le _ | omega) rfl ?_)
 | (refine I_call ?_; first
 | refine W_call rfl rfl rfl (s_Compare _ _) rfl rfl ?_)
 | (refine I_box ?_; first
 | refine W_boxA rfl rfl rfl rfl rfl ?_)
 | refine W_faddr rfl rfl rfl ?_
 | refine WS_nil ?_)
 | refine WC_seq ?_
 | refine WC_opsS ?_
 | refine WC_ret ?_)
  exact fin_int (by simp) rfl rfl
end Go.Vit
