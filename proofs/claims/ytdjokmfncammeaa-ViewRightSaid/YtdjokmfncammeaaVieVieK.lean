/-
  The view's code, as the evaluator has it, is the program's: each function by the kernel.
-/
import Derived.Test.YtdjokmfncammeaaVieVieL
set_option linter.unusedVariables false
set_option linter.unusedSimpArgs false
set_option linter.unnecessarySimpa false
namespace Go.Proofs.Ytdjokmfncammeaa
open Go.ChangeShapes Go.WideShapes Go.ChangeAt Go.RowKit Go.Ev Go.Vie
theorem Try.own : ownKnob Try.prog.godebug = none := by kernel_rfl
theorem Try.laidOut : laidOutB Try.prog = true := by kernel_rfl
theorem k_feluccalaw11_small : compF Try.prog 8 c_feluccalaw11_small.ro c_feluccalaw11_small.mv = some c_feluccalaw11_small := by kernel_rfl
theorem k_feluccalaw11_base : compF Try.prog 30 c_feluccalaw11_base.ro c_feluccalaw11_base.mv = some c_feluccalaw11_base := by kernel_rfl
theorem k_feluccalaw11_ViewFroms : compF Try.prog 4 c_feluccalaw11_ViewFroms.ro c_feluccalaw11_ViewFroms.mv = some c_feluccalaw11_ViewFroms := by kernel_rfl
theorem k_feluccalaw11_ViewBare : compF Try.prog 5 c_feluccalaw11_ViewBare.ro c_feluccalaw11_ViewBare.mv = some c_feluccalaw11_ViewBare := by kernel_rfl
theorem k_feluccalaw11_ViewBooks : compF Try.prog 6 c_feluccalaw11_ViewBooks.ro c_feluccalaw11_ViewBooks.mv = some c_feluccalaw11_ViewBooks := by kernel_rfl
theorem k_feluccalaw11_ViewRight : compF Try.prog 7 c_feluccalaw11_ViewRight.ro c_feluccalaw11_ViewRight.mv = some c_feluccalaw11_ViewRight := by kernel_rfl
theorem k_feluccalaw11_ViewTells : compF Try.prog 3 c_feluccalaw11_ViewTells.ro c_feluccalaw11_ViewTells.mv = some c_feluccalaw11_ViewTells := by kernel_rfl
theorem k_feluccalaw08_Few : compF Try.prog 9 c_feluccalaw08_Few.ro c_feluccalaw08_Few.mv = some c_feluccalaw08_Few := by kernel_rfl
theorem k_view_Edge : compF Try.prog 12 c_view_Edge.ro c_view_Edge.mv = some c_view_Edge := by kernel_rfl
theorem k_view_Find : compF Try.prog 14 c_view_Find.ro c_view_Find.mv = some c_view_Find := by kernel_rfl
theorem k_view_All : compF Try.prog 16 c_view_All.ro c_view_All.mv = some c_view_All := by kernel_rfl
theorem k_view_Bare : compF Try.prog 19 c_view_Bare.ro c_view_Bare.mv = some c_view_Bare := by kernel_rfl
theorem k_view_From : compF Try.prog 21 c_view_From.ro c_view_From.mv = some c_view_From := by kernel_rfl
theorem k_view_Same : compF Try.prog 23 c_view_Same.ro c_view_Same.mv = some c_view_Same := by kernel_rfl
theorem k_plan_Right : compF Try.prog 24 c_plan_Right.ro c_plan_Right.mv = some c_plan_Right := by kernel_rfl
theorem k_contacts_Find : compF Try.prog 25 c_contacts_Find.ro c_contacts_Find.mv = some c_contacts_Find := by kernel_rfl
theorem k_check_Volume : compF Try.prog 26 c_check_Volume.ro c_check_Volume.mv = some c_check_Volume := by kernel_rfl
theorem k_ledger_Right : compF Try.prog 27 c_ledger_Right.ro c_ledger_Right.mv = some c_ledger_Right := by kernel_rfl
theorem k_hop_Right : compF Try.prog 28 c_hop_Right.ro c_hop_Right.mv = some c_hop_Right := by kernel_rfl
theorem k_ranges_Owlt : compF Try.prog 29 c_ranges_Owlt.ro c_ranges_Owlt.mv = some c_ranges_Owlt := by kernel_rfl
theorem k_check_Contact : compF Try.prog 33 c_check_Contact.ro c_check_Contact.mv = some c_check_Contact := by kernel_rfl
theorem k_num_Ceil : compF Try.prog 34 c_num_Ceil.ro c_num_Ceil.mv = some c_num_Ceil := by kernel_rfl
theorem k_ledger_Backlog : compF Try.prog 35 c_ledger_Backlog.ro c_ledger_Backlog.mv = some c_ledger_Backlog := by kernel_rfl
theorem k_num_Clamp : compF Try.prog 36 c_num_Clamp.ro c_num_Clamp.mv = some c_num_Clamp := by kernel_rfl
theorem k_ledger_Room : compF Try.prog 37 c_ledger_Room.ro c_ledger_Room.mv = some c_ledger_Room := by kernel_rfl
theorem k_slices_Equal_Edge : compF Try.prog 46 c_slices_Equal_Edge.ro c_slices_Equal_Edge.mv = some c_slices_Equal_Edge := by kernel_rfl
theorem k_plan_Right_1 : compF Try.prog 47 c_plan_Right_1.ro c_plan_Right_1.mv = some c_plan_Right_1 := by kernel_rfl
theorem k_plan_Right_2 : compF Try.prog 48 c_plan_Right_2.ro c_plan_Right_2.mv = some c_plan_Right_2 := by kernel_rfl
theorem k_slices_ContainsFunc_Contact : compF Try.prog 49 c_slices_ContainsFunc_Contact.ro c_slices_ContainsFunc_Contact.mv = some c_slices_ContainsFunc_Contact := by kernel_rfl
theorem k_slices_ContainsFunc_Range : compF Try.prog 50 c_slices_ContainsFunc_Range.ro c_slices_ContainsFunc_Range.mv = some c_slices_ContainsFunc_Range := by kernel_rfl
theorem k_contacts_Right : compF Try.prog 51 c_contacts_Right.ro c_contacts_Right.mv = some c_contacts_Right := by kernel_rfl
theorem k_ranges_Right : compF Try.prog 52 c_ranges_Right.ro c_ranges_Right.mv = some c_ranges_Right := by kernel_rfl
theorem k_slices_IndexFunc_Contact : compF Try.prog 53 c_slices_IndexFunc_Contact.ro c_slices_IndexFunc_Contact.mv = some c_slices_IndexFunc_Contact := by kernel_rfl
theorem k_contacts_of : compF Try.prog 54 c_contacts_of.ro c_contacts_of.mv = some c_contacts_of := by kernel_rfl
theorem k_check_Node : compF Try.prog 55 c_check_Node.ro c_check_Node.mv = some c_check_Node := by kernel_rfl
theorem k_num_In : compF Try.prog 56 c_num_In.ro c_num_In.mv = some c_num_In := by kernel_rfl
theorem k_ranges_Owlt_1 : compF Try.prog 57 c_ranges_Owlt_1.ro c_ranges_Owlt_1.mv = some c_ranges_Owlt_1 := by kernel_rfl
theorem k_slices_IndexFunc_Range : compF Try.prog 58 c_slices_IndexFunc_Range.ro c_slices_IndexFunc_Range.mv = some c_slices_IndexFunc_Range := by kernel_rfl
theorem k_check_way : compF Try.prog 64 c_check_way.ro c_check_way.mv = some c_check_way := by kernel_rfl
theorem k_check_span : compF Try.prog 65 c_check_span.ro c_check_span.mv = some c_check_span := by kernel_rfl
theorem k_ledger_class : compF Try.prog 66 c_ledger_class.ro c_ledger_class.mv = some c_ledger_class := by kernel_rfl
theorem k_ledger_Used : compF Try.prog 67 c_ledger_Used.ro c_ledger_Used.mv = some c_ledger_Used := by kernel_rfl
theorem k_cmp_isNaN_int : compF Try.prog 74 c_cmp_isNaN_int.ro c_cmp_isNaN_int.mv = some c_cmp_isNaN_int := by kernel_rfl
theorem k_cmp_Compare_int : compF Try.prog 45 c_cmp_Compare_int.ro c_cmp_Compare_int.mv = some c_cmp_Compare_int := by kernel_rfl
theorem k_contacts_Compare : compF Try.prog 75 c_contacts_Compare.ro c_contacts_Compare.mv = some c_contacts_Compare := by kernel_rfl
theorem k_contacts_overlap : compF Try.prog 76 c_contacts_overlap.ro c_contacts_overlap.mv = some c_contacts_overlap := by kernel_rfl
theorem k_check_Range : compF Try.prog 77 c_check_Range.ro c_check_Range.mv = some c_check_Range := by kernel_rfl
theorem k_ranges_Compare : compF Try.prog 78 c_ranges_Compare.ro c_ranges_Compare.mv = some c_ranges_Compare := by kernel_rfl
theorem k_ranges_overlap : compF Try.prog 79 c_ranges_overlap.ro c_ranges_overlap.mv = some c_ranges_overlap := by kernel_rfl
theorem k_contacts_of_1 : compF Try.prog 80 c_contacts_of_1.ro c_contacts_of_1.mv = some c_contacts_of_1 := by kernel_rfl
theorem k_ledger_at : compF Try.prog 81 c_ledger_at.ro c_ledger_at.mv = some c_ledger_at := by kernel_rfl
theorem k_cmp_Or_int : compF Try.prog 93 c_cmp_Or_int.ro c_cmp_Or_int.mv = some c_cmp_Or_int := by kernel_rfl
theorem k_slices_BinarySearchFunc_Booked : compF Try.prog 94 c_slices_BinarySearchFunc_Booked.ro c_slices_BinarySearchFunc_Booked.mv = some c_slices_BinarySearchFunc_Booked := by kernel_rfl
theorem k_ledger_at_1 : compF Try.prog 95 c_ledger_at_1.ro c_ledger_at_1.mv = some c_ledger_at_1 := by kernel_rfl
theorem known : Known Try.prog Γ := by
  intro f fd h
  unfold Γ at h
  split at h
  · cases h; exact k_feluccalaw11_small
  · cases h; exact k_feluccalaw11_base
  · cases h; exact k_feluccalaw11_ViewFroms
  · cases h; exact k_feluccalaw11_ViewBare
  · cases h; exact k_feluccalaw11_ViewBooks
  · cases h; exact k_feluccalaw11_ViewRight
  · cases h; exact k_feluccalaw11_ViewTells
  · cases h; exact k_feluccalaw08_Few
  · cases h; exact k_view_Edge
  · cases h; exact k_view_Find
  · cases h; exact k_view_All
  · cases h; exact k_view_Bare
  · cases h; exact k_view_From
  · cases h; exact k_view_Same
  · cases h; exact k_plan_Right
  · cases h; exact k_contacts_Find
  · cases h; exact k_check_Volume
  · cases h; exact k_ledger_Right
  · cases h; exact k_hop_Right
  · cases h; exact k_ranges_Owlt
  · cases h; exact k_check_Contact
  · cases h; exact k_num_Ceil
  · cases h; exact k_ledger_Backlog
  · cases h; exact k_num_Clamp
  · cases h; exact k_ledger_Room
  · cases h; exact k_slices_Equal_Edge
  · cases h; exact k_plan_Right_1
  · cases h; exact k_plan_Right_2
  · cases h; exact k_slices_ContainsFunc_Contact
  · cases h; exact k_slices_ContainsFunc_Range
  · cases h; exact k_contacts_Right
  · cases h; exact k_ranges_Right
  · cases h; exact k_slices_IndexFunc_Contact
  · cases h; exact k_contacts_of
  · cases h; exact k_check_Node
  · cases h; exact k_num_In
  · cases h; exact k_ranges_Owlt_1
  · cases h; exact k_slices_IndexFunc_Range
  · cases h; exact k_check_way
  · cases h; exact k_check_span
  · cases h; exact k_ledger_class
  · cases h; exact k_ledger_Used
  · cases h; exact k_cmp_isNaN_int
  · cases h; exact k_cmp_Compare_int
  · cases h; exact k_contacts_Compare
  · cases h; exact k_contacts_overlap
  · cases h; exact k_check_Range
  · cases h; exact k_ranges_Compare
  · cases h; exact k_ranges_overlap
  · cases h; exact k_contacts_of_1
  · cases h; exact k_ledger_at
  · cases h; exact k_cmp_Or_int
  · cases h; exact k_slices_BinarySearchFunc_Booked
  · cases h; exact k_ledger_at_1
  · cases h; exact sort_known
  · cases h
end Go.Proofs.Ytdjokmfncammeaa
