/-
  The ledger's code, as the evaluator has it, is the program's: each function by the kernel.
-/
import Derived.Test.YtbmhgigljbikhaaLetLetZ
import Derived.Test.YtbmhgigljbikhaaEvEvZ2
import Derived.Test.YtbmhgigljbikhaaRows
import Derived.ProofKit
import Derived.WalkSpells
set_option linter.unusedVariables false
set_option linter.unusedSimpArgs false
set_option linter.unnecessarySimpa false
namespace Go.Proofs.Ytbmhgigljbikhaa
open Go.ChangeShapes Go.WideShapes Go.ChangeAt Go.RowKit Go.Ev Go.Let
theorem Try.own : ownKnob Try.prog.godebug = none := by kernel_rfl
theorem Try.laidOut : laidOutB Try.prog = true := by kernel_rfl
theorem Try.mixed : Try.prog.follows .mixedOrders = true := by kernel_rfl
theorem Try.clone_ntmps : Try.f50.ntmps = 8 := rfl
set_option maxRecDepth 1000000 in
set_option maxHeartbeats 2000000 in
theorem clone_nil (w : World) (cap : Nat) : Calls Try.prog 50 #[.slice none 0 cap] w fun e w' => e = .returned (.slice none 0 0) ∧ w' = w := by
  have q : ∀ (w : World) (a : Option Addr) (n c n2 c2 : Nat), (binOp .eql 41 (.slice a n c) (.slice none n2 c2)).run Try.prog w = .ok (.bool a.isNone) w := fun w a n c n2 c2 => Lib.run_eql_slice_nil w _ _ a n c n2 c2 Try.underlying41
  go_enter Try.func50, Try.clone_ntmps
  go_wp2
  go_ret
  exact ⟨rfl, rfl⟩
theorem clone_known : PrimOK Try.prog 50 (cloneF 4 32) := clone_prim Try.mixed (by kernel_rfl) (by decide) clone_nil
theorem k_ledger_Right : compF Try.prog 25 c_ledger_Right.ro c_ledger_Right.mv = some c_ledger_Right := by kernel_rfl
theorem k_feluccaref09_Right : compF Try.prog 26 c_feluccaref09_Right.ro c_feluccaref09_Right.mv = some c_feluccaref09_Right := by kernel_rfl
theorem k_ledger_Same : compF Try.prog 27 c_ledger_Same.ro c_ledger_Same.mv = some c_ledger_Same := by kernel_rfl
theorem k_feluccaref09_Same : compF Try.prog 28 c_feluccaref09_Same.ro c_feluccaref09_Same.mv = some c_feluccaref09_Same := by kernel_rfl
theorem k_feluccaref09_Copy : compF Try.prog 29 c_feluccaref09_Copy.ro c_feluccaref09_Copy.mv = some c_feluccaref09_Copy := by kernel_rfl
theorem k_ledger_Release : compF Try.prog 30 c_ledger_Release.ro c_ledger_Release.mv = some c_ledger_Release := by kernel_rfl
theorem k_feluccaref09_Release : compF Try.prog 31 c_feluccaref09_Release.ro c_feluccaref09_Release.mv = some c_feluccaref09_Release := by kernel_rfl
theorem k_ledger_Book : compF Try.prog 32 c_ledger_Book.ro c_ledger_Book.mv = some c_ledger_Book := by kernel_rfl
theorem k_feluccaref09_Book : compF Try.prog 33 c_feluccaref09_Book.ro c_feluccaref09_Book.mv = some c_feluccaref09_Book := by kernel_rfl
theorem k_ledger_Drop : compF Try.prog 34 c_ledger_Drop.ro c_ledger_Drop.mv = some c_ledger_Drop := by kernel_rfl
theorem k_feluccaref09_Drop : compF Try.prog 35 c_feluccaref09_Drop.ro c_feluccaref09_Drop.mv = some c_feluccaref09_Drop := by kernel_rfl
theorem k_ledger_Used : compF Try.prog 36 c_ledger_Used.ro c_ledger_Used.mv = some c_ledger_Used := by kernel_rfl
theorem k_feluccaref09_Used : compF Try.prog 37 c_feluccaref09_Used.ro c_feluccaref09_Used.mv = some c_feluccaref09_Used := by kernel_rfl
theorem k_ledger_Backlog : compF Try.prog 38 c_ledger_Backlog.ro c_ledger_Backlog.mv = some c_ledger_Backlog := by kernel_rfl
theorem k_feluccaref09_Backlog : compF Try.prog 39 c_feluccaref09_Backlog.ro c_feluccaref09_Backlog.mv = some c_feluccaref09_Backlog := by kernel_rfl
theorem k_ledger_Room : compF Try.prog 40 c_ledger_Room.ro c_ledger_Room.mv = some c_ledger_Room := by kernel_rfl
theorem k_feluccaref09_Room : compF Try.prog 41 c_feluccaref09_Room.ro c_feluccaref09_Room.mv = some c_feluccaref09_Room := by kernel_rfl
theorem k_check_Contact : compF Try.prog 42 c_check_Contact.ro c_check_Contact.mv = some c_check_Contact := by kernel_rfl
theorem k_check_Volume : compF Try.prog 43 c_check_Volume.ro c_check_Volume.mv = some c_check_Volume := by kernel_rfl
theorem k_slices_Equal_Booked : compF Try.prog 48 c_slices_Equal_Booked.ro c_slices_Equal_Booked.mv = some c_slices_Equal_Booked := by kernel_rfl
theorem k_ledger_class : compF Try.prog 49 c_ledger_class.ro c_ledger_class.mv = some c_ledger_class := by kernel_rfl
theorem k_ledger_with : compF Try.prog 51 c_ledger_with.ro c_ledger_with.mv = some c_ledger_with := by kernel_rfl
theorem k_feluccaref09_class : compF Try.prog 52 c_feluccaref09_class.ro c_feluccaref09_class.mv = some c_feluccaref09_class := by kernel_rfl
theorem k_feluccaref09_with : compF Try.prog 53 c_feluccaref09_with.ro c_feluccaref09_with.mv = some c_feluccaref09_with := by kernel_rfl
theorem k_feluccaref03_Contact : compF Try.prog 54 c_feluccaref03_Contact.ro c_feluccaref03_Contact.mv = some c_feluccaref03_Contact := by kernel_rfl
theorem k_slices_DeleteFunc_Booked : compF Try.prog 55 c_slices_DeleteFunc_Booked.ro c_slices_DeleteFunc_Booked.mv = some c_slices_DeleteFunc_Booked := by kernel_rfl
theorem k_ledger_Drop_1 : compF Try.prog 56 c_ledger_Drop_1.ro c_ledger_Drop_1.mv = some c_ledger_Drop_1 := by kernel_rfl
theorem k_slices_Contains_int : compF Try.prog 57 c_slices_Contains_int.ro c_slices_Contains_int.mv = some c_slices_Contains_int := by kernel_rfl
theorem k_ledger_at : compF Try.prog 58 c_ledger_at.ro c_ledger_at.mv = some c_ledger_at := by kernel_rfl
theorem k_feluccaref03_Volume : compF Try.prog 59 c_feluccaref03_Volume.ro c_feluccaref03_Volume.mv = some c_feluccaref03_Volume := by kernel_rfl
theorem k_check_way : compF Try.prog 60 c_check_way.ro c_check_way.mv = some c_check_way := by kernel_rfl
theorem k_check_span : compF Try.prog 61 c_check_span.ro c_check_span.mv = some c_check_span := by kernel_rfl
theorem k_num_In : compF Try.prog 62 c_num_In.ro c_num_In.mv = some c_num_In := by kernel_rfl
theorem k_cmp_Or_int : compF Try.prog 63 c_cmp_Or_int.ro c_cmp_Or_int.mv = some c_cmp_Or_int := by kernel_rfl
theorem k_cmp_Compare_int : compF Try.prog 64 c_cmp_Compare_int.ro c_cmp_Compare_int.mv = some c_cmp_Compare_int := by kernel_rfl
theorem k_slices_Concat_Booked : compF Try.prog 65 c_slices_Concat_Booked.ro c_slices_Concat_Booked.mv = some c_slices_Concat_Booked := by kernel_rfl
theorem k_feluccaref03_pair : compF Try.prog 66 c_feluccaref03_pair.ro c_feluccaref03_pair.mv = some c_feluccaref03_pair := by kernel_rfl
theorem k_slices_IndexFunc_Booked : compF Try.prog 67 c_slices_IndexFunc_Booked.ro c_slices_IndexFunc_Booked.mv = some c_slices_IndexFunc_Booked := by kernel_rfl
theorem k_slices_Index_int : compF Try.prog 68 c_slices_Index_int.ro c_slices_Index_int.mv = some c_slices_Index_int := by kernel_rfl
theorem k_slices_BinarySearchFunc_Booked : compF Try.prog 69 c_slices_BinarySearchFunc_Booked.ro c_slices_BinarySearchFunc_Booked.mv = some c_slices_BinarySearchFunc_Booked := by kernel_rfl
theorem k_ledger_at_1 : compF Try.prog 70 c_ledger_at_1.ro c_ledger_at_1.mv = some c_ledger_at_1 := by kernel_rfl
theorem k_check_Node : compF Try.prog 71 c_check_Node.ro c_check_Node.mv = some c_check_Node := by kernel_rfl
theorem k_cmp_isNaN_int : compF Try.prog 72 c_cmp_isNaN_int.ro c_cmp_isNaN_int.mv = some c_cmp_isNaN_int := by kernel_rfl
theorem k_slices_Grow_Booked : compF Try.prog 73 c_slices_Grow_Booked.ro c_slices_Grow_Booked.mv = some c_slices_Grow_Booked := by kernel_rfl
theorem k_feluccaref03_Node : compF Try.prog 74 c_feluccaref03_Node.ro c_feluccaref03_Node.mv = some c_feluccaref03_Node := by kernel_rfl
theorem k_feluccalaw09_small : compF Try.prog 24 c_feluccalaw09_small.ro c_feluccalaw09_small.mv = some c_feluccalaw09_small := by kernel_rfl
theorem k_feluccalaw09_LedgerTells : compF Try.prog 7 c_feluccalaw09_LedgerTells.ro c_feluccalaw09_LedgerTells.mv = some c_feluccalaw09_LedgerTells := by kernel_rfl
theorem known : Known Try.prog Γ := by
  intro f fd h
  unfold Γ at h
  split at h
  · cases h; exact k_ledger_Right
  · cases h; exact k_feluccaref09_Right
  · cases h; exact k_ledger_Same
  · cases h; exact k_feluccaref09_Same
  · cases h; exact k_feluccaref09_Copy
  · cases h; exact k_ledger_Release
  · cases h; exact k_feluccaref09_Release
  · cases h; exact k_ledger_Book
  · cases h; exact k_feluccaref09_Book
  · cases h; exact k_ledger_Drop
  · cases h; exact k_feluccaref09_Drop
  · cases h; exact k_ledger_Used
  · cases h; exact k_feluccaref09_Used
  · cases h; exact k_ledger_Backlog
  · cases h; exact k_feluccaref09_Backlog
  · cases h; exact k_ledger_Room
  · cases h; exact k_feluccaref09_Room
  · cases h; exact k_check_Contact
  · cases h; exact k_check_Volume
  · cases h; exact k_slices_Equal_Booked
  · cases h; exact k_ledger_class
  · cases h; exact k_ledger_with
  · cases h; exact k_feluccaref09_class
  · cases h; exact k_feluccaref09_with
  · cases h; exact k_feluccaref03_Contact
  · cases h; exact k_slices_DeleteFunc_Booked
  · cases h; exact k_ledger_Drop_1
  · cases h; exact k_slices_Contains_int
  · cases h; exact k_ledger_at
  · cases h; exact k_feluccaref03_Volume
  · cases h; exact k_check_way
  · cases h; exact k_check_span
  · cases h; exact k_num_In
  · cases h; exact k_cmp_Or_int
  · cases h; exact k_cmp_Compare_int
  · cases h; exact k_slices_Concat_Booked
  · cases h; exact k_feluccaref03_pair
  · cases h; exact k_slices_IndexFunc_Booked
  · cases h; exact k_slices_Index_int
  · cases h; exact k_slices_BinarySearchFunc_Booked
  · cases h; exact k_ledger_at_1
  · cases h; exact k_check_Node
  · cases h; exact k_cmp_isNaN_int
  · cases h; exact k_slices_Grow_Booked
  · cases h; exact k_feluccaref03_Node
  · cases h; exact k_feluccalaw09_small
  · cases h; exact k_feluccalaw09_LedgerTells
  · cases h; exact clone_known
  · cases h
/-- A row of the ledger, as an argument. -/
theorem arg_led {d : D} (h : HasArg Try.prog 20 41 d) : ∃ l : List Bk, d = .slice .no 4 (l.map Bk.e) ∧ ∀ b ∈ l, I64 b.id := by
  obtain ⟨xs, rfl, hx⟩ := arg_sl (e := [.int .i64, .int .i64, .int .i64, .int .i64]) h (by kernel_rfl) (by kernel_rfl)
  obtain ⟨l, rfl, hl⟩ := choose_list (e := Bk.e) (p := fun b => I64 b.id) xs (fun x hx' => by
    obtain ⟨cs, rfl, hs⟩ := hx x hx'
    obtain ⟨a, _, rfl, ha, hs⟩ := shs_int hs
    obtain ⟨b, _, rfl, hb, hs⟩ := shs_int hs
    obtain ⟨c, _, rfl, hc, hs⟩ := shs_int hs
    obtain ⟨e, _, rfl, he, hs⟩ := shs_int hs
    rw [shs_nil hs]
    exact ⟨⟨a, b, c, e⟩, rfl, ha⟩)
  exact ⟨l, rfl, hl⟩
theorem arg_con {d : D} (h : HasArg Try.prog 20 47 d) : ∃ c : Co, d = c.e ∧ I64 c.id ∧ I64 c.en := by
  obtain ⟨cs, rfl, hs⟩ := arg_agg (s := [.int .i64, .int .i64, .int .i64, .int .i64, .int .i64, .int .i64]) h (by kernel_rfl) (by kernel_rfl)
  obtain ⟨a, _, rfl, ha, hs⟩ := shs_int hs
  obtain ⟨b, _, rfl, hb, hs⟩ := shs_int hs
  obtain ⟨c, _, rfl, hc, hs⟩ := shs_int hs
  obtain ⟨e, _, rfl, he, hs⟩ := shs_int hs
  obtain ⟨f, _, rfl, hf, hs⟩ := shs_int hs
  obtain ⟨g, _, rfl, hg, hs⟩ := shs_int hs
  rw [shs_nil hs]
  exact ⟨⟨a, b, c, e, f, g⟩, rfl, ha, hf⟩
end Go.Proofs.Ytbmhgigljbikhaa
