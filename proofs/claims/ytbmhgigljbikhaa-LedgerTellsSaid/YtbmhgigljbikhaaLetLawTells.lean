/-
  What becomes of a ledger, act by act, and what it tells, is the document's: the row LedgerTells, over any ledger, any acts, any IDs, and any other ledger.
-/
import Derived.Test.YtbmhgigljbikhaaLetLedK
import Derived.Test.YtbmhgigljbikhaaLetLetN
set_option linter.unusedVariables false
set_option linter.unusedSimpArgs false
set_option linter.unnecessarySimpa false
namespace Go.Proofs.Ytbmhgigljbikhaa
open Go.ChangeShapes Go.WideShapes Go.ChangeAt Go.RowKit Go.Ev Go.Let
namespace Tells
theorem arg_acts {d : D} (h : HasArg Try.prog 20 42 d) : ∃ l : List Ac, d = .slice .no 9 (l.map Ac.e) ∧ ∀ a ∈ l, I64 a.c.en := by
  obtain ⟨xs, rfl, hx⟩ := arg_sl (e := [.int .i64, .int .i64, .int .i64, .int .i64, .int .i64, .int .i64, .int .i64, .int .i64, .int .i64]) h (by kernel_rfl) (by kernel_rfl)
  obtain ⟨l, rfl, hl⟩ := choose_list (e := Ac.e) (p := fun a => I64 a.c.en) xs (fun x hx' => by
    obtain ⟨cs, rfl, hs⟩ := hx x hx'
    obtain ⟨a1, _, rfl, _, hs⟩ := shs_int hs
    obtain ⟨a2, _, rfl, _, hs⟩ := shs_int hs
    obtain ⟨a3, _, rfl, _, hs⟩ := shs_int hs
    obtain ⟨a4, _, rfl, _, hs⟩ := shs_int hs
    obtain ⟨a5, _, rfl, _, hs⟩ := shs_int hs
    obtain ⟨a6, _, rfl, h6, hs⟩ := shs_int hs
    obtain ⟨a7, _, rfl, _, hs⟩ := shs_int hs
    obtain ⟨a8, _, rfl, _, hs⟩ := shs_int hs
    obtain ⟨a9, _, rfl, _, hs⟩ := shs_int hs
    rw [shs_nil hs]
    exact ⟨⟨a1, ⟨a2, a3, a4, a5, a6, a7⟩, a8, a9⟩, rfl, h6⟩)
  exact ⟨l, rfl, hl⟩
theorem law_runs : ∀ Ds, HasArgs Try.prog 20 Try.f7.params.toList Ds → ∃ N, callP Γ N 7 Ds = some (.bool true) := by
  intro Ds h
  rw [show Try.f7.params.toList = [41, 42, 43, 41] from rfl] at h
  obtain ⟨d1, _, rfl, h1, d2, _, rfl, h2, d3, _, rfl, h3, d4, _, rfl, h4, h⟩ := h
  obtain ⟨l, rfl, _⟩ := arg_led h1
  obtain ⟨acts, rfl, ha⟩ := arg_acts h2
  obtain ⟨ids, rfl, _⟩ := arg_sli h3 (by kernel_rfl) (by kernel_rfl)
  obtain ⟨o, rfl, _⟩ := arg_led h4
  have h' : _ = [] := h
  subst h'
  exact (run_Tells l acts ids o ha).get
set_option maxRecDepth 100000 in
theorem f_lifted (os : Os) (started : os.Started) (H : Type) (enc : TypeId × Value → H) :
    ReturnsInHanded {} Try.checked os 7 .any (Rows.ledgerTellsSpec.pre6 enc Try.prog Try.f7 Rows.ledgerTellsRow.domain false) (Rows.ledgerTellsSpec.post enc Try.prog Try.f7 false true false false) := by
  refine returnsInHanded_of_change (C := Try.checked) Try.own started (by kernel_rfl) Try.func7
    (ChangeSpec.witness6 (enc := enc) (C := Try.checked) false ⟨#[], #[.slice none 0 0, .slice none 0 0, .slice none 0 0, .slice none 0 0], []⟩ 8 (by kernel_rfl) (by kernel_rfl) (by kernel_rfl) (by kernel_rfl)) ?_
  intro W base args ds gs before hval0 hW hcnd _
  have hval : ∀ (j : Nat) t v, Try.f7.params[j]? = some t → args[j]? = some v → Value.okWide Try.prog W .any base t v := hval0
  have hW' := hW
  obtain ⟨p, q, hA, hV, rfl, hfz, hnd⟩ := hW
  obtain ⟨rfl, rfl⟩ := trodVars_none hV
  have hAn := hA
  rw [Try.params7] at hAn
  have hds : ∃ d1 d2 d3 d4, ds = [d1, d2, d3, d4] := by
    obtain ⟨_, _, d1, ds1, _, _, _, rfl, _, _, hAn⟩ := trodAll_cons hAn
    obtain ⟨_, _, d2, ds2, _, _, _, rfl, _, _, hAn⟩ := trodAll_cons hAn
    obtain ⟨_, _, d3, ds3, _, _, _, rfl, _, _, hAn⟩ := trodAll_cons hAn
    obtain ⟨_, _, d4, ds4, _, _, _, rfl, _, _, hAn⟩ := trodAll_cons hAn
    obtain ⟨_, rfl, _⟩ := trodAll_nil hAn
    exact ⟨_, _, _, _, rfl⟩
  obtain ⟨d1, d2, d3, d4, rfl⟩ := hds
  refine (law_calls (n := 20) (base := base) known Try.mixed (by kernel_rfl) hA (fun j t v h1 h2 => hval j t v (by simpa using h1) (by simpa using h2)) law_runs).mono fun e W' ⟨he, hb⟩ => ?_
  subst he
  exact ⟨_, rfl, law_post Try.laidOut (by kernel_rfl) rfl (by kernel_rfl) Try.underlying4 hW' rfl rfl rfl hb⟩
theorem holds : Rows.LedgerTellsSaid :=
  OpenClaim.holds_of_wide 7 Try.f7 rfl rfl rfl rfl rfl rfl rfl ⟨rfl, rfl, rfl, rfl, rfl⟩ rfl rfl rfl rfl rfl (by kernel_rfl) Try.func7 (by kernel_rfl)
    (of_decide_eq_true (by kernel_rfl)) (by unfold Func.isWrapper; first | (rw [if_pos (by decide +kernel)]; kernel_rfl) | (rw [if_neg (by decide +kernel)]; exact ⟨rfl, rfl⟩))
    (fun os started H enc _ => f_lifted os started H enc)
end Tells
end Go.Proofs.Ytbmhgigljbikhaa
