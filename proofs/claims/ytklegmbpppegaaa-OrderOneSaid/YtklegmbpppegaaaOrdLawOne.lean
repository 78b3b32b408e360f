/-
  The order is one, of two routes one is ahead just if the other one is behind: the row OrderOne, over any three routes.
-/
import Derived.Test.YtklegmbpppegaaaOrdOrdK
set_option linter.unusedVariables false
set_option linter.unusedSimpArgs false
set_option linter.unnecessarySimpa false
namespace Go.Proofs.Ytklegmbpppegaaa
open Go.ChangeShapes Go.WideShapes Go.ChangeAt Go.RowKit Go.Ev Go.Ord
namespace OOne
theorem law_runs : ∀ Ds, HasArgs Try.prog 20 Try.f5.params.toList Ds → ∃ N, callP Γ N 5 Ds = some (.bool true) := by
  intro Ds h
  rw [show Try.f5.params.toList = [25, 25, 25] from rfl] at h
  obtain ⟨d1, _, rfl, h1, d2, _, rfl, h2, d3, _, rfl, h3, h⟩ := h
  obtain ⟨a, rfl⟩ := arg_rt h1
  obtain ⟨b, rfl⟩ := arg_rt h2
  obtain ⟨c, rfl⟩ := arg_rt h3
  have h' : _ = [] := h
  subst h'
  exact (run_One a b c).get
set_option maxRecDepth 100000 in
theorem f_lifted (os : Os) (started : os.Started) (H : Type) (enc : TypeId × Value → H) :
    ReturnsInHanded {} Try.checked os 5 .any (Rows.orderOneSpec.pre6 enc Try.prog Try.f5 Rows.orderOneRow.domain false) (Rows.orderOneSpec.post enc Try.prog Try.f5 false true false false) := by
  refine returnsInHanded_of_change (C := Try.checked) Try.own started (by kernel_rfl) Try.func5
    (ChangeSpec.witness6 (enc := enc) (C := Try.checked) false ⟨#[], #[.agg #[.slice none 0 0, .int .i64 0], .agg #[.slice none 0 0, .int .i64 0], .agg #[.slice none 0 0, .int .i64 0]], []⟩ 8 (by kernel_rfl) (by kernel_rfl) (by kernel_rfl) (by kernel_rfl)) ?_
  intro W base args ds gs before hval0 hW hcnd _
  have hval : ∀ (j : Nat) t v, Try.f5.params[j]? = some t → args[j]? = some v → Value.okWide Try.prog W .any base t v := hval0
  have hW' := hW
  obtain ⟨p, q, hA, hV, rfl, hfz, hnd⟩ := hW
  obtain ⟨rfl, rfl⟩ := trodVars_none hV
  have hAn := hA
  rw [Try.params5] at hAn
  have hds : ∃ d1 d2 d3, ds = [d1, d2, d3] := by
    obtain ⟨_, _, d1, ds1, _, _, _, rfl, _, _, hAn⟩ := trodAll_cons hAn
    obtain ⟨_, _, d2, ds2, _, _, _, rfl, _, _, hAn⟩ := trodAll_cons hAn
    obtain ⟨_, _, d3, ds3, _, _, _, rfl, _, _, hAn⟩ := trodAll_cons hAn
    obtain ⟨_, rfl, _⟩ := trodAll_nil hAn
    exact ⟨_, _, _, rfl⟩
  obtain ⟨d1, d2, d3, rfl⟩ := hds
  refine (law_calls (n := 20) (base := base) known Try.mixed (by kernel_rfl) hA (fun j t v h1 h2 => hval j t v (by simpa using h1) (by simpa using h2)) law_runs).mono fun e W' ⟨he, hb⟩ => ?_
  subst he
  exact ⟨_, rfl, law_post Try.laidOut (by kernel_rfl) rfl (by kernel_rfl) Try.underlying4 hW' rfl rfl rfl hb⟩
theorem holds : Rows.OrderOneSaid :=
  OpenClaim.holds_of_wide 5 Try.f5 rfl rfl rfl rfl rfl rfl rfl ⟨rfl, rfl, rfl, rfl, rfl⟩ rfl rfl rfl rfl rfl (by kernel_rfl) Try.func5 (by kernel_rfl)
    (of_decide_eq_true (by kernel_rfl)) (by unfold Func.isWrapper; first | (rw [if_pos (by decide +kernel)]; kernel_rfl) | (rw [if_neg (by decide +kernel)]; exact ⟨rfl, rfl⟩))
    (fun os started H enc _ => f_lifted os started H enc)
end OOne
end Go.Proofs.Ytklegmbpppegaaa
