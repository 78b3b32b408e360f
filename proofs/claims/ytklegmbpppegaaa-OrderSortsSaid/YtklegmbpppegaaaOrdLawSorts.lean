/-
  What is sorted is in order, has one route of each place, and is sorted again the same: the row OrderSorts, over any routes.
-/
import Derived.Test.YtklegmbpppegaaaOrdOrdK
import Derived.Test.YtklegmbpppegaaaOrdOrdSh
set_option linter.unusedVariables false
set_option linter.unusedSimpArgs false
set_option linter.unnecessarySimpa false
namespace Go.Proofs.Ytklegmbpppegaaa
open Go.ChangeShapes Go.WideShapes Go.ChangeAt Go.RowKit Go.Ev Go.Ord
namespace OSorts
theorem law_runs : ∀ Ds, HasArgs Try.prog 20 Try.f4.params.toList Ds → ∃ N, callP Γ N 4 Ds = some (.bool true) := by
  intro Ds h
  rw [show Try.f4.params.toList = [22] from rfl] at h
  obtain ⟨d1, _, rfl, h1, h⟩ := h
  obtain ⟨l, rfl⟩ := arg_rts h1
  have h' : _ = [] := h
  subst h'
  exact (run_Sorts l _ _ (.inl rfl)).get
set_option maxRecDepth 100000 in
theorem f_lifted (os : Os) (started : os.Started) (H : Type) (enc : TypeId × Value → H) :
    ReturnsInHanded {} Try.checked os 4 .any (Rows.orderSortsSpec.pre6 enc Try.prog Try.f4 Rows.orderSortsRow.domain false) (Rows.orderSortsSpec.post enc Try.prog Try.f4 false true false false) := by
  refine returnsInHanded_of_change (C := Try.checked) Try.own started (by kernel_rfl) Try.func4
    (ChangeSpec.witness6 (enc := enc) (C := Try.checked) false ⟨#[], #[.slice none 0 0], []⟩ 8 (by kernel_rfl) (by kernel_rfl) (by kernel_rfl) (by kernel_rfl)) ?_
  intro W base args ds gs before hval0 hW hcnd _
  have hval : ∀ (j : Nat) t v, Try.f4.params[j]? = some t → args[j]? = some v → Value.okWide Try.prog W .any base t v := hval0
  have hW' := hW
  obtain ⟨p, q, hA, hV, rfl, hfz, hnd⟩ := hW
  obtain ⟨rfl, rfl⟩ := trodVars_none hV
  have hAn := hA
  rw [Try.params4] at hAn
  have hds : ∃ d1, ds = [d1] := by
    obtain ⟨_, _, d1, ds1, _, _, _, rfl, _, _, hAn⟩ := trodAll_cons hAn
    obtain ⟨_, rfl, _⟩ := trodAll_nil hAn
    exact ⟨_, rfl⟩
  obtain ⟨d1, rfl⟩ := hds
  refine (law_calls (n := 20) (base := base) known Try.mixed (by kernel_rfl) hA (fun j t v h1 h2 => hval j t v (by simpa using h1) (by simpa using h2)) law_runs).mono fun e W' ⟨he, hb⟩ => ?_
  subst he
  exact ⟨_, rfl, law_post Try.laidOut (by kernel_rfl) rfl (by kernel_rfl) Try.underlying4 hW' rfl rfl rfl hb⟩
theorem holds : Rows.OrderSortsSaid :=
  OpenClaim.holds_of_wide 4 Try.f4 rfl rfl rfl rfl rfl rfl rfl ⟨rfl, rfl, rfl, rfl, rfl⟩ rfl rfl rfl rfl rfl (by kernel_rfl) Try.func4 (by kernel_rfl)
    (of_decide_eq_true (by kernel_rfl)) (by unfold Func.isWrapper; first | (rw [if_pos (by decide +kernel)]; kernel_rfl) | (rw [if_neg (by decide +kernel)]; exact ⟨rfl, rfl⟩))
    (fun os started H enc _ => f_lifted os started H enc)
end OSorts
end Go.Proofs.Ytklegmbpppegaaa
