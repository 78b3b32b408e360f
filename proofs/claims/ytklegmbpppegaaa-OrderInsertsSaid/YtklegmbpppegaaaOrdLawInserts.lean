/-
  What is inserted one by one, as many as are kept, is what is sorted, and its first ones: the row OrderInserts, over any routes, how many.
-/
import Derived.Test.YtklegmbpppegaaaOrdOrdK
import Derived.Test.YtklegmbpppegaaaOrdOrdSk
set_option linter.unusedVariables false
set_option linter.unusedSimpArgs false
set_option linter.unnecessarySimpa false
namespace Go.Proofs.Ytklegmbpppegaaa
open Go.ChangeShapes Go.WideShapes Go.ChangeAt Go.RowKit Go.Ev Go.Ord
namespace OInserts
theorem law_runs : ∀ Ds, HasArgs Try.prog 20 Try.f6.params.toList Ds → ∃ N, callP Γ N 6 Ds = some (.bool true) := by
  intro Ds h
  rw [show Try.f6.params.toList = [22, 3] from rfl] at h
  obtain ⟨d1, _, rfl, h1, d2, _, rfl, h2, h⟩ := h
  obtain ⟨l, rfl⟩ := arg_rts h1
  obtain ⟨m, rfl, _⟩ := arg_int h2 (by kernel_rfl) (by kernel_rfl)
  have h' : _ = [] := h
  subst h'
  exact (run_Inserts l m _ _ (.inl rfl)).get
set_option maxRecDepth 100000 in
theorem f_lifted (os : Os) (started : os.Started) (H : Type) (enc : TypeId × Value → H) :
    ReturnsInHanded {} Try.checked os 6 .any (Rows.orderInsertsSpec.pre6 enc Try.prog Try.f6 Rows.orderInsertsRow.domain false) (Rows.orderInsertsSpec.post enc Try.prog Try.f6 false true false false) := by
  refine returnsInHanded_of_change (C := Try.checked) Try.own started (by kernel_rfl) Try.func6
    (ChangeSpec.witness6 (enc := enc) (C := Try.checked) false ⟨#[], #[.slice none 0 0, .int .i64 0], []⟩ 8 (by kernel_rfl) (by kernel_rfl) (by kernel_rfl) (by kernel_rfl)) ?_
  intro W base args ds gs before hval0 hW hcnd _
  have hval : ∀ (j : Nat) t v, Try.f6.params[j]? = some t → args[j]? = some v → Value.okWide Try.prog W .any base t v := hval0
  have hW' := hW
  obtain ⟨p, q, hA, hV, rfl, hfz, hnd⟩ := hW
  obtain ⟨rfl, rfl⟩ := trodVars_none hV
  have hAn := hA
  rw [Try.params6] at hAn
  have hds : ∃ d1 d2, ds = [d1, d2] := by
    obtain ⟨_, _, d1, ds1, _, _, _, rfl, _, _, hAn⟩ := trodAll_cons hAn
    obtain ⟨_, _, d2, ds2, _, _, _, rfl, _, _, hAn⟩ := trodAll_cons hAn
    obtain ⟨_, rfl, _⟩ := trodAll_nil hAn
    exact ⟨_, _, rfl⟩
  obtain ⟨d1, d2, rfl⟩ := hds
  refine (law_calls (n := 20) (base := base) known Try.mixed (by kernel_rfl) hA (fun j t v h1 h2 => hval j t v (by simpa using h1) (by simpa using h2)) law_runs).mono fun e W' ⟨he, hb⟩ => ?_
  subst he
  exact ⟨_, rfl, law_post Try.laidOut (by kernel_rfl) rfl (by kernel_rfl) Try.underlying4 hW' rfl rfl rfl hb⟩
theorem holds : Rows.OrderInsertsSaid :=
  OpenClaim.holds_of_wide 6 Try.f6 rfl rfl rfl rfl rfl rfl rfl ⟨rfl, rfl, rfl, rfl, rfl⟩ rfl rfl rfl rfl rfl (by kernel_rfl) Try.func6 (by kernel_rfl)
    (of_decide_eq_true (by kernel_rfl)) (by unfold Func.isWrapper; first | (rw [if_pos (by decide +kernel)]; kernel_rfl) | (rw [if_neg (by decide +kernel)]; exact ⟨rfl, rfl⟩))
    (fun os started H enc _ => f_lifted os started H enc)
end OInserts
end Go.Proofs.Ytklegmbpppegaaa
