/-
  What is told, call by call: the row HeapTells, over any ones at first, and any calls.
-/
import Derived.Test.YtbmhgigljbikhaaHeaHeaK
import Derived.Test.YtbmhgigljbikhaaHeaHeaN
set_option linter.unusedVariables false
set_option linter.unusedSimpArgs false
set_option linter.unnecessarySimpa false
namespace Go.Proofs.Ytbmhgigljbikhaa
open Go.ChangeShapes Go.WideShapes Go.ChangeAt Go.RowKit Go.Ev Go.Hea
namespace HTells
theorem arg_cts {d : D} (h : HasArg Try.prog 20 23 d) : ∃ l : List Ct, d = .slice .no 3 (l.map Ct.e) := by
  obtain ⟨xs, rfl, hx⟩ := arg_sl (e := [.int .i64, .int .i64, .int .i64]) h (by kernel_rfl) (by kernel_rfl)
  obtain ⟨l, rfl, hl⟩ := choose_list (e := Ct.e) (p := fun b => True) xs (fun x hx' => by
    obtain ⟨cs, rfl, hs⟩ := hx x hx'
    obtain ⟨a, _, rfl, ha, hs⟩ := shs_int hs
    obtain ⟨b, _, rfl, hb, hs⟩ := shs_int hs
    obtain ⟨c, _, rfl, hc, hs⟩ := shs_int hs
    rw [shs_nil hs]
    exact ⟨⟨a, ⟨b, c⟩⟩, rfl, trivial⟩)
  exact ⟨l, rfl⟩
theorem law_runs : ∀ Ds, HasArgs Try.prog 20 Try.f3.params.toList Ds → ∃ N, callP Γ N 3 Ds = some (.bool true) := by
  intro Ds h
  rw [show Try.f3.params.toList = [22, 23] from rfl] at h
  obtain ⟨d1, _, rfl, h1, d2, _, rfl, h2, h⟩ := h
  obtain ⟨l, rfl⟩ := arg_rds h1
  obtain ⟨r, rfl⟩ := arg_cts h2
  have h' : _ = [] := h
  subst h'
  exact (run_Tells l r).get
set_option maxRecDepth 100000 in
theorem f_lifted (os : Os) (started : os.Started) (H : Type) (enc : TypeId × Value → H) :
    ReturnsInHanded {} Try.checked os 3 .any (Rows.heapTellsSpec.pre6 enc Try.prog Try.f3 Rows.heapTellsRow.domain false) (Rows.heapTellsSpec.post enc Try.prog Try.f3 false true false false) := by
  refine returnsInHanded_of_change (C := Try.checked) Try.own started (by kernel_rfl) Try.func3
    (ChangeSpec.witness6 (enc := enc) (C := Try.checked) false ⟨#[], #[.slice none 0 0, .slice none 0 0], []⟩ 8 (by kernel_rfl) (by kernel_rfl) (by kernel_rfl) (by kernel_rfl)) ?_
  intro W base args ds gs before hval0 hW hcnd _
  have hval : ∀ (j : Nat) t v, Try.f3.params[j]? = some t → args[j]? = some v → Value.okWide Try.prog W .any base t v := hval0
  have hW' := hW
  obtain ⟨p, q, hA, hV, rfl, hfz, hnd⟩ := hW
  obtain ⟨rfl, rfl⟩ := trodVars_none hV
  have hAn := hA
  rw [Try.params3] at hAn
  have hds : ∃ d1 d2, ds = [d1, d2] := by
    obtain ⟨_, _, d1, ds1, _, _, _, rfl, _, _, hAn⟩ := trodAll_cons hAn
    obtain ⟨_, _, d2, ds2, _, _, _, rfl, _, _, hAn⟩ := trodAll_cons hAn
    obtain ⟨_, rfl, _⟩ := trodAll_nil hAn
    exact ⟨_, _, rfl⟩
  obtain ⟨d1, d2, rfl⟩ := hds
  refine (law_calls (n := 20) (base := base) known Try.mixed (by kernel_rfl) hA (fun j t v h1 h2 => hval j t v (by simpa using h1) (by simpa using h2)) law_runs).mono fun e W' ⟨he, hb⟩ => ?_
  subst he
  exact ⟨_, rfl, law_post Try.laidOut (by kernel_rfl) rfl (by kernel_rfl) Try.underlying4 hW' rfl rfl rfl hb⟩
theorem holds : Rows.HeapTellsSaid :=
  OpenClaim.holds_of_wide 3 Try.f3 rfl rfl rfl rfl rfl rfl rfl ⟨rfl, rfl, rfl, rfl, rfl⟩ rfl rfl rfl rfl rfl (by kernel_rfl) Try.func3 (by kernel_rfl)
    (of_decide_eq_true (by kernel_rfl)) (by unfold Func.isWrapper; first | (rw [if_pos (by decide +kernel)]; kernel_rfl) | (rw [if_neg (by decide +kernel)]; exact ⟨rfl, rfl⟩))
    (fun os started H enc _ => f_lifted os started H enc)
end HTells
end Go.Proofs.Ytbmhgigljbikhaa
