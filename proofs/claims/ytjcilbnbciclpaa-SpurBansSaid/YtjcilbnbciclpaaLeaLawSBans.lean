/-
  With more bans there is no better way on, and without those that it goes by it is the same: the row SpurBans, over any edges, any root, any two rows of bans, any ends, any times, and any size.
-/
import Derived.Test.YtjcilbnbciclpaaLeaLeaP
import Derived.Test.YtjcilbnbciclpaaLeaLeaSg
set_option linter.unusedVariables false
set_option linter.unusedSimpArgs false
set_option linter.unnecessarySimpa false
namespace Go.Proofs.Ytjcilbnbciclpaa
open Go.ChangeShapes Go.WideShapes Go.ChangeAt Go.RowKit Go.Ev Go.Lea
namespace SBans
theorem arg_egs {d : D} (h : HasArg Try.prog 20 22 d) : ∃ l : List Eg, d = .slice .no 8 (l.map Eg.e) := by
  obtain ⟨xs, rfl, hx⟩ := arg_sl (e := [.int .i64, .int .i64, .int .i64, .int .i64, .int .i64, .int .i64, .int .i64, .int .i64]) h (by kernel_rfl) (by kernel_rfl)
  obtain ⟨l, rfl, hl⟩ := choose_list (e := Eg.e) (p := fun b => True) xs (fun x hx' => by
    obtain ⟨cs, rfl, hs⟩ := hx x hx'
    obtain ⟨a, _, rfl, ha, hs⟩ := shs_int hs
    obtain ⟨b, _, rfl, hb, hs⟩ := shs_int hs
    obtain ⟨c, _, rfl, hc, hs⟩ := shs_int hs
    obtain ⟨d, _, rfl, hd, hs⟩ := shs_int hs
    obtain ⟨e, _, rfl, he, hs⟩ := shs_int hs
    obtain ⟨f, _, rfl, hf, hs⟩ := shs_int hs
    obtain ⟨g, _, rfl, hg, hs⟩ := shs_int hs
    obtain ⟨i, _, rfl, hi, hs⟩ := shs_int hs
    rw [shs_nil hs]
    exact ⟨⟨a, b, c, d, e, f, g, i⟩, rfl, trivial⟩)
  exact ⟨l, rfl⟩
theorem law_runs : ∀ Ds, HasArgs Try.prog 20 Try.f9.params.toList Ds → ∃ N, callP Γ2 N 9 Ds = some (.bool true) := by
  intro Ds h
  rw [show Try.f9.params.toList = [22, 23, 23, 23, 3, 3, 3, 3, 3] from rfl] at h
  obtain ⟨d1, _, rfl, h1, d2, _, rfl, h2, d3, _, rfl, h3, d4, _, rfl, h4, d5, _, rfl, h5, d6, _, rfl, h6, d7, _, rfl, h7, d8, _, rfl, h8, d9, _, rfl, h9, h⟩ := h
  obtain ⟨x1, rfl⟩ := arg_egs h1
  obtain ⟨x2, rfl, _⟩ := arg_sli h2 (by kernel_rfl) (by kernel_rfl)
  obtain ⟨x3, rfl, _⟩ := arg_sli h3 (by kernel_rfl) (by kernel_rfl)
  obtain ⟨x4, rfl, _⟩ := arg_sli h4 (by kernel_rfl) (by kernel_rfl)
  obtain ⟨x5, rfl, _⟩ := arg_int h5 (by kernel_rfl) (by kernel_rfl)
  obtain ⟨x6, rfl, _⟩ := arg_int h6 (by kernel_rfl) (by kernel_rfl)
  obtain ⟨x7, rfl, _⟩ := arg_int h7 (by kernel_rfl) (by kernel_rfl)
  obtain ⟨x8, rfl, _⟩ := arg_int h8 (by kernel_rfl) (by kernel_rfl)
  obtain ⟨x9, rfl, _⟩ := arg_int h9 (by kernel_rfl) (by kernel_rfl)
  have h' : _ = [] := h
  subst h'
  exact (run_SBans x1 x2 x3 x4 x5 x6 x7 x8 x9).get
set_option maxRecDepth 100000 in
theorem f_lifted (os : Os) (started : os.Started) (H : Type) (enc : TypeId × Value → H) :
    ReturnsInHanded {} Try.checked os 9 .any (Rows.spurBansSpec.pre6 enc Try.prog Try.f9 Rows.spurBansRow.domain false) (Rows.spurBansSpec.post enc Try.prog Try.f9 false true false false) := by
  refine returnsInHanded_of_change (C := Try.checked) Try.own started (by kernel_rfl) Try.func9
    (ChangeSpec.witness6 (enc := enc) (C := Try.checked) false ⟨#[], #[.slice none 0 0, .slice none 0 0, .slice none 0 0, .slice none 0 0, .int .i64 0, .int .i64 0, .int .i64 0, .int .i64 0, .int .i64 0], []⟩ 8 (by kernel_rfl) (by kernel_rfl) (by kernel_rfl) (by kernel_rfl)) ?_
  intro W base args ds gs before hval0 hW hcnd _
  have hval : ∀ (j : Nat) t v, Try.f9.params[j]? = some t → args[j]? = some v → Value.okWide Try.prog W .any base t v := hval0
  have hW' := hW
  obtain ⟨p, q, hA, hV, rfl, hfz, hnd⟩ := hW
  obtain ⟨rfl, rfl⟩ := trodVars_none hV
  have hAn := hA
  rw [Try.params9] at hAn
  have hds : ∃ d1 d2 d3 d4 d5 d6 d7 d8 d9, ds = [d1, d2, d3, d4, d5, d6, d7, d8, d9] := by
    obtain ⟨_, _, d1, ds1, _, _, _, rfl, _, _, hAn⟩ := trodAll_cons hAn
    obtain ⟨_, _, d2, ds2, _, _, _, rfl, _, _, hAn⟩ := trodAll_cons hAn
    obtain ⟨_, _, d3, ds3, _, _, _, rfl, _, _, hAn⟩ := trodAll_cons hAn
    obtain ⟨_, _, d4, ds4, _, _, _, rfl, _, _, hAn⟩ := trodAll_cons hAn
    obtain ⟨_, _, d5, ds5, _, _, _, rfl, _, _, hAn⟩ := trodAll_cons hAn
    obtain ⟨_, _, d6, ds6, _, _, _, rfl, _, _, hAn⟩ := trodAll_cons hAn
    obtain ⟨_, _, d7, ds7, _, _, _, rfl, _, _, hAn⟩ := trodAll_cons hAn
    obtain ⟨_, _, d8, ds8, _, _, _, rfl, _, _, hAn⟩ := trodAll_cons hAn
    obtain ⟨_, _, d9, ds9, _, _, _, rfl, _, _, hAn⟩ := trodAll_cons hAn
    obtain ⟨_, rfl, _⟩ := trodAll_nil hAn
    exact ⟨_, _, _, _, _, _, _, _, _, rfl⟩
  obtain ⟨d1, d2, d3, d4, d5, d6, d7, d8, d9, rfl⟩ := hds
  refine (law_calls (n := 20) (base := base) known Try.mixed (by kernel_rfl) hA (fun j t v h1 h2 => hval j t v (by simpa using h1) (by simpa using h2)) law_runs).mono fun e W' ⟨he, hb⟩ => ?_
  subst he
  exact ⟨_, rfl, law_post Try.laidOut (by kernel_rfl) rfl (by kernel_rfl) Try.underlying4 hW' rfl rfl rfl hb⟩
theorem holds : Rows.SpurBansSaid :=
  OpenClaim.holds_of_wide 9 Try.f9 rfl rfl rfl rfl rfl rfl rfl ⟨rfl, rfl, rfl, rfl, rfl⟩ rfl rfl rfl rfl rfl (by kernel_rfl) Try.func9 (by kernel_rfl)
    (of_decide_eq_true (by kernel_rfl)) (by unfold Func.isWrapper; first | (rw [if_pos (by decide +kernel)]; kernel_rfl) | (rw [if_neg (by decide +kernel)]; exact ⟨rfl, rfl⟩))
    (fun os started H enc _ => f_lifted os started H enc)
end SBans
end Go.Proofs.Ytjcilbnbciclpaa
