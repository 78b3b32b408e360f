/-
  Edges of contacts, and what is found of them, are the document's: the row ViewTells, over any plan, any ledger, any class, any contact, any edges, and any number.
-/
import Derived.Test.YtdjokmfncammeaaVitVieA
import Derived.Test.YtdjokmfncammeaaVitVitW
set_option linter.unusedVariables false
set_option linter.unusedSimpArgs false
set_option linter.unnecessarySimpa false
namespace Go.Proofs.Ytdjokmfncammeaa
open Go.ChangeShapes Go.WideShapes Go.ChangeAt Go.RowKit Go.Ev Go.Vit
namespace VTells
theorem in64 {n : Int} (h : I64 n) : In64 n := h
/-- A plan, as an argument. -/
theorem arg_pl {d : D} (h : HasArg Try.prog 20 25 d) : ∃ p : Pl, d = p.e ∧ (∀ c ∈ p.cs, In64 c.en) ∧ (∀ r ∈ p.rs, In64 r.en) := by
  obtain ⟨cs, rfl, hs⟩ := arg_agg (s := [.slice true [.int .i64, .int .i64, .int .i64, .int .i64, .int .i64, .int .i64], .slice true [.int .i64, .int .i64, .int .i64, .int .i64, .int .i64], .int .i64, .int .i64]) h (by kernel_rfl) (by kernel_rfl)
  obtain ⟨d1, _, rfl, ⟨xs, rfl, hx⟩, hs⟩ := hs
  obtain ⟨d2, _, rfl, ⟨ys, rfl, hy⟩, hs⟩ := hs
  obtain ⟨ck, _, rfl, _, hs⟩ := shs_int hs
  obtain ⟨ver, _, rfl, _, hs⟩ := shs_int hs
  rw [shs_nil hs]
  obtain ⟨l, rfl, hl⟩ := choose_list (e := Ct.e) (p := fun c => In64 c.en) xs (fun x hx' => by
    obtain ⟨cs, rfl, hs⟩ := hx x hx'
    obtain ⟨a, _, rfl, ha, hs⟩ := shs_int hs
    obtain ⟨b, _, rfl, hb, hs⟩ := shs_int hs
    obtain ⟨c, _, rfl, hc, hs⟩ := shs_int hs
    obtain ⟨d, _, rfl, hd, hs⟩ := shs_int hs
    obtain ⟨e, _, rfl, he, hs⟩ := shs_int hs
    obtain ⟨f, _, rfl, hf, hs⟩ := shs_int hs
    rw [shs_nil hs]
    exact ⟨⟨a, b, c, d, e, f⟩, rfl, in64 he⟩)
  obtain ⟨m, rfl, hm⟩ := choose_list (e := Rg.e) (p := fun c => In64 c.en) ys (fun x hx' => by
    obtain ⟨cs, rfl, hs⟩ := hy x hx'
    obtain ⟨a, _, rfl, ha, hs⟩ := shs_int hs
    obtain ⟨b, _, rfl, hb, hs⟩ := shs_int hs
    obtain ⟨c, _, rfl, hc, hs⟩ := shs_int hs
    obtain ⟨d, _, rfl, hd, hs⟩ := shs_int hs
    obtain ⟨e, _, rfl, he, hs⟩ := shs_int hs
    rw [shs_nil hs]
    exact ⟨⟨a, b, c, d, e⟩, rfl, in64 hd⟩)
  exact ⟨⟨l, m, ck, ver⟩, rfl, hl, hm⟩
/-- A ledger, as an argument. -/
theorem arg_led {d : D} (h : HasArg Try.prog 20 26 d) : ∃ l : List Bk, d = .slice .no 4 (l.map Bk.e) := by
  obtain ⟨xs, rfl, hx⟩ := arg_sl (e := [.int .i64, .int .i64, .int .i64, .int .i64]) h (by kernel_rfl) (by kernel_rfl)
  obtain ⟨l, rfl, hl⟩ := choose_list (e := Bk.e) (p := fun b => True) xs (fun x hx' => by
    obtain ⟨cs, rfl, hs⟩ := hx x hx'
    obtain ⟨a, _, rfl, ha, hs⟩ := shs_int hs
    obtain ⟨b, _, rfl, hb, hs⟩ := shs_int hs
    obtain ⟨c, _, rfl, hc, hs⟩ := shs_int hs
    obtain ⟨e, _, rfl, he, hs⟩ := shs_int hs
    rw [shs_nil hs]
    exact ⟨⟨a, b, c, e⟩, rfl, trivial⟩)
  exact ⟨l, rfl⟩
/-- A contact, as an argument. -/
theorem arg_ct {d : D} (h : HasArg Try.prog 20 28 d) : ∃ c : Ct, d = c.e ∧ In64 c.en := by
  obtain ⟨cs, rfl, hs⟩ := arg_agg (s := [.int .i64, .int .i64, .int .i64, .int .i64, .int .i64, .int .i64]) h (by kernel_rfl) (by kernel_rfl)
  obtain ⟨a, _, rfl, ha, hs⟩ := shs_int hs
  obtain ⟨b, _, rfl, hb, hs⟩ := shs_int hs
  obtain ⟨c, _, rfl, hc, hs⟩ := shs_int hs
  obtain ⟨d, _, rfl, hd, hs⟩ := shs_int hs
  obtain ⟨e, _, rfl, he, hs⟩ := shs_int hs
  obtain ⟨f, _, rfl, hf, hs⟩ := shs_int hs
  rw [shs_nil hs]
  exact ⟨⟨a, b, c, d, e, f⟩, rfl, in64 he⟩
/-- Edges, as an argument. -/
theorem arg_eds {d : D} (h : HasArg Try.prog 20 29 d) : ∃ l : List Eg, d = .slice .no 8 (l.map Eg.e) := by
  obtain ⟨xs, rfl, hx⟩ := arg_sl (e := [.int .i64, .int .i64, .int .i64, .int .i64, .int .i64, .int .i64, .int .i64, .int .i64]) h (by kernel_rfl) (by kernel_rfl)
  obtain ⟨l, rfl, hl⟩ := choose_list (e := Eg.e) (p := fun b => True) xs (fun x hx' => by
    obtain ⟨cs, rfl, hs⟩ := hx x hx'
    obtain ⟨a, _, rfl, _, hs⟩ := shs_int hs
    obtain ⟨b, _, rfl, _, hs⟩ := shs_int hs
    obtain ⟨c, _, rfl, _, hs⟩ := shs_int hs
    obtain ⟨d, _, rfl, _, hs⟩ := shs_int hs
    obtain ⟨e, _, rfl, _, hs⟩ := shs_int hs
    obtain ⟨f, _, rfl, _, hs⟩ := shs_int hs
    obtain ⟨g, _, rfl, _, hs⟩ := shs_int hs
    obtain ⟨i, _, rfl, _, hs⟩ := shs_int hs
    rw [shs_nil hs]
    exact ⟨⟨a, b, c, d, e, f, g, i⟩, rfl, trivial⟩)
  exact ⟨l, rfl⟩
theorem law_runs : ∀ Ds, HasArgs Try.prog 20 Try.f3.params.toList Ds → ∃ N, callP Γ N 3 Ds = some (.bool true) := by
  intro Ds h
  rw [show Try.f3.params.toList = [25, 26, 3, 28, 29, 3] from rfl] at h
  obtain ⟨d1, _, rfl, h1, d2, _, rfl, h2, d3, _, rfl, h3, d4, _, rfl, h4, d5, _, rfl, h5, d6, _, rfl, h6, h⟩ := h
  obtain ⟨p, rfl, hc, hr⟩ := arg_pl h1
  obtain ⟨l, rfl⟩ := arg_led h2
  obtain ⟨k, rfl, _⟩ := arg_int h3 (by kernel_rfl) (by kernel_rfl)
  obtain ⟨c, rfl, hce⟩ := arg_ct h4
  obtain ⟨m, rfl⟩ := arg_eds h5
  obtain ⟨n, rfl, _⟩ := arg_int h6 (by kernel_rfl) (by kernel_rfl)
  have h' : _ = [] := h
  subst h'
  exact (run_Tells p hc hr l k c hce m n).get
set_option maxRecDepth 100000 in
theorem f_lifted (os : Os) (started : os.Started) (H : Type) (enc : TypeId × Value → H) :
    ReturnsInHanded {} Try.checked os 3 .any (Rows.viewTellsSpec.pre6 enc Try.prog Try.f3 Rows.viewTellsRow.domain false) (Rows.viewTellsSpec.post enc Try.prog Try.f3 false true false false) := by
  refine returnsInHanded_of_change (C := Try.checked) Try.own started (by kernel_rfl) Try.func3
    (ChangeSpec.witness6 (enc := enc) (C := Try.checked) false ⟨#[], #[.agg #[.slice none 0 0, .slice none 0 0, .int .i64 0, .int .i64 0], .slice none 0 0, .int .i64 0, .agg #[.int .i64 0, .int .i64 0, .int .i64 0, .int .i64 0, .int .i64 0, .int .i64 0], .slice none 0 0, .int .i64 0], []⟩ 8 (by kernel_rfl) (by kernel_rfl) (by kernel_rfl) (by kernel_rfl)) ?_
  intro W base args ds gs before hval0 hW hcnd _
  have hval : ∀ (j : Nat) t v, Try.f3.params[j]? = some t → args[j]? = some v → Value.okWide Try.prog W .any base t v := hval0
  have hW' := hW
  obtain ⟨p, q, hA, hV, rfl, hfz, hnd⟩ := hW
  obtain ⟨rfl, rfl⟩ := trodVars_none hV
  have hAn := hA
  rw [Try.params3] at hAn
  have hds : ∃ d1 d2 d3 d4 d5 d6, ds = [d1, d2, d3, d4, d5, d6] := by
    obtain ⟨_, _, d1, ds1, _, _, _, rfl, _, _, hAn⟩ := trodAll_cons hAn
    obtain ⟨_, _, d2, ds2, _, _, _, rfl, _, _, hAn⟩ := trodAll_cons hAn
    obtain ⟨_, _, d3, ds3, _, _, _, rfl, _, _, hAn⟩ := trodAll_cons hAn
    obtain ⟨_, _, d4, ds4, _, _, _, rfl, _, _, hAn⟩ := trodAll_cons hAn
    obtain ⟨_, _, d5, ds5, _, _, _, rfl, _, _, hAn⟩ := trodAll_cons hAn
    obtain ⟨_, _, d6, ds6, _, _, _, rfl, _, _, hAn⟩ := trodAll_cons hAn
    obtain ⟨_, rfl, _⟩ := trodAll_nil hAn
    exact ⟨_, _, _, _, _, _, rfl⟩
  obtain ⟨d1, d2, d3, d4, d5, d6, rfl⟩ := hds
  refine (law_calls (n := 20) (base := base) known Try.mixed (by kernel_rfl) hA (fun j t v h1 h2 => hval j t v (by simpa using h1) (by simpa using h2)) law_runs).mono fun e W' ⟨he, hb⟩ => ?_
  subst he
  exact ⟨_, rfl, law_post Try.laidOut (by kernel_rfl) rfl (by kernel_rfl) Try.underlying4 hW' rfl rfl rfl hb⟩
theorem holds : Rows.ViewTellsSaid :=
  OpenClaim.holds_of_wide 3 Try.f3 rfl rfl rfl rfl rfl rfl rfl ⟨rfl, rfl, rfl, rfl, rfl⟩ rfl rfl rfl rfl rfl (by kernel_rfl) Try.func3 (by kernel_rfl)
    (of_decide_eq_true (by kernel_rfl)) (by unfold Func.isWrapper; first | (rw [if_pos (by decide +kernel)]; kernel_rfl) | (rw [if_neg (by decide +kernel)]; exact ⟨rfl, rfl⟩))
    (fun os started H enc _ => f_lifted os started H enc)
end VTells
end Go.Proofs.Ytdjokmfncammeaa
