/-
  What an operation looks at.
-/
import Derived.Test.YtbmhgigljbikhaaEvEvT
set_option linter.unusedVariables false
set_option linter.unusedSimpArgs false
set_option linter.unnecessarySimpa false
namespace Go.Ev
open Go.RowKit
set_option linter.unusedVariables false
set_option linter.unusedSimpArgs false

section
variable {ρ ρ' : Nat → D} {st st' : Store} {d : D} {x : O}

theorem A_congr {y : A} (h : ∀ t ∈ y.reads, ρ t = ρ' t) : y.ev ρ = y.ev ρ' := by
  cases y with
  | tmp t => exact h t (by simp [A.reads])
  | lit x => rfl
theorem AO_congr {y : Option A} (h : ∀ t ∈ A.readsO y, ρ t = ρ' t) : y.map (·.ev ρ) = y.map (·.ev ρ') := by
  cases y with
  | none => rfl
  | some y => simp only [Option.map_some]; rw [A_congr h]
theorem As_congr {ys : List A} (h : ∀ t ∈ ys.flatMap A.reads, ρ t = ρ' t) : ys.map (·.ev ρ) = ys.map (·.ev ρ') :=
  List.map_congr_left fun y hy => A_congr fun t ht => h t (List.mem_flatMap.2 ⟨y, hy, ht⟩)

theorem run_congr (h : ∀ t ∈ x.reads, ρ t = ρ' t) : x.run ρ st = x.run ρ' st := by
  cases x <;> simp only [O.reads, List.mem_append, or_imp, forall_and] at h <;> simp only [O.run]
  case pick => rw [A_congr h.1.1, A_congr h.1.2, A_congr h.2]
  case slice => rw [A_congr h.1.1.1, AO_congr h.1.1.2, AO_congr h.1.2, AO_congr h.2]
  case sliceA => rw [A_congr h.1.1, AO_congr h.1.2, AO_congr h.2]
  case mapset => rw [A_congr h.1.1, A_congr h.1.2, A_congr h.2]
  case build zero fills =>
    have : (fills.map fun f => (f.1, f.2.1, f.2.2.ev ρ)) = fills.map fun f => (f.1, f.2.1, f.2.2.ev ρ') := List.map_congr_left fun f hf => by
      rw [A_congr (ρ := ρ) (ρ' := ρ') fun t ht => h t (List.mem_flatMap.2 ⟨f, hf, ht⟩)]
    rw [this]
  case bslice sz xs =>
    have hm := As_congr h
    have e1 : (xs.all fun x => (x.ev ρ).strip.cells.length == sz && (x.ev ρ).strip.cells.all D.plain) = (xs.map (·.ev ρ)).all fun x => x.strip.cells.length == sz && x.strip.cells.all D.plain := by rw [List.all_map]; rfl
    have e2 : (xs.all fun x => (x.ev ρ').strip.cells.length == sz && (x.ev ρ').strip.cells.all D.plain) = (xs.map (·.ev ρ')).all fun x => x.strip.cells.length == sz && x.strip.cells.all D.plain := by rw [List.all_map]; rfl
    have e3 : (xs.map fun x => (x.ev ρ).strip) = (xs.map (·.ev ρ)).map D.strip := by simp
    have e4 : (xs.map fun x => (x.ev ρ').strip) = (xs.map (·.ev ρ')).map D.strip := by simp
    rw [e1, e2, e3, e4, hm]
  case min xs =>
    cases xs with
    | nil => rfl
    | cons y r =>
      simp only [List.flatMap_cons, List.mem_append, or_imp, forall_and] at h
      simp only [A_congr h.1, As_congr h.2]
  case max xs =>
    cases xs with
    | nil => rfl
    | cons y r =>
      simp only [List.flatMap_cons, List.mem_append, or_imp, forall_and] at h
      simp only [A_congr h.1, As_congr h.2]
  case mkfunc f xs => rw [As_congr h]
  all_goals first
    | rfl
    | rw [A_congr h]
    | rw [A_congr h.1, A_congr h.2]

theorem runM_congr {mv : Bool} (h : ∀ t ∈ x.reads, ρ t = ρ' t) : x.runM mv ρ st = x.runM mv ρ' st := by
  unfold O.runM
  split
  · rename_i sz b y z
    simp only [O.reads, List.mem_append, or_imp, forall_and] at h
    rw [A_congr h.1, A_congr h.2]
  · exact run_congr h

/-- An operation that does not look at the store. -/
theorem run_nostore (ha : x.acc = (false, false)) (hr : x.run ρ st = some (d, st')) : st' = st ∧ ∀ st2, x.run ρ st2 = some (d, st2) := by
  cases x <;> simp [O.acc] at ha <;> simp only [O.run] at hr ⊢
  case build => obtain ⟨c, h1, h2⟩ := Option.map_eq_some_iff.1 hr; cases h2; exact ⟨rfl, fun st2 => by rw [h1]; rfl⟩
  case slice => obtain ⟨c, h1, h2⟩ := Option.map_eq_some_iff.1 hr; cases h2; exact ⟨rfl, fun st2 => by rw [h1]; rfl⟩
  case bslice =>
    split at hr
    · rename_i hc
      simp only [Option.some.injEq, Prod.mk.injEq] at hr
      obtain ⟨rfl, rfl⟩ := hr
      exact ⟨rfl, fun st2 => by rw [if_pos hc]⟩
    · cases hr
  case bin => obtain ⟨c, h1, h2⟩ := Option.map_eq_some_iff.1 hr; cases h2; exact ⟨rfl, fun st2 => by rw [h1]; rfl⟩
  all_goals
    repeat' (split at hr)
  all_goals first
    | contradiction
    | (cases hr; done)
    | (simp only [Option.some.injEq, Prod.mk.injEq] at hr; obtain ⟨rfl, rfl⟩ := hr; exact ⟨rfl, fun st2 => by simp_all⟩)
    | (simp only [Option.map_eq_some_iff, Prod.mk.injEq] at hr; obtain ⟨c, h1, rfl, rfl⟩ := hr; exact ⟨rfl, fun st2 => by simp_all⟩)

theorem runM_nostore {mv : Bool} (ha : x.acc = (false, false)) (hr : x.runM mv ρ st = some (d, st')) : st' = st ∧ ∀ st2, x.runM mv ρ st2 = some (d, st2) := by
  unfold O.runM at *
  split at hr
  · simp [O.acc] at ha
  · rename_i h
    obtain ⟨h1, h2⟩ := run_nostore ha hr
    exact ⟨h1, h2⟩
/-- .. or that does not write to it. -/
theorem runM_nowrite {mv : Bool} (ha : x.acc.2 = false) (hr : x.runM mv ρ st = some (d, st')) : st' = st := by
  by_cases h0 : x.acc.1 = false
  · exact (runM_nostore (Prod.ext h0 ha) hr).1
  · cases x <;> simp [O.acc] at ha h0 <;> simp only [O.runM, O.run] at hr
    all_goals
      repeat' (split at hr)
    all_goals first
      | contradiction
      | (cases hr; done)
      | (simp only [Option.some.injEq, Prod.mk.injEq] at hr; exact hr.2.symm)
      | (obtain ⟨c, h1, h2⟩ := Option.bind_eq_some_iff.1 hr; simp only [Option.map_eq_some_iff, Prod.mk.injEq] at h2; obtain ⟨_, _, _, h⟩ := h2; exact h.symm)
      | (obtain ⟨c, h1, h2⟩ := Option.bind_eq_some_iff.1 hr; (repeat' (split at h2)) <;> first | contradiction | (cases h2; done) | (simp only [Option.some.injEq, Prod.mk.injEq] at h2; exact h2.2.symm))

end
end Go.Ev
