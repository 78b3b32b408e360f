/-
  Rules to run the evaluator's code by hand: rows that are written to in place, rows of the caller's.
-/
import Derived.Test.YtklegmbpppegaaaEvEvX6
set_option linter.unusedVariables false
set_option linter.unusedSimpArgs false
set_option linter.unnecessarySimpa false
namespace Go.Ev
set_option linter.unusedVariables false
set_option linter.unusedSimpArgs false

/-- .. with any limit: the caller's row, too. -/
def RowAt (st : Store) (p sz : Nat) (xs : List D) : Prop := ∃ cs, st.boxes p = some (.row cs) ∧ xs.length * sz ≤ cs.length ∧ cs.take (xs.length * sz) = xs.flatMap D.cells ∧ cs.all D.plain = true
theorem RowIs.at {st : Store} {p sz : Nat} {xs : List D} (h : RowIs st p sz xs) : RowAt st p sz xs := h.2.2
theorem RowAt.of {st st' : Store} {p sz : Nat} {xs : List D} (h : RowAt st p sz xs) (hb : st'.boxes p = st.boxes p) : RowAt st' p sz xs := by
  obtain ⟨cs, h1, h2⟩ := h
  exact ⟨cs, hb.trans h1, h2⟩
theorem RowIs.of {st st' : Store} {p sz : Nat} {xs : List D} (h : RowIs st p sz xs) (hl : st'.lim ≤ p) (hn : p < st'.next) (hb : st'.boxes p = st.boxes p) : RowIs st' p sz xs := ⟨hl, hn, h.at.of hb⟩
theorem RowAt.pre {st : Store} {p sz : Nat} {xs ys : List D} (h : RowAt st p sz (xs ++ ys)) (hxs : ∀ d ∈ xs, d.cells.length = sz) : RowAt st p sz xs := by
  obtain ⟨cs, h1, h2, h3, h4⟩ := h
  have e : (xs ++ ys).length * sz = xs.length * sz + ys.length * sz := by rw [List.length_append, Nat.add_mul]
  refine ⟨cs, h1, by omega, ?_, h4⟩
  have := congrArg (List.take (xs.length * sz)) h3
  rw [List.take_take, e, Nat.min_eq_left (by omega), List.flatMap_append, List.take_append_of_le_length (by rw [flatMap_len hxs]; exact Nat.le_refl _), List.take_of_length_le (l := xs.flatMap D.cells) (by rw [flatMap_len hxs]; exact Nat.le_refl _)] at this
  exact this
section
variable {Γ : Nat → Option FD} {ρ : Nat → D} {st : Store} {dr : Bool} {R : (Nat → D) → Store → List Fl → Prop} {l : List Op1} {g : Option (Nat × Bool)} {mv : Bool} {k : Nat} {x y a i : A}
end
end Go.Ev
