/-
  Rules to run the evaluator's code by hand: what is handed back is a row, or nothing.
-/
import Derived.Test.YtjcilbnbciclpaaEvEvX5
import Derived.Test.YtjcilbnbciclpaaEvEvX7
import Derived.Test.YtjcilbnbciclpaaEvEvP1
set_option linter.unusedVariables false
set_option linter.unusedSimpArgs false
set_option linter.unnecessarySimpa false
namespace Go.Ev
set_option linter.unusedVariables false
set_option linter.unusedSimpArgs false
/-- A row of the store, or nothing. -/
def PK {α : Type} (e : α → D) (sz : Nat) (st : Store) (d : D) (xs : List α) : Prop := (xs = [] ∧ ∃ t s, d = .slice t s [] ∧ (t = .isnil ∨ t = .no ∨ t = .exact)) ∨ ∃ q n c, n = xs.length ∧ d = .rs q 0 sz n c ∧ RowIs st q sz (xs.map e)
/-- A row that is handed back, or nothing. -/
def IsR {α : Type} (e : α → D) (sz : Nat) (xs : List α) (r : D) : Prop := (xs = [] ∧ ∃ t s, r = .slice t s [] ∧ (t = .isnil ∨ t = .no ∨ t = .exact)) ∨ r = .slice .row sz (xs.map e)
theorem IsR.n {α : Type} {e : α → D} {sz : Nat} {xs : List α} {r : D} (h : IsR e sz xs r) : IsN e sz xs r := by
  rcases h with ⟨rfl, t, s, rfl, ht⟩ | rfl
  · exact ⟨t, s, rfl, .inr rfl, by rcases ht with rfl | rfl | rfl <;> rfl⟩
  · exact ⟨.row, sz, rfl, .inl rfl, rfl⟩
theorem EvX.mono {Γ : Nat → Option FD} {fn : Nat} {as : List D} {P Q : D → Prop} (h : EvX Γ fn as P) (hpq : ∀ r, P r → Q r) : EvX Γ fn as Q := by
  obtain ⟨r, h1, h2⟩ := h
  exact ⟨r, hpq r h1, h2⟩
theorem PK.of {α : Type} {e : α → D} {sz : Nat} {st st' : Store} {d : D} {xs : List α} (h : PK e sz st d xs) (hl : st'.lim ≤ st.lim) (hn : st.next ≤ st'.next) (hb : ∀ q, q < st.next → st'.boxes q = st.boxes q) : PK e sz st' d xs := by
  rcases h with h | ⟨q, n, c, h1, h2, hR⟩
  · exact .inl h
  · have hq := hR.2.1
    exact .inr ⟨q, n, c, h1, h2, hR.of (Nat.le_trans hl hR.1) (Nat.lt_of_lt_of_le hq hn) (hb q hq)⟩
section
variable {Γ : Nat → Option FD} {ρ : Nat → D} {st : Store} {dr : Bool} {R : (Nat → D) → Store → List Fl → Prop} {l : List Op1} {g : Option (Nat × Bool)} {mv : Bool} {k : Nat} {x y i : A}
end
def Fl.onlyR : Fl → Bool
  | .n | .r _ | .c => true
  | _ => false
theorem clash_onlyR {a b : Fl} (ha : Fl.onlyR a = true) (hb : Fl.onlyR b = true) : a.clash b = false := by
  cases a <;> cases b <;> first | rfl | (simp [Fl.onlyR] at ha; done) | (simp [Fl.onlyR] at hb; done)
theorem okFlags_onlyR {bef : List (List Nat)} {fl : List Fl} (h : fl.all Fl.onlyR = true) : okFlags bef fl = true := by
  unfold okFlags
  rw [List.all_eq_true] at h ⊢
  intro j hj
  rw [List.all_eq_true]
  intro i hi
  have hj' := List.mem_range.mp hj
  have hi' := List.mem_range.mp hi
  rw [List.getElem?_eq_getElem (show i < fl.length by omega), List.getElem?_eq_getElem hj']
  simp only
  rw [clash_onlyR (h _ (List.getElem_mem _)) (h _ (List.getElem_mem _))]
  simp
/-- An element of whole numbers. -/
def Ele (sz : Nat) (d : D) : Prop := d.cells.length = sz ∧ d.cells.all D.ground1 = true ∧ (match d.cells with | [c] => (match d with | .agg _ => false | _ => true) | _ => (match d with | .agg _ => true | _ => false)) = true
theorem Ele.k {sz : Nat} {d : D} (h : Ele sz d) : d.cells.length = sz ∧ mkD d.cells = d := ⟨h.1, mkD_shape h.2.2⟩
section
variable {Γ : Nat → Option FD} {ρ : Nat → D} {st : Store} {dr : Bool} {R : (Nat → D) → Store → List Fl → Prop} {l : List Op1} {g : Option (Nat × Bool)} {mv : Bool} {k : Nat} {x y i : A}
end
end Go.Ev
