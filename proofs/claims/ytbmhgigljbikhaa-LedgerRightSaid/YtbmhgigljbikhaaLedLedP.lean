/-
  The ledger, as a table of rows: plain laws, no program in them.
-/
import Derived.Test.YtbmhgigljbikhaaLedLedZ
set_option linter.unusedVariables false
set_option linter.unusedSimpArgs false
set_option linter.unnecessarySimpa false
namespace Go.Led
open Go.Ev
set_option linter.unusedVariables false
set_option linter.unusedSimpArgs false
theorem Srt.cons {b : Bk} {l : List Bk} : Srt (b :: l) ↔ (∀ c ∈ l, b.id < c.id) ∧ Srt l := List.pairwise_cons
theorem upos_cons (b : Bk) (l : List Bk) (id : Int) : upos (b :: l) id = if b.id < id then upos l id + 1 else 0 := by
  simp only [upos, List.takeWhile]
  by_cases h : b.id < id <;> simp [h]
/-- A row by its ID. -/
def getB : List Bk → Int → Bk
  | [], id => ⟨id, 0, 0, 0⟩
  | b :: l, id => if b.id = id then b else getB l id
theorem getB_none {l : List Bk} {id : Int} (h : ∀ b ∈ l, b.id ≠ id) : getB l id = ⟨id, 0, 0, 0⟩ := by
  induction l with
  | nil => rfl
  | cons b l ih => rw [getB, if_neg (h b List.mem_cons_self), ih (fun c hc => h c (List.mem_cons_of_mem _ hc))]
theorem row_cons (b : Bk) (l : List Bk) (id : Int) : row (b :: l) id = if b.id < id then row l id else if b.id = id then b else ⟨id, 0, 0, 0⟩ := by
  unfold row
  rw [upos_cons]
  by_cases h : b.id < id
  · simp [h]
  · simp [h]
theorem row_get {l : List Bk} (hs : Srt l) (id : Int) : row l id = getB l id := by
  induction l with
  | nil => rfl
  | cons b l ih =>
    rw [Srt.cons] at hs
    rw [row_cons, getB, ih hs.2]
    by_cases h : b.id < id
    · rw [if_pos h, if_neg (by omega)]
    · rw [if_neg h]
      by_cases h2 : b.id = id
      · rw [if_pos h2, if_pos h2]
      · rw [if_neg h2, if_neg h2, getB_none (fun c hc => by have := hs.1 c hc; omega)]
theorem getB_id (l : List Bk) (id : Int) : (getB l id).id = id := by
  induction l with
  | nil => rfl
  | cons b l ih => rw [getB]; split <;> assumption
theorem getB_mem {l : List Bk} (hs : Srt l) {b : Bk} (h : b ∈ l) : getB l b.id = b := by
  induction l with
  | nil => cases h
  | cons c l ih =>
    rw [Srt.cons] at hs
    rw [getB]
    rcases List.mem_cons.mp h with rfl | h'
    · rw [if_pos rfl]
    · rw [if_neg (by have := hs.1 b h'; omega), ih hs.2 h']
theorem getB_or (l : List Bk) (id : Int) : getB l id ∈ l ∨ getB l id = ⟨id, 0, 0, 0⟩ := by
  induction l with
  | nil => exact .inr rfl
  | cons b l ih =>
    rw [getB]
    split
    · exact .inl List.mem_cons_self
    · exact ih.imp (List.mem_cons_of_mem _) _root_.id
abbrev Bk.Z (b : Bk) : Prop := b.u0 = 0 ∧ b.u1 = 0 ∧ b.u2 = 0
def NZ (l : List Bk) : Prop := ∀ b ∈ l, ¬ b.Z
theorem srt_ext : ∀ {l m : List Bk}, Srt l → Srt m → (∀ b, b ∈ l ↔ b ∈ m) → l = m
  | [], m, _, _, h => by
    cases m with
    | nil => rfl
    | cons b m => exact absurd ((h b).mpr List.mem_cons_self) (by simp)
  | a :: l, [], _, _, h => absurd ((h a).mp List.mem_cons_self) (by simp)
  | a :: l, b :: m, hl, hm, h => by
    rw [Srt.cons] at hl hm
    have hab : a = b := by
      rcases List.mem_cons.mp ((h a).mp List.mem_cons_self) with e | e
      · exact e
      · rcases List.mem_cons.mp ((h b).mpr List.mem_cons_self) with e' | e'
        · exact e'.symm
        · have h1 := hm.1 a e
          have h2 := hl.1 b e'
          omega
    subst hab
    rw [srt_ext hl.2 hm.2 (fun c => ?_)]
    constructor
    · intro hc
      rcases List.mem_cons.mp ((h c).mp (List.mem_cons_of_mem _ hc)) with e | e
      · subst e; have := hl.1 c hc; omega
      · exact e
    · intro hc
      rcases List.mem_cons.mp ((h c).mpr (List.mem_cons_of_mem _ hc)) with e | e
      · subst e; have := hm.1 c hc; omega
      · exact e
theorem tab_ext {l m : List Bk} (hl : Srt l) (hm : Srt m) (nl : NZ l) (nm : NZ m) (h : ∀ id, getB l id = getB m id) : l = m := by
  have key : ∀ {l m : List Bk}, Srt l → NZ l → (∀ id, getB l id = getB m id) → ∀ b, b ∈ l → b ∈ m := by
    intro l m hl nl h b hb
    have e := getB_mem hl hb
    rw [h] at e
    rcases getB_or m b.id with h1 | h1
    · rw [e] at h1; exact h1
    · rw [e] at h1
      exact absurd (show b.Z by rw [h1]; exact ⟨rfl, rfl, rfl⟩) (nl b hb)
  exact srt_ext hl hm (fun b => ⟨key hl nl h b, key hm nm (fun id => (h id).symm) b⟩)
/-- A ledger with this row, in its place (none, if it is of nothing). -/
def putB : List Bk → Bk → List Bk
  | [], r => if r.Z then [] else [r]
  | b :: l, r => if b.id < r.id then b :: putB l r else (if r.Z then [] else [r]) ++ (if b.id = r.id then l else b :: l)
theorem behind_cons (b : Bk) (l : List Bk) (id : Int) : behind (b :: l) id = if b.id < id then behind l id else if b.id = id then l else b :: l := by
  unfold behind fnd
  rw [upos_cons]
  by_cases h : b.id < id
  · simp [h]
  · simp only [h, if_false, List.getElem?_cons_zero, List.drop_zero]
    by_cases h2 : b.id = id <;> simp [h2]
theorem withM_put (l : List Bk) (id u0 u1 u2 : Int) : withM l id u0 u1 u2 = putB l ⟨id, u0, u1, u2⟩ := by
  induction l with
  | nil =>
    simp only [withM, putB]
    split <;> simp_all [behind, fnd, upos]
  | cons b l ih =>
    simp only [withM, putB, upos_cons, behind_cons] at ih ⊢
    by_cases h : b.id < id
    · simp only [h, if_true, List.take_succ_cons, List.cons_append] at ih ⊢
      rw [← ih]
      split <;> rfl
    · simp only [h, if_false, List.take_zero, List.nil_append]
      by_cases hz : u0 = 0 ∧ u1 = 0 ∧ u2 = 0 <;> simp [hz]
theorem mem_put {l : List Bk} (hs : Srt l) {r b : Bk} : b ∈ putB l r ↔ (b = r ∧ ¬ r.Z) ∨ (b ∈ l ∧ b.id ≠ r.id) := by
  induction l with
  | nil => rw [putB]; split <;> simp_all
  | cons c l ih =>
    rw [Srt.cons] at hs
    have hgt : ∀ d ∈ l, c.id < d.id := hs.1
    rw [putB]
    split
    · rename_i h
      rw [List.mem_cons, ih hs.2, List.mem_cons]
      constructor
      · rintro (rfl | h1 | h1)
        · exact .inr ⟨.inl rfl, by omega⟩
        · exact .inl h1
        · exact .inr ⟨.inr h1.1, h1.2⟩
      · rintro (h1 | ⟨rfl | h1, h2⟩)
        · exact .inr (.inl h1)
        · exact .inl rfl
        · exact .inr (.inr ⟨h1, h2⟩)
    · rename_i h
      rw [List.mem_append]
      have h1 : b ∈ (if r.Z then [] else [r]) ↔ b = r ∧ ¬ r.Z := by split <;> simp_all
      have h2 : b ∈ (if c.id = r.id then l else c :: l) ↔ b ∈ c :: l ∧ b.id ≠ r.id := by
        split
        · rename_i he
          constructor
          · intro hb; exact ⟨List.mem_cons_of_mem _ hb, by have := hgt b hb; omega⟩
          · rintro ⟨hb, hn⟩
            rcases List.mem_cons.mp hb with rfl | hb
            · exact absurd he hn
            · exact hb
        · rename_i he
          constructor
          · intro hb
            refine ⟨hb, ?_⟩
            rcases List.mem_cons.mp hb with rfl | hb
            · exact he
            · have := hgt b hb; omega
          · exact fun hb => hb.1
      rw [h1, h2]
theorem srt_put {l : List Bk} (hs : Srt l) (r : Bk) : Srt (putB l r) := by
  induction l with
  | nil => rw [putB]; split <;> simp [Srt]
  | cons c l ih =>
    have hs0 := hs
    rw [Srt.cons] at hs
    rw [putB]
    split
    · rename_i h
      rw [Srt.cons]
      refine ⟨fun d hd => ?_, ih hs.2⟩
      rcases (mem_put hs.2).mp hd with ⟨rfl, _⟩ | h1
      · exact h
      · exact hs.1 d h1.1
    · rename_i h
      have h2 : Srt (if c.id = r.id then l else c :: l) := by split; exact hs.2; exact hs0
      have h3 : ∀ d ∈ (if c.id = r.id then l else c :: l), r.id < d.id := by
        intro d hd
        split at hd
        · have := hs.1 d hd; omega
        · rcases List.mem_cons.mp hd with rfl | hd
          · omega
          · have := hs.1 d hd; omega
      split
      · exact h2
      · exact Srt.cons.mpr ⟨h3, h2⟩
theorem nz_put {l : List Bk} (hs : Srt l) (hn : NZ l) (r : Bk) : NZ (putB l r) := fun b hb => by
  rcases (mem_put hs).mp hb with ⟨rfl, h⟩ | h
  · exact h
  · exact hn b h.1
theorem get_put {l : List Bk} (hs : Srt l) (r : Bk) (id : Int) : getB (putB l r) id = if id = r.id then r else getB l id := by
  have hsp := srt_put hs r
  by_cases h : id = r.id
  · subst h
    rw [if_pos rfl]
    by_cases hz : r.Z
    · rw [getB_none (fun b hb => ?_)]
      · obtain ⟨i, a, b, c⟩ := r
        obtain ⟨h1, h2, h3⟩ := hz
        simp only at h1 h2 h3
        simp [h1, h2, h3]
      · rcases (mem_put hs).mp hb with ⟨_, h1⟩ | h1
        · exact absurd hz h1
        · exact h1.2
    · exact getB_mem hsp ((mem_put hs).mpr (.inl ⟨rfl, hz⟩))
  · rw [if_neg h]
    rcases getB_or (putB l r) id with h1 | h1
    · rcases (mem_put hs).mp h1 with ⟨h2, _⟩ | h2
      · exact absurd (by rw [← h2, getB_id]) h
      · have := getB_mem hs h2.1
        rw [getB_id] at this
        exact this.symm
    · rcases getB_or l id with h2 | h2
      · have h3 : getB l id ∈ putB l r := (mem_put hs).mpr (.inr ⟨h2, by rw [getB_id]; exact h⟩)
        have := getB_mem hsp h3
        rw [getB_id] at this
        exact this
      · rw [h1, h2]
theorem len_put (l : List Bk) (r : Bk) : (putB l r).length ≤ l.length + 1 := by
  induction l with
  | nil => rw [putB]; split <;> simp
  | cons c l ih =>
    rw [putB]
    split
    · simpa using ih
    · rw [List.length_append]
      split <;> split <;> simp <;> omega
end Go.Led
