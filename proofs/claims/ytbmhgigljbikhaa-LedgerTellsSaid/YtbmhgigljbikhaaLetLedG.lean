/-
  The ledger, as a table of rows: plain laws, no program in them.
-/
import Derived.Test.YtbmhgigljbikhaaLetLetZ
import Derived.Test.YtbmhgigljbikhaaEvEvZ2
import Derived.Test.YtbmhgigljbikhaaEvEvX7
set_option linter.unusedVariables false
set_option linter.unusedSimpArgs false
set_option linter.unnecessarySimpa false

namespace Go.Let
open Go.Ev
set_option linter.unusedVariables false
set_option linter.unusedSimpArgs false
theorem Srt.cons {b : Bk} {l : List Bk} : Srt (b :: l) ↔ (∀ c ∈ l, b.id < c.id) ∧ Srt l := List.pairwise_cons
theorem upos_cons (b : Bk) (l : List Bk) (id : Int) : upos (b :: l) id = if b.id < id then upos l id + 1 else 0 := by
  simp only [upos, List.takeWhile]
  by_cases h : b.id < id <;> simp [h]
/-- A row by its ID. -/
def getB : List Bk → Int → Bk
  | [], id => ⟨id, 0, 0, 0⟩
  | b :: l, id => if b.id = id then b else getB l id
theorem getB_none {l : List Bk} {id : Int} (h : ∀ b ∈ l, b.id ≠ id) : getB l id = ⟨id, 0, 0, 0⟩ := by
  induction l with
  | nil => rfl
  | cons b l ih => rw [getB, if_neg (h b List.mem_cons_self), ih (fun c hc => h c (List.mem_cons_of_mem _ hc))]
theorem row_cons (b : Bk) (l : List Bk) (id : Int) : row (b :: l) id = if b.id < id then row l id else if b.id = id then b else ⟨id, 0, 0, 0⟩ := by
  unfold row
  rw [upos_cons]
  by_cases h : b.id < id
  · simp [h]
  · simp [h]
theorem row_get {l : List Bk} (hs : Srt l) (id : Int) : row l id = getB l id := by
  induction l with
  | nil => rfl
  | cons b l ih =>
    rw [Srt.cons] at hs
    rw [row_cons, getB, ih hs.2]
    by_cases h : b.id < id
    · rw [if_pos h, if_neg (by omega)]
    · rw [if_neg h]
      by_cases h2 : b.id = id
      · rw [if_pos h2, if_pos h2]
      · rw [if_neg h2, if_neg h2, getB_none (fun c hc => by have := hs.1 c hc; omega)]
theorem getB_id (l : List Bk) (id : Int) : (getB l id).id = id := by
  induction l with
  | nil => rfl
  | cons b l ih => rw [getB]; split <;> assumption
theorem getB_mem {l : List Bk} (hs : Srt l) {b : Bk} (h : b ∈ l) : getB l b.id = b := by
  induction l with
  | nil => cases h
  | cons c l ih =>
    rw [Srt.cons] at hs
    rw [getB]
    rcases List.mem_cons.mp h with rfl | h'
    · rw [if_pos rfl]
    · rw [if_neg (by have := hs.1 b h'; omega), ih hs.2 h']
theorem getB_or (l : List Bk) (id : Int) : getB l id ∈ l ∨ getB l id = ⟨id, 0, 0, 0⟩ := by
  induction l with
  | nil => exact .inr rfl
  | cons b l ih =>
    rw [getB]
    split
    · exact .inl List.mem_cons_self
    · exact ih.imp (List.mem_cons_of_mem _) _root_.id
abbrev Bk.Z (b : Bk) : Prop := b.u0 = 0 ∧ b.u1 = 0 ∧ b.u2 = 0
def NZ (l : List Bk) : Prop := ∀ b ∈ l, ¬ b.Z
theorem srt_ext : ∀ {l m : List Bk}, Srt l → Srt m → (∀ b, b ∈ l ↔ b ∈ m) → l = m
  | [], m, _, _, h => by
    cases m with
    | nil => rfl
    | cons b m => exact absurd ((h b).mpr List.mem_cons_self) (by simp)
  | a :: l, [], _, _, h => absurd ((h a).mp List.mem_cons_self) (by simp)
  | a :: l, b :: m, hl, hm, h => by
    rw [Srt.cons] at hl hm
    have hab : a = b := by
      rcases List.mem_cons.mp ((h a).mp List.mem_cons_self) with e | e
      · exact e
      · rcases List.mem_cons.mp ((h b).mpr List.mem_cons_self) with e' | e'
        · exact e'.symm
        · have h1 := hm.1 a e
          have h2 := hl.1 b e'
          omega
    subst hab
    rw [srt_ext hl.2 hm.2 (fun c => ?_)]
    constructor
    · intro hc
      rcases List.mem_cons.mp ((h c).mp (List.mem_cons_of_mem _ hc)) with e | e
      · subst e; have := hl.1 c hc; omega
      · exact e
    · intro hc
      rcases List.mem_cons.mp ((h c).mpr (List.mem_cons_of_mem _ hc)) with e | e
      · subst e; have := hm.1 c hc; omega
      · exact e
theorem tab_ext {l m : List Bk} (hl : Srt l) (hm : Srt m) (nl : NZ l) (nm : NZ m) (h : ∀ id, getB l id = getB m id) : l = m := by
  have key : ∀ {l m : List Bk}, Srt l → NZ l → (∀ id, getB l id = getB m id) → ∀ b, b ∈ l → b ∈ m := by
    intro l m hl nl h b hb
    have e := getB_mem hl hb
    rw [h] at e
    rcases getB_or m b.id with h1 | h1
    · rw [e] at h1; exact h1
    · rw [e] at h1
      exact absurd (show b.Z by rw [h1]; exact ⟨rfl, rfl, rfl⟩) (nl b hb)
  exact srt_ext hl hm (fun b => ⟨key hl nl h b, key hm nm (fun id => (h id).symm) b⟩)
/-- A ledger with this row, in its place (none, if it is of nothing). -/
def putB : List Bk → Bk → List Bk
  | [], r => if r.Z then [] else [r]
  | b :: l, r => if b.id < r.id then b :: putB l r else (if r.Z then [] else [r]) ++ (if b.id = r.id then l else b :: l)
theorem behind_cons (b : Bk) (l : List Bk) (id : Int) : behind (b :: l) id = if b.id < id then behind l id else if b.id = id then l else b :: l := by
  unfold behind fnd
  rw [upos_cons]
  by_cases h : b.id < id
  · simp [h]
  · simp only [h, if_false, List.getElem?_cons_zero, List.drop_zero]
    by_cases h2 : b.id = id <;> simp [h2]
theorem withM_put (l : List Bk) (id u0 u1 u2 : Int) : withM l id u0 u1 u2 = putB l ⟨id, u0, u1, u2⟩ := by
  induction l with
  | nil =>
    simp only [withM, putB]
    split <;> simp_all [behind, fnd, upos]
  | cons b l ih =>
    simp only [withM, putB, upos_cons, behind_cons] at ih ⊢
    by_cases h : b.id < id
    · simp only [h, if_true, List.take_succ_cons, List.cons_append] at ih ⊢
      rw [← ih]
      split <;> rfl
    · simp only [h, if_false, List.take_zero, List.nil_append]
      by_cases hz : u0 = 0 ∧ u1 = 0 ∧ u2 = 0 <;> simp [hz]
theorem mem_put {l : List Bk} (hs : Srt l) {r b : Bk} : b ∈ putB l r ↔ (b = r ∧ ¬ r.Z) ∨ (b ∈ l ∧ b.id ≠ r.id) := by
  induction l with
  | nil => rw [putB]; split <;> simp_all
  | cons c l ih =>
    rw [Srt.cons] at hs
    have hgt : ∀ d ∈ l, c.id < d.id := hs.1
    rw [putB]
    split
    · rename_i h
      rw [List.mem_cons, ih hs.2, List.mem_cons]
      constructor
      · rintro (rfl | h1 | h1)
        · exact .inr ⟨.inl rfl, by omega⟩
        · exact .inl h1
        · exact .inr ⟨.inr h1.1, h1.2⟩
      · rintro (h1 | ⟨rfl | h1, h2⟩)
        · exact .inr (.inl h1)
        · exact .inl rfl
        · exact .inr (.inr ⟨h1, h2⟩)
    · rename_i h
      rw [List.mem_append]
      have h1 : b ∈ (if r.Z then [] else [r]) ↔ b = r ∧ ¬ r.Z := by split <;> simp_all
      have h2 : b ∈ (if c.id = r.id then l else c :: l) ↔ b ∈ c :: l ∧ b.id ≠ r.id := by
        split
        · rename_i he
          constructor
          · intro hb; exact ⟨List.mem_cons_of_mem _ hb, by have := hgt b hb; omega⟩
          · rintro ⟨hb, hn⟩
            rcases List.mem_cons.mp hb with rfl | hb
            · exact absurd he hn
            · exact hb
        · rename_i he
          constructor
          · intro hb
            refine ⟨hb, ?_⟩
            rcases List.mem_cons.mp hb with rfl | hb
            · exact he
            · have := hgt b hb; omega
          · exact fun hb => hb.1
      rw [h1, h2]
theorem srt_put {l : List Bk} (hs : Srt l) (r : Bk) : Srt (putB l r) := by
  induction l with
  | nil => rw [putB]; split <;> simp [Srt]
  | cons c l ih =>
    have hs0 := hs
    rw [Srt.cons] at hs
    rw [putB]
    split
    · rename_i h
      rw [Srt.cons]
      refine ⟨fun d hd => ?_, ih hs.2⟩
      rcases (mem_put hs.2).mp hd with ⟨rfl, _⟩ | h1
      · exact h
      · exact hs.1 d h1.1
    · rename_i h
      have h2 : Srt (if c.id = r.id then l else c :: l) := by split; exact hs.2; exact hs0
      have h3 : ∀ d ∈ (if c.id = r.id then l else c :: l), r.id < d.id := by
        intro d hd
        split at hd
        · have := hs.1 d hd; omega
        · rcases List.mem_cons.mp hd with rfl | hd
          · omega
          · have := hs.1 d hd; omega
      split
      · exact h2
      · exact Srt.cons.mpr ⟨h3, h2⟩
theorem nz_put {l : List Bk} (hs : Srt l) (hn : NZ l) (r : Bk) : NZ (putB l r) := fun b hb => by
  rcases (mem_put hs).mp hb with ⟨rfl, h⟩ | h
  · exact h
  · exact hn b h.1
theorem get_put {l : List Bk} (hs : Srt l) (r : Bk) (id : Int) : getB (putB l r) id = if id = r.id then r else getB l id := by
  have hsp := srt_put hs r
  by_cases h : id = r.id
  · subst h
    rw [if_pos rfl]
    by_cases hz : r.Z
    · rw [getB_none (fun b hb => ?_)]
      · obtain ⟨i, a, b, c⟩ := r
        obtain ⟨h1, h2, h3⟩ := hz
        simp only at h1 h2 h3
        simp [h1, h2, h3]
      · rcases (mem_put hs).mp hb with ⟨_, h1⟩ | h1
        · exact absurd hz h1
        · exact h1.2
    · exact getB_mem hsp ((mem_put hs).mpr (.inl ⟨rfl, hz⟩))
  · rw [if_neg h]
    rcases getB_or (putB l r) id with h1 | h1
    · rcases (mem_put hs).mp h1 with ⟨h2, _⟩ | h2
      · exact absurd (by rw [← h2, getB_id]) h
      · have := getB_mem hs h2.1
        rw [getB_id] at this
        exact this.symm
    · rcases getB_or l id with h2 | h2
      · have h3 : getB l id ∈ putB l r := (mem_put hs).mpr (.inr ⟨h2, by rw [getB_id]; exact h⟩)
        have := getB_mem hsp h3
        rw [getB_id] at this
        exact this
      · rw [h1, h2]
theorem len_put (l : List Bk) (r : Bk) : (putB l r).length ≤ l.length + 1 := by
  induction l with
  | nil => rw [putB]; split <;> simp
  | cons c l ih =>
    rw [putB]
    split
    · simpa using ih
    · rw [List.length_append]
      split <;> split <;> simp <;> omega
end Go.Let

/-
  The ledger: what is right stays right; booking on two contacts.
-/
namespace Go.Let
open Go.Ev
set_option linter.unusedVariables false
set_option linter.unusedSimpArgs false
/-- A right ledger. -/
def Inv (l : List Bk) : Prop := Srt l ∧ ∀ b ∈ l, (1 ≤ b.id ∧ b.id ≤ 1048576) ∧ ¬ b.Z ∧ b.U
theorem rt_iff (l : List Bk) : ∀ p, rt p l = true ↔ (∀ b ∈ l, p < b.id ∧ b.id ≤ 1048576 ∧ ¬ b.Z ∧ b.U) ∧ Srt l := by
  induction l with
  | nil => intro p; simp [rt, Srt]
  | cons b l ih =>
    intro p
    rw [rt, Bool.and_eq_true, decide_eq_true_eq, ih, Srt.cons]
    constructor
    · rintro ⟨h1, h2, h3⟩
      refine ⟨fun c hc => ?_, fun c hc => (h2 c hc).1, h3⟩
      rcases List.mem_cons.mp hc with rfl | hc
      · exact h1
      · have := h2 c hc
        exact ⟨by omega, this.2⟩
    · rintro ⟨h1, h2, h3⟩
      exact ⟨h1 b List.mem_cons_self, fun c hc => ⟨h2 c hc, (h1 c (List.mem_cons_of_mem _ hc)).2⟩, h3⟩
theorem rt_inv (l : List Bk) : rt 0 l = true ↔ Inv l := by
  rw [rt_iff]
  constructor
  · rintro ⟨h1, h2⟩
    exact ⟨h2, fun b hb => by have := h1 b hb; exact ⟨⟨by omega, this.2.1⟩, this.2.2⟩⟩
  · rintro ⟨h1, h2⟩
    exact ⟨fun b hb => by have := h2 b hb; exact ⟨by omega, this.1.2, this.2⟩, h1⟩
theorem Inv.nz {l : List Bk} (h : Inv l) : NZ l := fun b hb => (h.2 b hb).2.1
theorem Inv.getU {l : List Bk} (h : Inv l) (id : Int) : (getB l id).U := by
  rcases getB_or l id with h1 | h1
  · exact (h.2 _ h1).2.2
  · rw [h1]; simp [Bk.U]
theorem Inv.rowU {l : List Bk} (h : Inv l) (id : Int) : (row l id).U := by rw [row_get h.1]; exact h.getU id
theorem Inv.put {l : List Bk} (h : Inv l) {r : Bk} (h1 : 1 ≤ r.id ∧ r.id ≤ 1048576) (h2 : r.U) : Inv (putB l r) := by
  refine ⟨srt_put h.1 r, fun b hb => ?_⟩
  rcases (mem_put h.1).mp hb with ⟨rfl, h3⟩ | h3
  · exact ⟨h1, h3, h2⟩
  · exact h.2 b h3.1
theorem Bk.plus_id (b : Bk) (k n : Int) : (b.plus k n).id = b.id := by unfold Bk.plus; split; rfl; split <;> rfl
theorem setM_put {l : List Bk} (h : Inv l) (id k n : Int) : setM l id k n = putB l ((getB l id).plus k n) := by
  unfold setM
  rw [withM_put, row_get h.1]
  have : ((getB l id).plus k n).id = id := by rw [Bk.plus_id, getB_id]
  congr 1
  generalize (getB l id).plus k n = r at *
  obtain ⟨a, b, c, d⟩ := r
  simp only at this
  rw [this]
def roomB (b : Bk) (c : Co) (k : Int) : Int := if 0 ≤ k ∧ k < 3 then (if 0 > c.vol - bkl b k then 0 else c.vol - bkl b k) else 0
theorem roomM_B {l : List Bk} (h : Inv l) (c : Co) (k : Int) : roomM l c k = roomB (getB l c.id) c k := by
  unfold roomM room roomB Co.vol
  rw [row_get h.1]
theorem bkl_ge {b : Bk} (h : b.U) {k : Int} (hk : 0 ≤ k ∧ k < 3) : b.at k ≤ bkl b k := by
  have hk' : k = 0 ∨ k = 1 ∨ k = 2 := by omega
  unfold Bk.U at h
  rcases hk' with rfl | rfl | rfl <;> simp only [bkl, Bk.at, stp] <;> grind
theorem vol_in (c : Co) : 0 ≤ c.vol ∧ c.vol ≤ 4611686014132420609 := volC_in _ _ _ _ _ _
theorem plus_U {b : Bk} (h : b.U) {k n : Int} (hk : 0 ≤ k ∧ k < 3) (h1 : 0 ≤ b.at k + n) (h2 : b.at k + n ≤ 4611686018427387904) : (b.plus k n).U := by
  have hk' : k = 0 ∨ k = 1 ∨ k = 2 := by omega
  unfold Bk.U at *
  rcases hk' with rfl | rfl | rfl <;> simp only [Bk.plus, Bk.at] at * <;> simp at * <;> omega
theorem book_U {l : List Bk} (h : Inv l) {c : Co} {k n : Int} (hb : bookC l c k n) : ((getB l c.id).plus k n).U := by
  obtain ⟨h1, h2, h3, h4⟩ := hb
  rw [roomM_B h] at h4
  have hv := vol_in c
  have hg := bkl_ge (h.getU c.id) h2
  have hi := bkl_in (h.getU c.id) k
  have hU := h.getU c.id
  have hat : 0 ≤ (getB l c.id).at k := by
    unfold Bk.U at hU
    unfold Bk.at
    grind
  unfold roomB at h4
  rw [if_pos h2] at h4
  refine plus_U hU h2 (by omega) ?_
  split at h4
  · have h0 : n = 0 := by omega
    have : (getB l c.id).at k ≤ 4611686018427387904 := by
      unfold Bk.U at hU
      unfold Bk.at
      grind
    omega
  · omega
theorem Co.ok_id {c : Co} (h : c.ok) : 1 ≤ c.id ∧ c.id ≤ 1048576 := h.2.2.1
theorem bookM_put {l : List Bk} (h : Inv l) (c : Co) (k n : Int) : bookM l c k n = if bookC l c k n then putB l ((getB l c.id).plus k n) else l := by
  unfold bookM
  rw [setM_put h]
theorem Inv.book {l : List Bk} (h : Inv l) (c : Co) (k n : Int) : Inv (bookM l c k n) := by
  rw [bookM_put h]
  split
  · rename_i hb
    refine h.put ?_ (book_U h hb)
    rw [Bk.plus_id, getB_id]
    exact Co.ok_id hb.1
  · exact h
theorem book_len {l : List Bk} (h : Inv l) (c : Co) (k n : Int) : (bookM l c k n).length ≤ l.length + 1 := by
  rw [bookM_put h]
  split
  · exact len_put _ _
  · omega
theorem get_book {l : List Bk} (h : Inv l) (c : Co) (k n id : Int) : getB (bookM l c k n) id = if id = c.id ∧ bookC l c k n then (getB l c.id).plus k n else getB l id := by
  rw [bookM_put h]
  by_cases hb : bookC l c k n
  · rw [if_pos hb, get_put h.1, Bk.plus_id, getB_id]
    by_cases hid : id = c.id <;> simp [hid, hb]
  · rw [if_neg hb, if_neg (fun h => hb h.2)]
theorem bookC_B {l : List Bk} (h : Inv l) (c : Co) (k n : Int) : bookC l c k n ↔ c.ok ∧ (0 ≤ k ∧ k < 3) ∧ 0 ≤ n ∧ n ≤ roomB (getB l c.id) c k := by
  unfold bookC
  rw [roomM_B h]
theorem bookC_other {l : List Bk} (h : Inv l) {c d : Co} (hcd : c.id ≠ d.id) (k n m : Int) : bookC (bookM l c k n) d k m ↔ bookC l d k m := by
  rw [bookC_B (h.book c k n), bookC_B h, get_book h, if_neg (fun h => hcd h.1.symm)]
theorem book_comm {l : List Bk} (h : Inv l) {c d : Co} (hcd : c.id ≠ d.id) (k n m : Int) : bookM (bookM l c k n) d k m = bookM (bookM l d k m) c k n := by
  have h1 := h.book c k n
  have h2 := h.book d k m
  have h3 := h1.book d k m
  have h4 := h2.book c k n
  refine tab_ext h3.1 h4.1 h3.nz h4.nz (fun id => ?_)
  simp only [get_book h1, get_book h2, bookC_other h hcd, bookC_other h (Ne.symm hcd), get_book h]
  by_cases hd : id = d.id
  · subst hd
    simp [Ne.symm hcd]
  · by_cases hc : id = c.id
    · subst hc
      simp [hcd]
    · simp [hd, hc]
theorem small_run : isT (callP Γ 400 24 []) = true := by decide +kernel
theorem s_small : EvP Γ 24 [] (.bool true) := EvP_of_run (isT_eq small_run)
end Go.Let

/-
  Plain laws of booking and releasing.
-/
namespace Go.Let
open Go.Ev
set_option linter.unusedVariables false
set_option linter.unusedSimpArgs false
theorem Bk.plus_plus (b : Bk) (k n : Int) : (b.plus k n).plus k (0 - n) = b := by
  obtain ⟨i, a, c, d⟩ := b
  unfold Bk.plus
  split
  · simp; omega
  · split
    · simp; omega
    · simp; omega
theorem plus_at (b : Bk) {k : Int} (n : Int) (hk : 0 ≤ k ∧ k < 3) : (b.plus k n).at k = b.at k + n := by
  have hk' : k = 0 ∨ k = 1 ∨ k = 2 := by omega
  rcases hk' with rfl | rfl | rfl <;> rfl
theorem Inv.at_in {l : List Bk} (h : Inv l) (id k : Int) : 0 ≤ (getB l id).at k ∧ (getB l id).at k ≤ 4611686018427387904 := by
  have hU := h.getU id
  unfold Bk.U at hU
  unfold Bk.at
  grind
theorem relM_put {l : List Bk} (h : Inv l) (id k n : Int) : relM l id k n = if relC l id k n then putB l ((getB l id).plus k (0 - n)) else l := by
  unfold relM
  rw [setM_put h]
theorem relC_B {l : List Bk} (h : Inv l) (id k n : Int) : relC l id k n ↔ (0 ≤ k ∧ k < 3) ∧ 0 ≤ n ∧ n ≤ (getB l id).at k := by
  unfold relC
  rw [row_get h.1]
theorem Inv.rel {l : List Bk} (h : Inv l) (id k n : Int) : Inv (relM l id k n) := by
  rw [relM_put h]
  split
  · rename_i hb
    rw [relC_B h] at hb
    have hi := h.at_in id k
    have hU := plus_U (h.getU id) hb.1 (n := 0 - n) (by omega) (by omega)
    by_cases hn : 1 ≤ id ∧ id ≤ 1048576
    · exact h.put (by rw [Bk.plus_id, getB_id]; exact hn) hU
    · have h0 : getB l id = ⟨id, 0, 0, 0⟩ := getB_none (fun b hb' hid => hn (by have := (h.2 b hb').1; omega))
      have hn0 : n = 0 := by
        have : (getB l id).at k = 0 := by rw [h0]; unfold Bk.at; simp
        omega
      subst hn0
      rw [h0]
      have : (Bk.plus ⟨id, 0, 0, 0⟩ k (0 - 0)) = ⟨id, 0, 0, 0⟩ := by unfold Bk.plus; simp
      rw [this]
      refine ⟨srt_put h.1 _, fun b hb' => ?_⟩
      rcases (mem_put h.1).mp hb' with ⟨_, h3⟩ | h3
      · exact absurd ⟨rfl, rfl, rfl⟩ h3
      · exact h.2 b h3.1
  · exact h
theorem rel_len {l : List Bk} (h : Inv l) (id k n : Int) : (relM l id k n).length ≤ l.length + 1 := by
  rw [relM_put h]
  split
  · exact len_put _ _
  · omega
theorem get_rel {l : List Bk} (h : Inv l) (id k n id' : Int) : getB (relM l id k n) id' = if id' = id ∧ relC l id k n then (getB l id).plus k (0 - n) else getB l id' := by
  rw [relM_put h]
  by_cases hb : relC l id k n
  · rw [if_pos hb, get_put h.1, Bk.plus_id, getB_id]
    by_cases hid : id' = id <;> simp [hid, hb]
  · rw [if_neg hb, if_neg (fun h => hb h.2)]
theorem back_C {l : List Bk} (h : Inv l) {c : Co} {k n : Int} (hb : bookC l c k n) : relC (bookM l c k n) c.id k n := by
  rw [relC_B (h.book c k n), get_book h, if_pos ⟨rfl, hb⟩, plus_at _ _ hb.2.1]
  have := h.at_in c.id k
  exact ⟨hb.2.1, hb.2.2.1, by omega⟩
theorem back_eq {l : List Bk} (h : Inv l) {c : Co} {k n : Int} (hb : bookC l c k n) : relM (bookM l c k n) c.id k n = l := by
  have h1 := h.book c k n
  have h2 := h1.rel c.id k n
  refine tab_ext h2.1 h.1 h2.nz h.nz (fun id => ?_)
  simp only [get_rel h1, get_book h]
  by_cases hid : id = c.id
  · subst hid
    simp only [true_and, if_pos (back_C h hb), hb, and_self, if_true, Bk.plus_plus]
  · simp [hid]
theorem room_book {l : List Bk} (h : Inv l) {c : Co} {k n : Int} (hb : bookC l c k n) : roomM (bookM l c k n) c k = roomM l c k - n := by
  rw [roomM_B (h.book c k n), roomM_B h, get_book h, if_pos ⟨rfl, hb⟩]
  rw [bookC_B h] at hb
  obtain ⟨h1, h2, h3, h4⟩ := hb
  have hv := vol_in c
  have hU := h.getU c.id
  unfold roomB at *
  generalize getB l c.id = b at *
  generalize c.vol = v at *
  rw [if_pos h2] at h4
  rw [if_pos h2, if_pos h2]
  obtain ⟨i, a, e, f⟩ := b
  unfold Bk.U at hU
  simp only at hU
  have hk' : k = 0 ∨ k = 1 ∨ k = 2 := by omega
  rcases hk' with rfl | rfl | rfl
  · simp only [bkl, Bk.plus, stp, if_true] at h4 ⊢
    grind
  · simp only [bkl, Bk.plus, stp, if_true, show ¬ ((1 : Int) = 0) by decide, if_false] at h4 ⊢
    grind
  · simp only [bkl, Bk.plus, stp, if_true, show ¬ ((2 : Int) = 0) by decide, show ¬ ((2 : Int) = 1) by decide, if_false] at h4 ⊢
    grind
theorem more_no {l : List Bk} (h : Inv l) (id k : Int) : ¬ relC l id k ((row l id).at k + 1) := fun hb => by
  obtain ⟨_, _, h3⟩ := hb
  omega
end Go.Let

/-
  What the ledger's functions come to: dropping.
-/
namespace Go.Let
open Go.Ev
set_option linter.unusedVariables false
set_option linter.unusedSimpArgs false
theorem l_index (ids : List Int) (v : Int) (hl : ids.length ≤ 1073741824) (t : Tok) (sz : Nat) (hsz : sz = 1 ∨ ids = []) : ∀ (post pre : List Int), ids = pre ++ post → v ∉ pre →
    ∀ (ρ : Nat → D) (h0 : ρ 0 = .slice t sz (ids.map (D.int .i64))) (h1 : ρ 1 = .int .i64 v) (h7 : ρ 7 = .int .i64 ids.length) (h8 : ρ 8 = .int .i64 pre.length) (Q : X → (Nat → D) → Store → Prop),
    (v ∉ ids → ∀ ρ', Q (.exit 0) ρ' Store.empty) → (v ∈ ids → ∀ ρ' (n : Nat), ρ' 4 = .int .i64 n → Q .ret ρ' Store.empty) → WC Γ (.loop c_slices_Index_int_l0) ρ Store.empty Q := by
  intro post
  induction post with
  | nil =>
    intro pre hp hn ρ h0 h1 h7 h8 Q hQ hQ2
    rw [List.append_nil] at hp
    subst hp
    rw [← upd_self h0, ← upd_self h1, ← upd_self h7, ← upd_self h8]
    refine WC_loop ?_
    repeat' (first
 | (refine I_WS ?_; first
 | (refine I_bin ?_; first
 | refine W_lssF rfl rfl rfl rfl (by omega) ?_)
 | refine WS_nil ?_)
 | refine WC_seq ?_
 | refine WC_opsS ?_
 | refine WC_condF rfl ?_
 | refine WC_exit ?_)
    exact hQ hn _
  | cons x post ih =>
    intro pre hp hn ρ h0 h1 h7 h8 Q hQ hQ2
    have hv := at_mid hp
    have hlen : ids.length = pre.length + (post.length + 1) := by rw [hp]; simp
    rw [← upd_self h0, ← upd_self h1, ← upd_self h7, ← upd_self h8]
    refine WC_loop ?_
    repeat' (first
 | (refine I_WS ?_; first
 | (refine I_mov ?_; first
 | refine W_mov (v := .int _ _) rfl rfl rfl ?_
 | refine W_mov (v := .slice _ _ _) rfl rfl rfl ?_)
 | (refine I_bin ?_; first
 | refine W_lssT rfl rfl rfl rfl (by omega) ?_
 | (refine W_eql rfl rfl rfl rfl ?_ ?_ <;> intro _)
 | refine W_add rfl rfl rfl rfl (by first | exact w64 (by omega) | rfl) ?_)
 | (refine I_load ?_; first
 | refine W_loadE (agg := false) (d := .int _ _) rfl rfl rfl hv rfl ?_)
 | refine W_iaddr rfl rfl rfl rfl (by first | rfl | exact sz_of (by assumption) (by omega)) (by first | decide | (simp only [List.length_map]; omega)) ?_
 | refine WS_nil ?_)
 | refine WC_seq ?_
 | refine WC_opsS ?_
 | refine WC_skip ?_
 | refine WC_condT rfl ?_
 | refine WC_condF rfl ?_
 | refine WC_block ?_
 | refine WC_ret ?_)
    · rename_i hvx
      exact hQ2 (by rw [hp, hvx]; simp) _ pre.length rfl
    · rename_i hvx
      refine ih (pre ++ [x]) (by simp [hp]) (by simp [hn, hvx]) _ rfl rfl rfl (by rw [List.length_append]; rfl) Q hQ hQ2
theorem s_Index (ids : List Int) (v : Int) (hl : ids.length ≤ 1073741824) (t : Tok) (sz : Nat) (hsz : sz = 1 ∨ ids = []) : ∃ n : Int, (0 ≤ n ↔ v ∈ ids) ∧ EvP Γ 68 [.slice t sz (ids.map (D.int .i64)), .int .i64 v] (.int .i64 n) := by
  by_cases h : v ∈ ids
  · have : EvX Γ 68 [.slice t sz (ids.map (D.int .i64)), .int .i64 v] (fun r => ∃ n : Nat, r = .int .i64 n) := by
      refine EvX_code rfl rfl ?_
      repeat' (first
 | (refine I_WS ?_; first
 | (refine I_mov ?_; first
 | refine W_mov (v := .int _ _) rfl rfl rfl ?_
 | refine W_mov (v := .slice _ _ _) rfl rfl rfl ?_)
 | refine W_lenM rfl rfl rfl ?_
 | refine WS_nil ?_)
 | refine WC_seq ?_
 | refine WC_opsS ?_
 | refine WC_block ?_)
      refine l_index ids v hl t sz hsz ids [] rfl (by simp) _ rfl rfl rfl rfl _ (fun hn => absurd h hn) (fun _ ρ n h4 => ?_)
      rw [← upd_self h4]
      exact ⟨by simp, _, rfl, n, rfl⟩
    obtain ⟨r, ⟨n, rfl⟩, hr⟩ := this
    exact ⟨n, by simp [h], hr⟩
  · refine ⟨-1, by simp [h], ?_⟩
    refine EvP_code rfl rfl ?_
    repeat' (first
 | (refine I_WS ?_; first
 | (refine I_mov ?_; first
 | refine W_mov (v := .int _ _) rfl rfl rfl ?_
 | refine W_mov (v := .slice _ _ _) rfl rfl rfl ?_)
 | refine W_lenM rfl rfl rfl ?_
 | refine WS_nil ?_)
 | refine WC_seq ?_
 | refine WC_opsS ?_
 | refine WC_block ?_)
    refine l_index ids v hl t sz hsz ids [] rfl (by simp) _ rfl rfl rfl rfl _ (fun hn ρ => ?_) (fun hn => absurd hn h)
    repeat' (first
 | (refine I_WS ?_; first
 | (refine I_mov ?_; first
 | refine W_mov (v := .int _ _) rfl rfl rfl ?_)
 | refine WS_nil ?_)
 | refine WC_seq ?_
 | refine WC_opsS ?_
 | refine WC_ret ?_)
    exact fin_int (by simp) rfl rfl
theorem s_Contains (ids : List Int) (v : Int) (hl : ids.length ≤ 1073741824) (t : Tok) (sz : Nat) (hsz : sz = 1 ∨ ids = []) : EvP Γ 57 [.slice t sz (ids.map (D.int .i64)), .int .i64 v] (.bool (decide (v ∈ ids))) := by
  obtain ⟨n, hn, hi⟩ := s_Index ids v hl t.strip sz hsz
  have hi' := fun (t : Tok) => s_Index ids v hl t sz hsz
  refine EvP_code rfl rfl ?_
  repeat' (first
 | (refine I_WS ?_; first
 | (refine I_mov ?_; first
 | refine W_mov (v := .int _ _) rfl rfl rfl ?_
 | refine W_mov (v := .bool _) rfl rfl rfl ?_
 | refine W_mov (v := .slice _ _ _) rfl rfl rfl ?_)
 | (refine I_bin ?_; first
 | (refine W_geq rfl rfl rfl rfl ?_ ?_ <;> intro _))
 | (refine I_call ?_; first
 | refine W_call rfl rfl rfl hi rfl rfl ?_)
 | refine WS_nil ?_)
 | refine WC_seq ?_
 | refine WC_opsS ?_
 | refine WC_ret ?_)
  all_goals
    rename_i h
    exact fin_bool (by simp) rfl (by simp [← hn, h])
/-- The predicate of Drop, that reads the IDs in the box. -/
theorem s_Drop1 (ids : List Int) (hl : ids.length ≤ 1073741824) (t : Tok) (sz : Nat) (hsz : sz = 1 ∨ ids = []) (st : Store) (h0 : (st.boxes 0).bind Box.cs = some [.slice t sz (ids.map (D.int .i64))]) (hn : 0 < st.next) (b : Bk) : EvRO Γ 56 [b.e, .ptr 0 0] st (.bool (decide (b.id ∈ ids))) := by
  have hc := fun t => s_Contains ids b.id hl t sz hsz
  refine EvRO_code rfl rfl rfl ?_
  repeat' (first
 | (refine I_WS ?_; first
 | (refine I_mov ?_; first
 | refine W_mov (v := .bool _) rfl rfl rfl ?_)
 | (refine I_load ?_; first
 | refine W_loadC (agg := false) (d := .slice _ _ _) rfl rfl rfl (bxs (Nat.ne_of_lt hn) h0) hn rfl ?_
 | refine W_load (agg := false) (d := .int _ _) rfl rfl rfl (bxc rfl) (Nat.le_refl _) rfl ?_)
 | (refine I_call ?_; first
 | refine W_callB rfl rfl rfl (hc _) rfl ?_ ?_ <;> intro _)
 | (refine I_box ?_; first
 | refine W_boxA rfl rfl rfl rfl rfl ?_)
 | refine W_faddr rfl rfl rfl ?_
 | refine WS_nil ?_)
 | refine WC_seq ?_
 | refine WC_opsS ?_
 | refine WC_ret ?_)
  all_goals
    rename_i h
    exact ⟨.inr rfl, by rw [h]; rfl⟩
/-- What stays. -/
def keepL (ids : List Int) (l : List Bk) : List Bk := l.filter (fun b => decide (b.id ∉ ids))
theorem rs_at {l : List Bk} {i : Nat} {b : Bk} (h : l[i]? = some b) : (l.map Bk.e)[i]? = some (.agg [.int .i64 b.id, .int .i64 b.u0, .int .i64 b.u1, .int .i64 b.u2]) := by
  rw [List.getElem?_map, h]; rfl
theorem cells4 {l : List Bk} : ∀ d ∈ l.map Bk.e, d.cells.length = 4 := fun d hd => (elems d hd).1
theorem l_idx (ids : List Int) (hl : ids.length ≤ 1073741824) (ti : Tok) (si : Nat) (hsi : si = 1 ∨ ids = []) (l : List Bk) (hll : l.length ≤ 1073741824) (st : Store) (p c : Nat) (h00 : (st.boxes 0).bind Box.cs = some [.slice ti si (ids.map (D.int .i64))]) (hn0 : 0 < st.next) (hR : RowAt st p 4 (l.map Bk.e)) : ∀ (post pre : List Bk), l = pre ++ post → (∀ b ∈ pre, b.id ∉ ids) →
    ∀ (ρ : Nat → D) (h0 : ρ 0 = .rs p 0 4 l.length c) (h1 : ρ 1 = .func 56 [.ptr 0 0]) (h7 : ρ 7 = .int .i64 l.length) (h8 : ρ 8 = .int .i64 pre.length) (Q : X → (Nat → D) → Store → Prop),
    ((∀ b ∈ l, b.id ∉ ids) → ∀ ρ', Q (.exit 0) ρ' st) → (∀ (pre' : List Bk) (x : Bk) (post' : List Bk), l = pre' ++ x :: post' → (∀ b ∈ pre', b.id ∉ ids) → x.id ∈ ids → ∀ ρ', ρ' 4 = .int .i64 pre'.length → Q .ret ρ' st) → WC Γ (.loop c_slices_IndexFunc_Booked_l0) ρ st Q := by
  intro post
  induction post with
  | nil =>
    intro pre hp hn ρ h0 h1 h7 h8 Q hQ hQ2
    rw [List.append_nil] at hp
    subst hp
    rw [← upd_self h0, ← upd_self h1, ← upd_self h7, ← upd_self h8]
    refine WC_loop ?_
    repeat' (first
 | (refine I_WS ?_; first
 | (refine I_bin ?_; first
 | refine W_lssF rfl rfl rfl rfl (by omega) ?_)
 | refine WS_nil ?_)
 | refine WC_seq ?_
 | refine WC_opsS ?_
 | refine WC_condF rfl ?_
 | refine WC_exit ?_)
    exact hQ hn _
  | cons x post ih =>
    intro pre hp hn ρ h0 h1 h7 h8 Q hQ hQ2
    have hv := rs_at (at_mid hp)
    have hlen : l.length = pre.length + (post.length + 1) := by rw [hp]; simp
    have hpr := s_Drop1 ids hl ti si hsi st h00 hn0
    rw [← upd_self h0, ← upd_self h1, ← upd_self h7, ← upd_self h8]
    refine WC_loop ?_
    repeat' (first
 | (refine I_WS ?_; first
 | (refine I_mov ?_; first
 | refine W_mov (v := .int _ _) rfl rfl rfl ?_
 | refine W_mov (v := .func _ _) rfl rfl rfl ?_
 | refine W_mov (v := .rs _ _ _ _ _) rfl rfl rfl ?_)
 | (refine I_bin ?_; first
 | refine W_lssT rfl rfl rfl rfl (by omega) ?_
 | refine W_add rfl rfl rfl rfl (by first | exact w64 (by omega) | rfl) ?_)
 | (refine I_load ?_; first
 | refine W_loadRow (j := pre.length) rfl rfl hR (Nat.zero_add _) cells4 hv rfl ?_)
 | (refine I_call ?_; first
 | (refine W_callROB rfl rfl rfl (hpr x) rfl ?_ ?_ <;> intro _))
 | refine W_iaddrR rfl rfl rfl rfl (by first | decide | omega) ?_
 | refine WS_nil ?_)
 | refine WC_seq ?_
 | refine WC_opsS ?_
 | refine WC_skip ?_
 | refine WC_condT rfl ?_
 | refine WC_condF rfl ?_
 | refine WC_block ?_
 | refine WC_ret ?_)
    · rename_i hx
      exact hQ2 pre x post hp hn (of_decide_eq_true hx) _ rfl
    · rename_i hx
      refine ih (pre ++ [x]) (by simp [hp]) (fun b hb => ?_) _ rfl rfl rfl (by rw [List.length_append]; rfl) Q hQ hQ2
      rcases List.mem_append.mp hb with hb | hb
      · exact hn b hb
      · rw [List.mem_singleton.mp hb]
        exact of_decide_eq_false hx
theorem first_eq {ids : List Int} : ∀ {pre pre' : List Bk} {x x' : Bk} {post post' : List Bk}, pre ++ x :: post = pre' ++ x' :: post' → (∀ b ∈ pre, b.id ∉ ids) → x.id ∈ ids → (∀ b ∈ pre', b.id ∉ ids) → x'.id ∈ ids → pre = pre'
  | [], [], _, _, _, _, _, _, _, _, _ => rfl
  | [], a :: pre', x, x', post, post', h, _, hx, h', _ => by
    simp only [List.nil_append, List.cons_append, List.cons.injEq] at h
    exact absurd hx (by rw [h.1]; exact h' a (by simp))
  | a :: pre, [], x, x', post, post', h, h1, _, _, hx => by
    simp only [List.nil_append, List.cons_append, List.cons.injEq] at h
    exact absurd hx (by rw [← h.1]; exact h1 a (by simp))
  | a :: pre, a' :: pre', x, x', post, post', h, h1, hx, h1', hx' => by
    simp only [List.cons_append, List.cons.injEq] at h
    rw [h.1, first_eq h.2 (fun b hb => h1 b (List.mem_cons_of_mem _ hb)) hx (fun b hb => h1' b (List.mem_cons_of_mem _ hb)) hx']
/-- The place of the first one that goes, or -1. -/
theorem s_IndexFunc (ids : List Int) (hl : ids.length ≤ 1073741824) (ti : Tok) (si : Nat) (hsi : si = 1 ∨ ids = []) (l : List Bk) (hll : l.length ≤ 1073741824) (st : Store) (p c : Nat) (h00 : (st.boxes 0).bind Box.cs = some [.slice ti si (ids.map (D.int .i64))]) (hn0 : 0 < st.next) (hR : RowAt st p 4 (l.map Bk.e)) :
    ((∀ b ∈ l, b.id ∉ ids) ∧ EvRO Γ 67 [.rs p 0 4 l.length c, .func 56 [.ptr 0 0]] st (.int .i64 (-1))) ∨
    (∃ (pre : List Bk) (x : Bk) (post : List Bk), l = pre ++ x :: post ∧ (∀ b ∈ pre, b.id ∉ ids) ∧ x.id ∈ ids ∧ EvRO Γ 67 [.rs p 0 4 l.length c, .func 56 [.ptr 0 0]] st (.int .i64 pre.length)) := by
  have hstart : ∀ (Q : X → (Nat → D) → Store → Prop), ((∀ b ∈ l, b.id ∉ ids) → ∀ ρ', Q (.exit 0) ρ' { st with lim := st.next, tlim := st.ntok }) → (∀ (pre' : List Bk) (x : Bk) (post' : List Bk), l = pre' ++ x :: post' → (∀ b ∈ pre', b.id ∉ ids) → x.id ∈ ids → ∀ ρ', ρ' 4 = .int .i64 pre'.length → Q .ret ρ' { st with lim := st.next, tlim := st.ntok }) →
      ∀ ρ : Nat → D, ρ 0 = .rs p 0 4 l.length c → ρ 1 = .func 56 [.ptr 0 0] → ρ 7 = .int .i64 l.length → ρ 8 = .int .i64 (0 : Nat) → WC Γ (.loop c_slices_IndexFunc_Booked_l0) ρ { st with lim := st.next, tlim := st.ntok } Q :=
    fun Q a b ρ e0 e1 e7 e8 => l_idx ids hl ti si hsi l hll { st with lim := st.next, tlim := st.ntok } p c h00 hn0 (hR.of rfl) l [] rfl (by simp) ρ e0 e1 e7 e8 Q a b
  by_cases hall : ∀ b ∈ l, b.id ∉ ids
  · refine .inl ⟨hall, EvRO_code rfl rfl rfl ?_⟩
    repeat' (first
 | (refine I_WS ?_; first
 | (refine I_mov ?_; first
 | refine W_mov (v := .int _ _) rfl rfl rfl ?_
 | refine W_mov (v := .rs _ _ _ _ _) rfl rfl rfl ?_)
 | refine W_lenR rfl rfl rfl ?_
 | refine WS_nil ?_)
 | refine WC_seq ?_
 | refine WC_opsS ?_
 | refine WC_block ?_)
    refine hstart _ (fun _ ρ => ?_) (fun pre' x post' he _ hx => absurd hx (hall x (by rw [he]; simp))) _ rfl rfl rfl rfl
    repeat' (first
 | (refine I_WS ?_; first
 | (refine I_mov ?_; first
 | refine W_mov (v := .int _ _) rfl rfl rfl ?_)
 | refine WS_nil ?_)
 | refine WC_seq ?_
 | refine WC_opsS ?_
 | refine WC_ret ?_)
    exact ⟨.inr rfl, rfl⟩
  · have : ∃ (pre : List Bk) (x : Bk) (post : List Bk), l = pre ++ x :: post ∧ (∀ b ∈ pre, b.id ∉ ids) ∧ x.id ∈ ids := by
      clear hstart hR hll
      induction l with
      | nil => exact absurd (by simp) hall
      | cons b l ih =>
        by_cases hb : b.id ∈ ids
        · exact ⟨[], b, l, rfl, by simp, hb⟩
        · obtain ⟨pre, x, post, h1, h2, h3⟩ := ih (fun h => hall (fun c hc => by
            rcases List.mem_cons.mp hc with rfl | hc
            · exact hb
            · exact h c hc))
          refine ⟨b :: pre, x, post, by rw [h1]; rfl, fun c hc => ?_, h3⟩
          rcases List.mem_cons.mp hc with rfl | hc
          · exact hb
          · exact h2 c hc
    obtain ⟨pre, x, post, he, h1, h2⟩ := this
    refine .inr ⟨pre, x, post, he, h1, h2, EvRO_code rfl rfl rfl ?_⟩
    repeat' (first
 | (refine I_WS ?_; first
 | (refine I_mov ?_; first
 | refine W_mov (v := .int _ _) rfl rfl rfl ?_
 | refine W_mov (v := .rs _ _ _ _ _) rfl rfl rfl ?_)
 | refine W_lenR rfl rfl rfl ?_
 | refine WS_nil ?_)
 | refine WC_seq ?_
 | refine WC_opsS ?_
 | refine WC_block ?_)
    refine hstart _ (fun h => absurd h hall) (fun pre' x' post' he' h1' h2' ρ h4 => ?_) _ rfl rfl rfl rfl
    rw [← upd_self h4]
    have : pre' = pre := first_eq (he'.symm.trans he) h1' h2' h1 h2
    subst this
    exact ⟨.inr rfl, rfl⟩
theorem keepL_snoc (ids : List Int) (l : List Bk) (x : Bk) : keepL ids (l ++ [x]) = if x.id ∈ ids then keepL ids l else keepL ids l ++ [x] := by
  unfold keepL
  rw [List.filter_append]
  by_cases h : x.id ∈ ids <;> simp [h]
theorem l_del (ids : List Int) (hl : ids.length ≤ 1073741824) (ti : Tok) (si : Nat) (hsi : si = 1 ∨ ids = []) (l : List Bk) (hll : l.length ≤ 1073741824) (p c : Nat) (hp0 : p ≠ 0) : ∀ (post pre junk : List Bk), l = pre ++ post → (keepL ids pre).length + junk.length = pre.length → junk ≠ [] →
    ∀ (ρ : Nat → D) (st : Store) (h00 : (st.boxes 0).bind Box.cs = some [.slice ti si (ids.map (D.int .i64))]) (hn0 : 0 < st.next) (hR : RowIs st p 4 ((keepL ids pre ++ junk ++ post).map Bk.e)) (h0 : ρ 0 = .rs p 0 4 l.length c) (h1 : ρ 1 = .func 56 [.ptr 0 0]) (h5 : ρ 5 = .int .i64 (keepL ids pre).length) (h6 : ρ 6 = .int .i64 pre.length) (Q : X → (Nat → D) → Store → Prop),
    (∀ ρ' st' junk', st'.lim = st.lim → RowIs st' p 4 ((keepL ids l).map Bk.e ++ List.map Bk.e junk') → (keepL ids l).length + junk'.length = l.length → ρ' 0 = .rs p 0 4 l.length c → ρ' 5 = .int .i64 (keepL ids l).length → Q (.exit 0) ρ' st') → WC Γ (.loop c_slices_DeleteFunc_Booked_l0) ρ st Q := by
  intro post
  induction post with
  | nil =>
    intro pre junk hp hj hj0 ρ st h00 hn0 hR h0 h1 h5 h6 Q hQ
    rw [List.append_nil] at hp
    subst hp
    rw [← upd_self h0, ← upd_self h1, ← upd_self h5, ← upd_self h6]
    refine WC_loop ?_
    repeat' (first
 | (refine I_WS ?_; first
 | (refine I_mov ?_; first
 | refine W_mov (v := .int _ _) rfl rfl rfl ?_
 | refine W_mov (v := .rs _ _ _ _ _) rfl rfl rfl ?_)
 | (refine I_bin ?_; first
 | refine W_lssF rfl rfl rfl rfl (by omega) ?_)
 | refine W_lenR rfl rfl rfl ?_
 | refine WS_nil ?_)
 | refine WC_seq ?_
 | refine WC_opsS ?_
 | refine WC_condF rfl ?_
 | refine WC_exit ?_)
    exact hQ _ _ junk rfl (by simpa using hR) hj rfl rfl
  | cons x post ih =>
    intro pre junk hp hj hj0 ρ st h00 hn0 hR h0 h1 h5 h6 Q hQ
    obtain ⟨y, junk, rfl⟩ := List.exists_cons_of_ne_nil hj0
    have hlen : l.length = pre.length + (post.length + 1) := by rw [hp]; simp
    have hjl : (keepL ids pre).length + (junk.length + 1) = pre.length := by simpa using hj
    have hv : ((keepL ids pre ++ y :: junk ++ x :: post).map Bk.e)[pre.length]? = some (.agg [.int .i64 x.id, .int .i64 x.u0, .int .i64 x.u1, .int .i64 x.u2]) := by
      refine rs_at ?_
      rw [List.getElem?_append_right (by simp; omega)]
      rw [show pre.length - (keepL ids pre ++ y :: junk).length = 0 by simp; omega]
      rfl
    have hset : ((keepL ids pre ++ y :: junk ++ x :: post).map Bk.e).set (keepL ids pre).length (.agg [.int .i64 x.id, .int .i64 x.u0, .int .i64 x.u1, .int .i64 x.u2]) = ((keepL ids pre ++ [x]) ++ (junk ++ [x]) ++ post).map Bk.e := by
      rw [List.append_assoc, List.map_append, List.set_append_right _ _ (by simp)]
      simp [Bk.e]
    have hkl : (keepL ids pre).length < ((keepL ids pre ++ y :: junk ++ x :: post).map Bk.e).length := by simp
    have hlim2 : st.lim ≤ st.next := Nat.le_trans hR.1 (Nat.le_of_lt hR.2.1)
    have hne : p ≠ st.next := Nat.ne_of_lt hR.2.1
    have h0n : 0 ≠ st.next := by omega
    rw [← upd_self h0, ← upd_self h1, ← upd_self h5, ← upd_self h6]
    refine WC_loop ?_
    repeat' (first
 | (refine I_WS ?_; first
 | refine W_iaddrR (j := (keepL ids pre).length) rfl rfl rfl rfl (by omega) ?_
 | (refine I_mov ?_; first
 | refine W_mov (v := .int _ _) rfl rfl rfl ?_
 | refine W_mov (v := .func _ _) rfl rfl rfl ?_
 | refine W_mov (v := .rs _ _ _ _ _) rfl rfl rfl ?_)
 | (refine I_bin ?_; first
 | refine W_lssT rfl rfl rfl rfl (by omega) ?_
 | refine W_add rfl rfl rfl rfl (by first | exact w64 (by omega) | rfl) ?_)
 | (refine I_load ?_; first
 | refine W_loadRow (j := pre.length) rfl rfl hR.at (Nat.zero_add _) cells4 hv rfl ?_
 | refine W_load (agg := true) (d := .agg [_, _, _, _]) rfl rfl rfl (bxc rfl) (by first | exact Nat.zero_le _ | assumption | exact Nat.le_trans hlim (Nat.zero_le _) | omega) rfl ?_)
 | (refine I_call ?_; first
 | (refine W_callROB rfl rfl rfl (s_Drop1 ids hl ti si hsi _ (bxs h0n (bxs h0n h00)) (Nat.succ_pos _) x) rfl ?_ ?_ <;> intro _))
 | (refine I_store ?_; first
 | (refine W_storeRow (j := (keepL ids pre).length) rfl rfl rfl (RowIs.of hR hR.1 (Nat.lt_succ_of_lt hR.2.1) ((upd_ne _ _ hne).trans (upd_ne _ _ hne))) (Nat.zero_add _) cells4 hkl rfl rfl rfl ?_ <;> intro st2 e1 e2 e3 e4 e5 hR2 hoth)
 | refine W_store (cs' := [_, _, _, _]) rfl rfl (upd_same _ _ _) rfl (by first | exact Nat.zero_le _ | assumption | exact Nat.le_trans hlim (Nat.zero_le _) | omega) rfl rfl rfl ?_)
 | refine W_not rfl rfl rfl ?_
 | refine W_lenR rfl rfl rfl ?_
 | refine W_alloc rfl rfl ?_
 | refine W_iaddrR rfl rfl rfl rfl (by first | decide | omega) ?_
 | refine WS_nil ?_)
 | refine WC_seq ?_
 | refine WC_opsS ?_
 | refine WC_skip ?_
 | refine WC_condT rfl ?_
 | refine WC_condF rfl ?_
 | refine WC_block ?_)
    · rename_i hx
      have hx := of_decide_eq_true hx
      refine ih (pre ++ [x]) (y :: junk ++ [x]) (by simp [hp]) (by rw [keepL_snoc, if_pos hx]; simp; omega) (by simp) _ _ (bxs h0n (bxs h0n h00)) (Nat.succ_pos _) ?_ rfl rfl (by rw [keepL_snoc, if_pos hx]; rfl) (by rw [List.length_append]; rfl) Q ?_
      · rw [keepL_snoc, if_pos hx]
        have hR' : RowIs st p 4 ((keepL ids pre ++ (y :: junk ++ [x]) ++ post).map Bk.e) := by simpa using hR
        exact hR'.of hR.1 (Nat.lt_succ_of_lt hR.2.1) ((upd_ne _ _ hne).trans (upd_ne _ _ hne))
      · exact fun ρ' st' junk' a b d e f => hQ ρ' st' junk' a b d e f
    · rename_i hx
      have hx := of_decide_eq_false hx
      rw [hset] at hR2
      have hb0 : st2.boxes 0 = upd (upd st.boxes st.next (some (.cells [.int .i64 0, .int .i64 0, .int .i64 0, .int .i64 0]))) st.next (some (.cells [.int .i64 x.id, .int .i64 x.u0, .int .i64 x.u1, .int .i64 x.u2])) 0 := hoth 0 (Ne.symm hp0)
      refine ih (pre ++ [x]) (junk ++ [x]) (by simp [hp]) (by rw [keepL_snoc, if_neg hx]; simp; omega) (by simp) _ st2 (by rw [hb0]; exact bxs h0n (bxs h0n h00)) (by rw [e5]; exact Nat.succ_pos _) ?_ rfl rfl (by rw [keepL_snoc, if_neg hx, List.length_append]; rfl) (by rw [List.length_append]; rfl) Q ?_
      · rw [keepL_snoc, if_neg hx]
        exact hR2
      · exact fun ρ' st' junk' a b d e f => hQ ρ' st' junk' (a.trans e1) b d e f
theorem EvRWX_code {Γ : Nat → Option FD} {st : Store} {f : Nat} {cf : CF} {ds : List D} {P : D → Store → Prop} (hf : Γ f = some (.code cf)) (hro : cf.ro = false)
    (h : WC Γ cf.body (enter (ds.map D.strip)) st (fun x ρ1 st1 => (x = .normal ∨ x = .ret) ∧ ∃ r, resAll ρ1 st1 cf.res = some r ∧ P r.strip st1)) : ∃ r st', EvRW Γ f ds st r st' ∧ P r st' := by
  obtain ⟨x, ρ1, st1, h1, h2, r, h3, h4⟩ := h
  exact ⟨r.strip, st1, EvRW_code hf hro ⟨x, ρ1, st1, h1, h2, by rw [h3]; rfl⟩, h4⟩
theorem keepL_all {ids : List Int} {l : List Bk} (h : ∀ b ∈ l, b.id ∉ ids) : keepL ids l = l := by
  unfold keepL
  rw [List.filter_eq_self]
  exact fun b hb => decide_eq_true (h b hb)
theorem keepL_le (ids : List Int) (l : List Bk) : (keepL ids l).length ≤ l.length := List.length_filter_le _ _
theorem s_DeleteFunc (ids : List Int) (hl : ids.length ≤ 1073741824) (ti : Tok) (si : Nat) (hsi : si = 1 ∨ ids = []) (l : List Bk) (hll : l.length ≤ 1073741824) (st : Store) (p : Nat) (hp0 : p ≠ 0) (h00 : (st.boxes 0).bind Box.cs = some [.slice ti si (ids.map (D.int .i64))]) (hn0 : 0 < st.next) (hR : RowIs st p 4 (l.map Bk.e)) :
    ∃ r st', EvRW Γ 55 [.rs p 0 4 l.length l.length, .func 56 [.ptr 0 0]] st r st' ∧ r = .rs p 0 4 (keepL ids l).length l.length ∧ RowIs st' p 4 ((keepL ids l).map Bk.e) ∧ st'.lim = st.lim := by
  refine EvRWX_code (P := fun r st' => r = .rs p 0 4 (keepL ids l).length l.length ∧ RowIs st' p 4 ((keepL ids l).map Bk.e) ∧ st'.lim = st.lim) rfl rfl ?_
  rcases s_IndexFunc ids hl ti si hsi l hll st p l.length h00 hn0 hR.at with ⟨hall, hi⟩ | ⟨pre, x, post, he, h1, h2, hi⟩
  · repeat' (first
 | (refine I_WS ?_; first
 | (refine I_mov ?_; first
 | refine W_mov (v := .int _ _) rfl rfl rfl ?_
 | refine W_mov (v := .slice _ _ _) rfl rfl rfl ?_
 | refine W_mov (v := .func _ _) rfl rfl rfl ?_
 | refine W_mov (v := .rs _ _ _ _ _) rfl rfl rfl ?_)
 | (refine I_bin ?_; first
 | refine W_eqlT rfl rfl rfl rfl (by omega) ?_)
 | (refine I_call ?_; first
 | refine W_callRO rfl rfl rfl hi rfl rfl ?_)
 | refine WS_nil ?_)
 | refine WC_seq ?_
 | refine WC_opsS ?_
 | refine WC_condT rfl ?_
 | refine WC_ret ?_)
    exact ⟨.inr rfl, _, rfl, by rw [keepL_all hall]; rfl, by rw [keepL_all hall]; exact hR, rfl⟩
  · have hlen : l.length = pre.length + (post.length + 1) := by rw [he]; simp
    repeat' (first
 | (refine I_WS ?_; first
 | (refine I_mov ?_; first
 | refine W_mov (v := .int _ _) rfl rfl rfl ?_
 | refine W_mov (v := .slice _ _ _) rfl rfl rfl ?_
 | refine W_mov (v := .func _ _) rfl rfl rfl ?_
 | refine W_mov (v := .rs _ _ _ _ _) rfl rfl rfl ?_)
 | (refine I_bin ?_; first
 | refine W_eqlF rfl rfl rfl rfl (by omega) ?_
 | refine W_add rfl rfl rfl rfl (by first | exact w64 (by omega) | rfl) ?_)
 | (refine I_call ?_; first
 | refine W_callRO rfl rfl rfl hi rfl rfl ?_)
 | refine WS_nil ?_)
 | refine WC_seq ?_
 | refine WC_opsS ?_
 | refine WC_skip ?_
 | refine WC_condF rfl ?_
 | refine WC_block ?_)
    have hkp : keepL ids (pre ++ [x]) = pre := by rw [keepL_snoc, if_pos h2, keepL_all h1]
    refine l_del ids hl ti si hsi l hll p l.length hp0 post (pre ++ [x]) [x] (by simp [he]) (by rw [hkp]; simp) (by simp) _ st h00 hn0 (by rw [hkp]; simpa [he] using hR) rfl rfl (by rw [hkp]; rfl) (by rw [List.length_append]; rfl) _ ?_
    intro ρ' st' junk' e1 hR' e2 k0 k5
    have hkl := keepL_le ids l
    rw [← upd_self k0, ← upd_self k5]
    repeat' (first
 | (refine I_WS ?_; first
 | refine W_sliceRLo (j := (keepL ids l).length) rfl rfl (by simp [A.ev, upd, asNat]) hkl (Nat.le_refl _) rfl ?_
 | (refine W_clearRow (j := (keepL ids l).length) (zs := junk'.map Bk.e) rfl rfl hR' (Nat.zero_add _) (by simp) (by simp; omega) cells4 rfl rfl rfl ?_ <;> intro st2 f1 _ _ _ _ hR2 _)
 | refine W_sliceRHi (j := (keepL ids l).length) rfl rfl (by simp [A.ev, upd, asNat]) hkl rfl ?_
 | (refine I_mov ?_; first
 | refine W_mov (v := .int _ _) rfl rfl rfl ?_
 | refine W_mov (v := .rs _ _ _ _ _) rfl rfl rfl ?_)
 | refine WS_nil ?_)
 | refine WC_seq ?_
 | refine WC_opsS ?_
 | refine WC_ret ?_)
    exact ⟨.inr rfl, _, rfl, rfl, hR2, f1.trans e1⟩
theorem s_IndexFunc0 (t : Tok) (s : Nat) (st : Store) : EvRO Γ 67 [.slice t s [], .func 56 [.ptr 0 0]] st (.int .i64 (-1)) := by
  have hz0 : ([] : List D).length = 0 := rfl
  refine EvRO_code rfl rfl rfl ?_
  repeat' (first
 | (refine I_WS ?_; first
 | (refine I_mov ?_; first
 | refine W_mov (v := .int _ _) rfl rfl rfl ?_
 | refine W_mov (v := .slice _ _ _) rfl rfl rfl ?_)
 | (refine I_bin ?_; first
 | refine W_lssF rfl rfl rfl rfl (by omega) ?_)
 | refine W_lenS rfl rfl rfl ?_
 | refine WS_nil ?_)
 | refine WC_loop ?_
 | refine WC_seq ?_
 | refine WC_opsS ?_
 | refine WC_condF rfl ?_
 | refine WC_block ?_
 | refine WC_exit ?_
 | refine WC_ret ?_)
  exact ⟨.inr rfl, rfl⟩
theorem s_DeleteFunc0 (t : Tok) (s : Nat) (st : Store) : ∃ r st', EvRW Γ 55 [.slice t s [], .func 56 [.ptr 0 0]] st r st' ∧ r = .slice t.strip.strip s [] ∧ st' = st := by
  refine EvRWX_code (P := fun r st' => r = .slice t.strip.strip s [] ∧ st' = st) rfl rfl ?_
  repeat' (first
 | (refine I_WS ?_; first
 | (refine I_mov ?_; first
 | refine W_mov (v := .int _ _) rfl rfl rfl ?_
 | refine W_mov (v := .slice _ _ _) rfl rfl rfl ?_
 | refine W_mov (v := .func _ _) rfl rfl rfl ?_)
 | (refine I_bin ?_; first
 | refine W_eqlT rfl rfl rfl rfl (by omega) ?_)
 | (refine I_call ?_; first
 | refine W_callRO rfl rfl rfl (s_IndexFunc0 _ _ _) rfl rfl ?_)
 | refine WS_nil ?_)
 | refine WC_seq ?_
 | refine WC_opsS ?_
 | refine WC_condT rfl ?_
 | refine WC_ret ?_)
  exact ⟨.inr rfl, _, rfl, rfl, rfl⟩
theorem clone_row {l : List Bk} (h : l ≠ []) (hl : l.length ≤ 1073741824) (t : Tok) : EvP Γ 50 [.slice t 4 (l.map Bk.e)] (.slice .row 4 (l.map Bk.e)) := by
  refine EvP_prim (F := cloneF 4 32) rfl ?_
  have hall : ((l.map Bk.e).all (fun d => d.cells.length == 4 && d.cells.all D.plain && (match d.cells with | [c] => (match d with | .agg _ => false | _ => true) | _ => (match d with | .agg _ => true | _ => false)))) = true := by
    rw [List.all_eq_true]
    intro d hd
    obtain ⟨a, _, rfl⟩ := List.mem_map.mp hd
    rfl
  simp only [cloneF]
  rw [if_neg (by simpa using h), if_pos ⟨trivial, by simp; omega, hall⟩]
theorem s_Drop (ids : List Int) (hl : ids.length ≤ 1073741824) (ti : Tok) (si : Nat) (hsi : si = 1 ∨ ids = []) (l : List Bk) (hll : l.length ≤ 1073741824) (t : Tok) (sz : Nat) (hsz : sz = 4 ∨ l = []) :
    EvX Γ 34 [.slice t sz (l.map Bk.e), .slice ti si (ids.map (D.int .i64))] (IsR Bk.e 4 (keepL ids l)) := by
  refine EvX_code rfl rfl ?_
  by_cases h : l = []
  · subst h
    have hc : EvP Γ 50 [.slice t.strip sz []] (.slice .no 4 []) := EvP_prim (F := cloneF 4 32) rfl (by simp [cloneF])
    repeat' (first
 | (refine I_WS ?_; first
 | (refine I_mov ?_; first
 | refine W_mov (v := .slice _ _ _) rfl rfl rfl ?_)
 | (refine I_call ?_; first
 | refine W_callM0 rfl rfl rfl hc rfl ?_)
 | (refine I_box ?_; first
 | refine W_box1 (v := .slice _ _ _) rfl rfl rfl rfl rfl ?_)
 | refine W_mkfunc (cs := [.ptr _ _]) rfl rfl rfl ?_
 | refine WS_nil ?_)
 | refine WC_seq ?_
 | refine WC_opsS ?_)
    obtain ⟨r, st', hd, rfl, rfl⟩ := s_DeleteFunc0 .no 4 { Store.empty with boxes := upd Store.empty.boxes Store.empty.next (some (.cells [.slice ti si (ids.map (D.int .i64))])), next := Store.empty.next + 1 }
    repeat' (first
 | (refine I_WS ?_; first
 | (refine I_mov ?_; first
 | refine W_mov (v := .slice _ _ _) rfl rfl rfl ?_)
 | (refine I_call ?_; first
 | refine W_callRW rfl rfl rfl hd ?_)
 | refine WS_nil ?_)
 | refine WC_ret ?_)
    exact ⟨.inr rfl, _, rfl, .inl ⟨rfl, .no, 4, rfl, .inr (.inl rfl)⟩⟩
  · have hsz4 : sz = 4 := by
      rcases hsz with h1 | h1
      · exact h1
      · exact absurd h1 h
    subst hsz4
    have hc := clone_row h hll t.strip
    repeat' (first
 | (refine I_WS ?_; first
 | (refine I_mov ?_; first
 | refine W_mov (v := .slice _ _ _) rfl rfl rfl ?_)
 | (refine I_call ?_; first
 | (refine W_callRowM rfl rfl rfl hc rfl rfl elems (by simp [Store.empty]) ?_ <;> intro st2 e1 _ _ _ hR hoth e2))
 | (refine I_box ?_; first
 | refine W_box1 (v := .slice _ _ _) rfl rfl rfl rfl rfl ?_)
 | refine W_mkfunc (cs := [.ptr _ _]) rfl rfl rfl ?_
 | refine WS_nil ?_)
 | refine WC_seq ?_
 | refine WC_opsS ?_)
    have hb0 : (st2.boxes 0).bind Box.cs = some [.slice ti si (ids.map (D.int .i64))] := by rw [hoth 0 (Nat.succ_pos _)]; rfl
    obtain ⟨r, st', hd, rfl, hR', hl'⟩ := s_DeleteFunc ids hl ti si hsi l hll st2 1 (by decide) hb0 (by rw [e2]; exact Nat.succ_pos _) hR
    have hd' : EvRW Γ 55 [.rs 1 0 4 (l.map Bk.e).length (l.map Bk.e).length, .func 56 [.ptr 0 0]] st2 (.rs 1 0 4 (keepL ids l).length l.length) st' := by rw [List.length_map]; exact hd
    repeat' (first
 | (refine I_WS ?_; first
 | (refine I_mov ?_; first
 | refine W_mov (v := .rs _ _ _ _ _) rfl rfl rfl ?_)
 | (refine I_call ?_; first
 | refine W_callRW rfl rfl rfl hd' ?_)
 | refine WS_nil ?_)
 | refine WC_ret ?_)
    exact ⟨.inr rfl, finR rfl (.inr ⟨_, _, _, rfl, rfl, hR'⟩) (by decide) (fun b => ⟨rfl, rfl⟩) rfl⟩
end Go.Let

/-
  What is dropped stays right; an act.
-/
namespace Go.Let
open Go.Ev
set_option linter.unusedVariables false
set_option linter.unusedSimpArgs false
theorem Inv.keep {l : List Bk} (h : Inv l) (ids : List Int) : Inv (keepL ids l) :=
  ⟨h.1.filter _, fun b hb => h.2 b (List.mem_filter.mp hb).1⟩
/-- An act. -/
structure Ac where
  do' : Int
  c : Co
  k : Int
  n : Int
def Ac.e (a : Ac) : D := .agg [.int .i64 a.do', .int .i64 a.c.id, .int .i64 a.c.fr, .int .i64 a.c.to, .int .i64 a.c.st, .int .i64 a.c.en, .int .i64 a.c.ra, .int .i64 a.k, .int .i64 a.n]
end Go.Let

/-
  What the reference's functions come to.
-/
namespace Go.Let
open Go.Ev
set_option linter.unusedVariables false
set_option linter.unusedSimpArgs false
theorem r_Node (n : Int) : EvP Γ 74 [.int .i64 n] (.bool (decide (1 ≤ n ∧ n ≤ 255))) := by
  refine EvP_code rfl rfl ?_
  repeat' (first
 | (refine I_WS ?_; first
 | (refine I_mov ?_; first
 | refine W_skip rfl ?_
 | refine W_mov (v := .int _ _) rfl rfl rfl ?_
 | refine W_mov (v := .bool _) rfl rfl rfl ?_)
 | (refine I_bin ?_; first
 | refine W_skip rfl ?_
 | (refine W_leq rfl rfl rfl rfl ?_ ?_ <;> intro _)
 | (refine W_geq rfl rfl rfl rfl ?_ ?_ <;> intro _))
 | (refine I_pick ?_; first
 | refine W_pick (v := .bool _) rfl rfl rfl rfl ?_)
 | refine WS_nil ?_)
 | refine WC_seq ?_
 | refine WC_opsS ?_
 | refine WC_ret ?_)
  all_goals (refine fin_bool (by simp) rfl ?_; first | (simp_all; done) | (simp_all; omega) | (simp only [eq_comm (a := true), eq_comm (a := false), decide_eq_true_eq, decide_eq_false_iff_not] at *; omega) | grind)
theorem r_class (k : Int) : EvP Γ 52 [.int .i64 k] (.bool (decide (0 ≤ k ∧ k < 3))) := by
  refine EvP_code rfl rfl ?_
  repeat' (first
 | (refine I_WS ?_; first
 | (refine I_mov ?_; first
 | refine W_skip rfl ?_
 | refine W_mov (v := .int _ _) rfl rfl rfl ?_
 | refine W_mov (v := .bool _) rfl rfl rfl ?_)
 | (refine I_bin ?_; first
 | refine W_skip rfl ?_
 | (refine W_lss rfl rfl rfl rfl ?_ ?_ <;> intro _)
 | (refine W_geq rfl rfl rfl rfl ?_ ?_ <;> intro _))
 | (refine I_pick ?_; first
 | refine W_pick (v := .bool _) rfl rfl rfl rfl ?_)
 | refine WS_nil ?_)
 | refine WC_seq ?_
 | refine WC_opsS ?_
 | refine WC_ret ?_)
  all_goals (refine fin_bool (by simp) rfl ?_; first | (simp_all; done) | (simp_all; omega) | (simp only [eq_comm (a := true), eq_comm (a := false), decide_eq_true_eq, decide_eq_false_iff_not] at *; omega) | grind)
theorem r_pair (a b s e : Int) : EvP Γ 66 [.int .i64 a, .int .i64 b, .int .i64 s, .int .i64 e] (.bool (decide (((1 ≤ a ∧ a ≤ 255) ∧ (1 ≤ b ∧ b ≤ 255) ∧ a ≠ b) ∧ (0 ≤ s ∧ s < e ∧ e ≤ 2147483647)))) := by
  refine EvP_code rfl rfl ?_
  repeat' (first
 | (refine I_WS ?_; first
 | (refine I_mov ?_; first
 | refine W_skip rfl ?_
 | refine W_mov (v := .int _ _) rfl rfl rfl ?_
 | refine W_mov (v := .bool _) rfl rfl rfl ?_)
 | (refine I_bin ?_; first
 | refine W_skip rfl ?_
 | (refine W_lss rfl rfl rfl rfl ?_ ?_ <;> intro _)
 | (refine W_leq rfl rfl rfl rfl ?_ ?_ <;> intro _)
 | (refine W_geq rfl rfl rfl rfl ?_ ?_ <;> intro _)
 | (refine W_neq rfl rfl rfl rfl ?_ ?_ <;> intro _))
 | (refine I_call ?_; first
 | refine W_callB rfl rfl rfl (r_Node _) rfl ?_ ?_ <;> intro _)
 | (refine I_pick ?_; first
 | refine W_pick (v := .bool _) rfl rfl rfl rfl ?_)
 | refine WS_nil ?_)
 | refine WC_seq ?_
 | refine WC_opsS ?_
 | refine WC_ret ?_)
  all_goals (refine fin_bool (by simp) rfl ?_; first | (simp_all; done) | (simp_all; omega) | (simp only [eq_comm (a := true), eq_comm (a := false), decide_eq_true_eq, decide_eq_false_iff_not] at *; omega) | grind)
theorem r_Contact (id fr to st en ra : Int) : EvP Γ 54 [.agg [.int .i64 id, .int .i64 fr, .int .i64 to, .int .i64 st, .int .i64 en, .int .i64 ra]] (.bool (decide (okC id fr to st en ra))) := by
  refine EvP_code rfl rfl ?_
  unfold okC
  repeat' (first
 | (refine I_WS ?_; first
 | (refine I_mov ?_; first
 | refine W_mov (v := .bool _) rfl rfl rfl ?_)
 | (refine I_bin ?_; first
 | refine W_skip rfl ?_
 | (refine W_leq rfl rfl rfl rfl ?_ ?_ <;> intro _)
 | (refine W_geq rfl rfl rfl rfl ?_ ?_ <;> intro _))
 | (refine I_load ?_; first
 | refine W_skip rfl ?_
 | refine W_load (agg := false) (d := .int _ _) rfl rfl rfl rfl (by first | exact Nat.zero_le _ | omega) rfl ?_)
 | (refine I_call ?_; first
 | refine W_callB rfl rfl rfl (r_pair _ _ _ _) rfl ?_ ?_ <;> intro _)
 | (refine I_pick ?_; first
 | refine W_pick (v := .bool _) rfl rfl rfl rfl ?_)
 | (refine I_box ?_; first
 | refine W_boxA rfl rfl rfl rfl rfl ?_)
 | refine W_faddr rfl rfl rfl ?_
 | refine W_skip rfl ?_
 | refine WS_nil ?_)
 | refine WC_seq ?_
 | refine WC_opsS ?_
 | refine WC_ret ?_)
  all_goals (refine fin_bool (by simp) rfl ?_; first | (simp_all; done) | (simp_all; omega) | (simp only [eq_comm (a := true), eq_comm (a := false), decide_eq_true_eq, decide_eq_false_iff_not] at *; omega) | grind)
theorem r_Volume (id fr to st en ra : Int) : EvP Γ 59 [.agg [.int .i64 id, .int .i64 fr, .int .i64 to, .int .i64 st, .int .i64 en, .int .i64 ra]] (.int .i64 (volC id fr to st en ra)) := by
  refine EvP_code rfl rfl ?_
  by_cases h : okC id fr to st en ra
  · have hv := volC_in id fr to st en ra
    unfold volC at hv ⊢
    rw [if_pos h] at hv ⊢
    have h' := h
    unfold okC at h'
    repeat' (first
 | (refine I_WS ?_; first
 | refine W_mul (s := (en - st) * ra) rfl rfl rfl rfl (by rw [Int.mul_comm, w64 (by omega)]) ?_
 | (refine I_mov ?_; first
 | refine W_mov (v := .int _ _) rfl rfl rfl ?_)
 | (refine I_bin ?_; first
 | refine W_sub rfl rfl rfl rfl (by first | exact w64 (by omega) | rfl) ?_)
 | (refine I_load ?_; first
 | refine W_load (agg := false) (d := .int _ _) rfl rfl rfl rfl (by first | exact Nat.zero_le _ | omega) rfl ?_
 | refine W_load (agg := true) (d := .agg [_, _, _, _, _, _]) rfl rfl rfl rfl (by first | exact Nat.zero_le _ | omega) rfl ?_)
 | (refine I_call ?_; first
 | refine W_callBT rfl rfl rfl (r_Contact _ _ _ _ _ _) (decide_eq_true h) rfl ?_)
 | (refine I_box ?_; first
 | refine W_boxA rfl rfl rfl rfl rfl ?_)
 | refine W_not rfl rfl rfl ?_
 | refine W_faddr rfl rfl rfl ?_
 | refine WS_nil ?_)
 | refine WC_seq ?_
 | refine WC_opsS ?_
 | refine WC_skip ?_
 | refine WC_condF rfl ?_
 | refine WC_ret ?_)
    exact fin_int (by simp) rfl rfl
  · repeat' (first
 | (refine I_WS ?_; first
 | (refine I_mov ?_; first
 | refine W_mov (v := .int _ _) rfl rfl rfl ?_)
 | (refine I_load ?_; first
 | refine W_load (agg := true) (d := .agg [_, _, _, _, _, _]) rfl rfl rfl rfl (by first | exact Nat.zero_le _ | omega) rfl ?_)
 | (refine I_call ?_; first
 | refine W_callBF rfl rfl rfl (r_Contact _ _ _ _ _ _) (decide_eq_false h) rfl ?_)
 | (refine I_box ?_; first
 | refine W_boxA rfl rfl rfl rfl rfl ?_)
 | refine W_not rfl rfl rfl ?_
 | refine WS_nil ?_)
 | refine WC_seq ?_
 | refine WC_opsS ?_
 | refine WC_condT rfl ?_
 | refine WC_ret ?_)
    exact fin_int (by simp) rfl (by simp [volC, h])
theorem getB_first {id : Int} {x : Bk} {post : List Bk} : ∀ {pre : List Bk}, (∀ b ∈ pre, b.id ≠ id) → x.id = id → getB (pre ++ x :: post) id = x
  | [], _, he => by rw [List.nil_append, getB, if_pos he]
  | c :: pre, hn, he => by rw [List.cons_append, getB, if_neg (hn c (by simp))]; exact getB_first (fun b hb => hn b (by simp [hb])) he
/-- A store of one box of three numbers. -/
def st3 (a b c : Int) : Store := { boxes := upd (fun _ => none) 0 (some (.cells [.int .i64 a, .int .i64 b, .int .i64 c])), next := 1, toks := fun _ => false, ntok := 0, lim := 0, tlim := 0 }
theorem rl_Used (l : List Bk) (id : Int) (hl : l.length ≤ 1073741824) (t : Tok) (sz : Nat) (hsz : sz = 4 ∨ l = []) : ∀ (post pre : List Bk), l = pre ++ post → (∀ b ∈ pre, b.id ≠ id) →
    ∀ (ρ : Nat → D) (h0 : ρ 0 = .slice t sz (l.map Bk.e)) (h1 : ρ 1 = .int .i64 id) (h4 : ρ 4 = .ptr 0 0) (h5 : ρ 5 = .int .i64 pre.length) (Q : X → (Nat → D) → Store → Prop),
    ((∀ b ∈ l, b.id ≠ id) → ∀ ρ', ρ' 4 = .ptr 0 0 → Q (.exit 0) ρ' (st3 0 0 0)) → (∀ st', st'.boxes = upd (st3 0 0 0).boxes 0 (some (.cells [.int .i64 (getB l id).u0, .int .i64 (getB l id).u1, .int .i64 (getB l id).u2])) → st'.lim = 0 → ∀ ρ', ρ' 4 = .ptr 0 0 → Q .ret ρ' st') → WC Γ (.loop c_feluccaref09_Used_l0) ρ (st3 0 0 0) Q := by
  intro post
  induction post with
  | nil =>
    intro pre hp hn ρ h0 h1 h4 h5 Q hQ hQ2
    rw [List.append_nil] at hp
    subst hp
    rw [← upd_self h0, ← upd_self h1, ← upd_self h4, ← upd_self h5]
    refine WC_loop ?_
    repeat' (first
 | (refine I_WS ?_; first
 | (refine I_mov ?_; first
 | refine W_mov (v := .int _ _) rfl rfl rfl ?_
 | refine W_mov (v := .slice _ _ _) rfl rfl rfl ?_)
 | (refine I_bin ?_; first
 | refine W_lssF rfl rfl rfl rfl (by omega) ?_)
 | refine W_lenM rfl rfl rfl ?_
 | refine WS_nil ?_)
 | refine WC_seq ?_
 | refine WC_opsS ?_
 | refine WC_condF rfl ?_
 | refine WC_exit ?_)
    exact hQ hn _ rfl
  | cons x post ih =>
    intro pre hp hn ρ h0 h1 h4 h5 Q hQ hQ2
    have hv := at_mid hp
    have hlen : l.length = pre.length + (post.length + 1) := by rw [hp]; simp
    have hg : x.id = id → getB l id = x := fun he => by rw [hp]; exact getB_first hn he
    rw [← upd_self h0, ← upd_self h1, ← upd_self h4, ← upd_self h5]
    refine WC_loop ?_
    repeat' (first
 | (refine I_WS ?_; first
 | (refine I_mov ?_; first
 | refine W_mov (v := .int _ _) rfl rfl rfl ?_
 | refine W_mov (v := .slice _ _ _) rfl rfl rfl ?_)
 | (refine I_bin ?_; first
 | refine W_lssT rfl rfl rfl rfl (by omega) ?_
 | (refine W_eql rfl rfl rfl rfl ?_ ?_ <;> intro _)
 | refine W_add rfl rfl rfl rfl (by first | exact w64 (by omega) | rfl) ?_)
 | (refine I_load ?_; first
 | refine W_loadE (agg := false) (d := .int _ _) rfl rfl rfl hv rfl ?_
 | refine W_loadE (agg := true) (d := .agg [_, _, _]) rfl rfl rfl hv rfl ?_)
 | (refine I_store ?_; first
 | refine W_store (cs' := [_, _, _]) rfl rfl rfl rfl (by first | exact Nat.zero_le _ | omega) rfl rfl rfl ?_)
 | refine W_lenM rfl rfl rfl ?_
 | refine W_faddrE rfl rfl rfl ?_
 | refine W_iaddr rfl rfl rfl rfl (by first | rfl | exact sz_of (by assumption) (by omega)) (by first | decide | (simp only [List.length_map]; omega)) ?_
 | refine WS_nil ?_)
 | refine WC_seq ?_
 | refine WC_opsS ?_
 | refine WC_skip ?_
 | refine WC_condT rfl ?_
 | refine WC_condF rfl ?_
 | refine WC_block ?_
 | refine WC_ret ?_)
    · rename_i he
      refine hQ2 _ ?_ rfl _ rfl
      rw [hg he]
      rfl
    · rename_i he
      refine ih (pre ++ [x]) (by simp [hp]) (fun b hb => ?_) _ rfl rfl rfl (by rw [List.length_append]; rfl) Q hQ hQ2
      rcases List.mem_append.mp hb with hb | hb
      · exact hn b hb
      · rw [List.mem_singleton.mp hb]; exact he
theorem r_Used (l : List Bk) (id : Int) (hl : l.length ≤ 1073741824) (t : Tok) (sz : Nat) (hsz : sz = 4 ∨ l = []) : EvP Γ 37 [.slice t sz (l.map Bk.e), .int .i64 id] (.agg [.int .i64 (getB l id).u0, .int .i64 (getB l id).u1, .int .i64 (getB l id).u2]) := by
  refine EvP_code rfl rfl ?_
  repeat' (first
 | (refine I_WS ?_; first
 | (refine I_mov ?_; first
 | refine W_mov (v := .int _ _) rfl rfl rfl ?_)
 | refine W_alloc rfl rfl ?_
 | refine WS_nil ?_)
 | refine WC_seq ?_
 | refine WC_opsS ?_
 | refine WC_block ?_)
  refine rl_Used l id hl t sz hsz l [] rfl (by simp) _ rfl rfl rfl rfl _ (fun hn ρ h4 => ?_) (fun st' hb hlim ρ h4 => ?_)
  · rw [← upd_self h4]
    repeat' (first
 | (refine I_WS ?_; first
 | (refine I_build ?_; first
 | refine W_build (cs := [_, _, _]) rfl rfl rfl ?_)
 | (refine I_store ?_; first
 | refine W_store (cs' := [_, _, _]) rfl rfl rfl rfl (by first | exact Nat.zero_le _ | omega) rfl rfl rfl ?_)
 | refine WS_nil ?_)
 | refine WC_seq ?_
 | refine WC_opsS ?_
 | refine WC_ret ?_)
    rw [getB_none hn]
    exact fin_ground (r' := .agg [.int _ _, .int _ _, .int _ _]) (by simp) rfl rfl rfl
  · refine fin_ground (r' := .agg [.int .i64 (getB l id).u0, .int .i64 (getB l id).u1, .int .i64 (getB l id).u2]) (by simp) ?_ rfl rfl
    show resD ρ st' (.cell 4 true 3) = _
    simp only [resD, h4, Store.cellsAt, hb, hlim, upd_same, Option.bind_some, Box.cs, Option.map_some, Nat.not_lt_zero, if_false]
    rfl
end Go.Let

/-
  What the reference's functions come to: backlog, room, the same, a copy.
-/
namespace Go.Let
open Go.Ev
set_option linter.unusedVariables false
set_option linter.unusedSimpArgs false
set_option maxHeartbeats 8000000 in
theorem r_Backlog (l : List Bk) (id k : Int) (hl : l.length ≤ 1073741824) (hu : (getB l id).U) (t : Tok) (sz : Nat) (hsz : sz = 4 ∨ l = []) : EvP Γ 39 [.slice t sz (l.map Bk.e), .int .i64 id, .int .i64 k] (.int .i64 (bkl (getB l id) k)) := by
  refine EvP_code rfl rfl ?_
  have hU := fun t sz hsz => r_Used l id hl t sz hsz
  generalize getB l id = r at *
  unfold Bk.U at hu
  by_cases hk : 0 ≤ k ∧ k < 3
  · have hk' : k = 0 ∨ k = 1 ∨ k = 2 := by omega
    rcases hk' with rfl | rfl | rfl
    all_goals
      repeat' (first
 | (refine I_WS ?_; first
 | refine W_add (s := 1) rfl rfl rfl rfl rfl ?_
 | refine W_add (s := 2) rfl rfl rfl rfl rfl ?_
 | refine W_add (s := 3) rfl rfl rfl rfl rfl ?_
 | (refine I_mov ?_; first
 | refine W_mov (v := .int _ _) rfl rfl rfl ?_
 | refine W_mov (v := .slice _ _ _) rfl rfl rfl ?_)
 | (refine I_bin ?_; first
 | refine W_lssT rfl rfl rfl rfl (by omega) ?_
 | refine W_lssF rfl rfl rfl rfl (by omega) ?_
 | refine W_add rfl rfl rfl rfl (by first | exact w64 (by omega) | rfl) ?_
 | refine W_sub rfl rfl rfl rfl (by first | exact w64 (by omega) | rfl) ?_)
 | (refine I_load ?_; first
 | refine W_load (agg := false) (d := .int _ _) rfl rfl rfl rfl (by first | exact Nat.zero_le _ | omega) rfl ?_)
 | (refine I_call ?_; first
 | refine W_callBT rfl rfl rfl (r_class _) (by decide) rfl ?_
 | refine W_call rfl rfl rfl (hU _ _ hsz) rfl rfl ?_)
 | (refine I_store ?_; first
 | refine W_store (cs' := [_, _, _]) rfl rfl rfl rfl (by first | exact Nat.zero_le _ | omega) rfl rfl rfl ?_)
 | refine W_not rfl rfl rfl ?_
 | refine W_min2 rfl rfl rfl rfl ?_
 | refine W_alloc rfl rfl ?_
 | refine W_iaddrA rfl rfl rfl rfl (by decide) ?_
 | refine WS_nil ?_)
 | refine WC_loop ?_
 | refine WC_seq ?_
 | refine WC_opsS ?_
 | refine WC_drawS ?_
 | refine WC_skip ?_
 | refine WC_condT rfl ?_
 | refine WC_condF rfl ?_
 | refine WC_block ?_
 | refine WC_exit ?_
 | refine WC_ret ?_
 | refine okF_intro rfl ?_)
      all_goals exact fin_int (by simp) rfl rfl
  · repeat' (first
 | (refine I_WS ?_; first
 | (refine I_mov ?_; first
 | refine W_mov (v := .int _ _) rfl rfl rfl ?_)
 | (refine I_call ?_; first
 | refine W_callBF rfl rfl rfl (r_class _) (decide_eq_false hk) rfl ?_)
 | refine W_not rfl rfl rfl ?_
 | refine WS_nil ?_)
 | refine WC_seq ?_
 | refine WC_opsS ?_
 | refine WC_condT rfl ?_
 | refine WC_ret ?_)
    refine fin_int (by simp) rfl ?_
    unfold bkl
    rw [if_neg (by omega), if_neg (by omega), if_neg (by omega)]
theorem r_Room (l : List Bk) (c : Co) (k : Int) (hl : l.length ≤ 1073741824) (hu : (getB l c.id).U) (t : Tok) (sz : Nat) (hsz : sz = 4 ∨ l = []) :
    EvP Γ 41 [.slice t sz (l.map Bk.e), c.e, .int .i64 k] (.int .i64 (roomB (getB l c.id) c k)) := by
  refine EvP_code rfl rfl ?_
  have hB := fun t sz hsz => r_Backlog l c.id k hl hu t sz hsz
  have hV := r_Volume c.id c.fr c.to c.st c.en c.ra
  have hVi : 0 ≤ volC c.id c.fr c.to c.st c.en c.ra ∧ volC c.id c.fr c.to c.st c.en c.ra ≤ 4611686014132420609 := vol_in c
  have hR := bkl_in hu k
  have hv : c.vol = volC c.id c.fr c.to c.st c.en c.ra := rfl
  unfold roomB
  rw [hv]
  by_cases hk : 0 ≤ k ∧ k < 3
  · repeat' (first
 | (refine I_WS ?_; first
 | (refine I_mov ?_; first
 | refine W_mov (v := .int _ _) rfl rfl rfl ?_
 | refine W_mov (v := .slice _ _ _) rfl rfl rfl ?_)
 | (refine I_bin ?_; first
 | refine W_sub rfl rfl rfl rfl (by first | exact w64 (by omega) | rfl) ?_)
 | (refine I_load ?_; first
 | refine W_load (agg := false) (d := .int _ _) rfl rfl rfl rfl (by first | exact Nat.zero_le _ | omega) rfl ?_
 | refine W_load (agg := true) (d := .agg [_, _, _, _, _, _]) rfl rfl rfl rfl (by first | exact Nat.zero_le _ | omega) rfl ?_)
 | (refine I_call ?_; first
 | refine W_callBT rfl rfl rfl (r_class _) (decide_eq_true hk) rfl ?_
 | refine W_call rfl rfl rfl (hB _ _ hsz) rfl rfl ?_
 | refine W_call rfl rfl rfl hV rfl rfl ?_)
 | (refine I_box ?_; first
 | refine W_boxA rfl rfl rfl rfl rfl ?_)
 | refine W_not rfl rfl rfl ?_
 | refine W_max2 rfl rfl rfl rfl ?_
 | refine W_faddr rfl rfl rfl ?_
 | refine WS_nil ?_)
 | refine WC_seq ?_
 | refine WC_opsS ?_
 | refine WC_drawS ?_
 | refine WC_skip ?_
 | refine WC_condF rfl ?_
 | refine WC_ret ?_
 | refine okF_intro rfl ?_)
    refine fin_int (by simp) rfl ?_
    rw [if_pos hk]
    split <;> split <;> omega
  · repeat' (first
 | (refine I_WS ?_; first
 | (refine I_mov ?_; first
 | refine W_mov (v := .int _ _) rfl rfl rfl ?_)
 | (refine I_call ?_; first
 | refine W_callBF rfl rfl rfl (r_class _) (decide_eq_false hk) rfl ?_)
 | (refine I_box ?_; first
 | refine W_boxA rfl rfl rfl rfl rfl ?_)
 | refine W_not rfl rfl rfl ?_
 | refine WS_nil ?_)
 | refine WC_seq ?_
 | refine WC_opsS ?_
 | refine WC_condT rfl ?_
 | refine WC_ret ?_)
    refine fin_int (by simp) rfl ?_
    rw [if_neg hk]
theorem rl_eq (a b : List Bk) (hl : a.length ≤ 1073741824) (hab : a.length = b.length) (t t' : Tok) (sa sb : Nat) (ha : sa = 4 ∨ a = []) (hb : sb = 4 ∨ b = []) : ∀ (m i : Nat), a.length - i = m → i ≤ a.length → a.take i = b.take i →
    ∀ (ρ : Nat → D) (h0 : ρ 0 = .slice t sa (a.map Bk.e)) (h1 : ρ 1 = .slice t' sb (b.map Bk.e)) (h5 : ρ 5 = .int .i64 i) (Q : X → (Nat → D) → Store → Prop),
    (a = b → ∀ ρ', Q (.exit 0) ρ' Store.empty) → (a ≠ b → ∀ ρ', ρ' 4 = .bool false → Q .ret ρ' Store.empty) → WC Γ (.loop c_feluccaref09_Same_l0) ρ Store.empty Q := by
  intro m
  induction m with
  | zero =>
    intro i hm hi he ρ h0 h1 h5 Q hQ hQ2
    rw [← upd_self h0, ← upd_self h1, ← upd_self h5]
    refine WC_loop ?_
    repeat' (first
 | (refine I_WS ?_; first
 | (refine I_mov ?_; first
 | refine W_mov (v := .int _ _) rfl rfl rfl ?_
 | refine W_mov (v := .slice _ _ _) rfl rfl rfl ?_)
 | (refine I_bin ?_; first
 | refine W_lssF rfl rfl rfl rfl (by omega) ?_)
 | refine W_lenM rfl rfl rfl ?_
 | refine WS_nil ?_)
 | refine WC_seq ?_
 | refine WC_opsS ?_
 | refine WC_condF rfl ?_
 | refine WC_exit ?_)
    refine hQ ?_ _
    rw [List.take_of_length_le (by omega), List.take_of_length_le (by omega)] at he
    exact he
  | succ m ih =>
    intro i hm hi he ρ h0 h1 h5 Q hQ hQ2
    rw [← upd_self h0, ← upd_self h1, ← upd_self h5]
    obtain ⟨x, hx⟩ : ∃ v, a[i]? = some v := ⟨_, List.getElem?_eq_getElem (by omega)⟩
    obtain ⟨y, hy⟩ : ∃ v, b[i]? = some v := ⟨_, List.getElem?_eq_getElem (by omega)⟩
    refine WC_loop ?_
    repeat' (first
 | (refine I_WS ?_; first
 | (refine I_mov ?_; first
 | refine W_mov (v := .int _ _) rfl rfl rfl ?_
 | refine W_mov (v := .bool _) rfl rfl rfl ?_
 | refine W_mov (v := .slice _ _ _) rfl rfl rfl ?_)
 | (refine I_bin ?_; first
 | refine W_lssT rfl rfl rfl rfl (by omega) ?_
 | refine W_add rfl rfl rfl rfl (by first | exact w64 (by omega) | rfl) ?_)
 | (refine I_load ?_; first
 | refine W_loadE (agg := true) (d := .agg [_, _, _, _]) rfl rfl rfl hx rfl ?_
 | refine W_loadE (agg := true) (d := .agg [_, _, _, _]) rfl rfl rfl hy rfl ?_)
 | (refine W_neqP rfl rfl rfl rfl rfl rfl (eqAt4 _ _ _ _ _ _ _ _) ?_ ?_ <;> intro hq)
 | refine W_lenM rfl rfl rfl ?_
 | refine W_iaddr rfl rfl rfl rfl (by first | rfl | exact sz_of (by assumption) (by omega)) (by first | decide | (simp only [List.length_map]; omega)) ?_
 | refine WS_nil ?_)
 | refine WC_seq ?_
 | refine WC_opsS ?_
 | refine WC_drawS ?_
 | refine WC_skip ?_
 | refine WC_condT rfl ?_
 | refine WC_condF rfl ?_
 | refine WC_block ?_
 | refine WC_ret ?_
 | refine okF_intro rfl ?_)
    · refine ih (i + 1) (by omega) (by omega) ?_ _ rfl rfl rfl Q hQ hQ2
      rw [decide_eq_true_eq, Bk.ext'] at hq
      rw [List.take_add_one, List.take_add_one, he, hx, hy, hq]
    · refine hQ2 (fun hab => ?_) _ rfl
      rw [decide_eq_false_iff_not, Bk.ext'] at hq
      subst hab
      rw [hx] at hy
      exact hq (by cases hy; rfl)
theorem r_Same (a b : List Bk) (hl : a.length ≤ 1073741824) (t t' : Tok) (sa sb : Nat) (ha : sa = 4 ∨ a = []) (hb : sb = 4 ∨ b = []) : EvP Γ 28 [.slice t sa (a.map Bk.e), .slice t' sb (b.map Bk.e)] (.bool (decide (a = b))) := by
  refine EvP_code rfl rfl ?_
  by_cases hab : a.length = b.length
  · repeat' (first
 | (refine I_WS ?_; first
 | (refine I_mov ?_; first
 | refine W_mov (v := .int _ _) rfl rfl rfl ?_
 | refine W_mov (v := .bool _) rfl rfl rfl ?_
 | refine W_mov (v := .slice _ _ _) rfl rfl rfl ?_)
 | (refine I_bin ?_; first
 | refine W_neqF rfl rfl rfl rfl (by omega) ?_)
 | refine W_lenM rfl rfl rfl ?_
 | refine WS_nil ?_)
 | refine WC_seq ?_
 | refine WC_opsS ?_
 | refine WC_skip ?_
 | refine WC_condF rfl ?_
 | refine WC_block ?_)
    refine rl_eq a b hl hab t t' sa sb ha hb a.length 0 rfl (by omega) rfl _ rfl rfl rfl _ (fun he ρ => ?_) (fun he ρ h4 => ?_)
    · repeat' (first
 | (refine I_WS ?_; first
 | (refine I_mov ?_; first
 | refine W_mov (v := .bool _) rfl rfl rfl ?_)
 | refine WS_nil ?_)
 | refine WC_seq ?_
 | refine WC_opsS ?_
 | refine WC_ret ?_)
      exact fin_bool (by simp) rfl (by simp [he])
    · rw [← upd_self h4]
      exact fin_bool (by simp) rfl (by simp [he])
  · repeat' (first
 | (refine I_WS ?_; first
 | (refine I_mov ?_; first
 | refine W_mov (v := .bool _) rfl rfl rfl ?_
 | refine W_mov (v := .slice _ _ _) rfl rfl rfl ?_)
 | (refine I_bin ?_; first
 | refine W_neqT rfl rfl rfl rfl (by omega) ?_)
 | refine W_lenM rfl rfl rfl ?_
 | refine WS_nil ?_)
 | refine WC_seq ?_
 | refine WC_opsS ?_
 | refine WC_condT rfl ?_
 | refine WC_ret ?_)
    exact fin_bool (by simp) rfl (by simp; intro he; exact hab (by rw [he]))
end Go.Let
