/-
  The ledger: what is right stays right; booking on two contacts.
-/
import Derived.Test.YtbmhgigljbikhaaLedLedP
import Derived.Test.YtbmhgigljbikhaaEvEvZ2
set_option linter.unusedVariables false
set_option linter.unusedSimpArgs false
set_option linter.unnecessarySimpa false
namespace Go.Led
open Go.Ev
set_option linter.unusedVariables false
set_option linter.unusedSimpArgs false
/-- A right ledger. -/
def Inv (l : List Bk) : Prop := Srt l ∧ ∀ b ∈ l, (1 ≤ b.id ∧ b.id ≤ 1048576) ∧ ¬ b.Z ∧ b.U
theorem rt_iff (l : List Bk) : ∀ p, rt p l = true ↔ (∀ b ∈ l, p < b.id ∧ b.id ≤ 1048576 ∧ ¬ b.Z ∧ b.U) ∧ Srt l := by
  induction l with
  | nil => intro p; simp [rt, Srt]
  | cons b l ih =>
    intro p
    rw [rt, Bool.and_eq_true, decide_eq_true_eq, ih, Srt.cons]
    constructor
    · rintro ⟨h1, h2, h3⟩
      refine ⟨fun c hc => ?_, fun c hc => (h2 c hc).1, h3⟩
      rcases List.mem_cons.mp hc with rfl | hc
      · exact h1
      · have := h2 c hc
        exact ⟨by omega, this.2⟩
    · rintro ⟨h1, h2, h3⟩
      exact ⟨h1 b List.mem_cons_self, fun c hc => ⟨h2 c hc, (h1 c (List.mem_cons_of_mem _ hc)).2⟩, h3⟩
theorem rt_inv (l : List Bk) : rt 0 l = true ↔ Inv l := by
  rw [rt_iff]
  constructor
  · rintro ⟨h1, h2⟩
    exact ⟨h2, fun b hb => by have := h1 b hb; exact ⟨⟨by omega, this.2.1⟩, this.2.2⟩⟩
  · rintro ⟨h1, h2⟩
    exact ⟨fun b hb => by have := h2 b hb; exact ⟨by omega, this.1.2, this.2⟩, h1⟩
theorem Inv.nz {l : List Bk} (h : Inv l) : NZ l := fun b hb => (h.2 b hb).2.1
theorem Inv.getU {l : List Bk} (h : Inv l) (id : Int) : (getB l id).U := by
  rcases getB_or l id with h1 | h1
  · exact (h.2 _ h1).2.2
  · rw [h1]; simp [Bk.U]
theorem Inv.rowU {l : List Bk} (h : Inv l) (id : Int) : (row l id).U := by rw [row_get h.1]; exact h.getU id
theorem Inv.put {l : List Bk} (h : Inv l) {r : Bk} (h1 : 1 ≤ r.id ∧ r.id ≤ 1048576) (h2 : r.U) : Inv (putB l r) := by
  refine ⟨srt_put h.1 r, fun b hb => ?_⟩
  rcases (mem_put h.1).mp hb with ⟨rfl, h3⟩ | h3
  · exact ⟨h1, h3, h2⟩
  · exact h.2 b h3.1
theorem Bk.plus_id (b : Bk) (k n : Int) : (b.plus k n).id = b.id := by unfold Bk.plus; split; rfl; split <;> rfl
theorem setM_put {l : List Bk} (h : Inv l) (id k n : Int) : setM l id k n = putB l ((getB l id).plus k n) := by
  unfold setM
  rw [withM_put, row_get h.1]
  have : ((getB l id).plus k n).id = id := by rw [Bk.plus_id, getB_id]
  congr 1
  generalize (getB l id).plus k n = r at *
  obtain ⟨a, b, c, d⟩ := r
  simp only at this
  rw [this]
def roomB (b : Bk) (c : Co) (k : Int) : Int := if 0 ≤ k ∧ k < 3 then (if 0 > c.vol - bkl b k then 0 else c.vol - bkl b k) else 0
theorem roomM_B {l : List Bk} (h : Inv l) (c : Co) (k : Int) : roomM l c k = roomB (getB l c.id) c k := by
  unfold roomM room roomB Co.vol
  rw [row_get h.1]
theorem bkl_ge {b : Bk} (h : b.U) {k : Int} (hk : 0 ≤ k ∧ k < 3) : b.at k ≤ bkl b k := by
  have hk' : k = 0 ∨ k = 1 ∨ k = 2 := by omega
  unfold Bk.U at h
  rcases hk' with rfl | rfl | rfl <;> simp only [bkl, Bk.at, stp] <;> grind
theorem vol_in (c : Co) : 0 ≤ c.vol ∧ c.vol ≤ 4611686014132420609 := volC_in _ _ _ _ _ _
theorem plus_U {b : Bk} (h : b.U) {k n : Int} (hk : 0 ≤ k ∧ k < 3) (h1 : 0 ≤ b.at k + n) (h2 : b.at k + n ≤ 4611686018427387904) : (b.plus k n).U := by
  have hk' : k = 0 ∨ k = 1 ∨ k = 2 := by omega
  unfold Bk.U at *
  rcases hk' with rfl | rfl | rfl <;> simp only [Bk.plus, Bk.at] at * <;> simp at * <;> omega
theorem book_U {l : List Bk} (h : Inv l) {c : Co} {k n : Int} (hb : bookC l c k n) : ((getB l c.id).plus k n).U := by
  obtain ⟨h1, h2, h3, h4⟩ := hb
  rw [roomM_B h] at h4
  have hv := vol_in c
  have hg := bkl_ge (h.getU c.id) h2
  have hi := bkl_in (h.getU c.id) k
  have hU := h.getU c.id
  have hat : 0 ≤ (getB l c.id).at k := by
    unfold Bk.U at hU
    unfold Bk.at
    grind
  unfold roomB at h4
  rw [if_pos h2] at h4
  refine plus_U hU h2 (by omega) ?_
  split at h4
  · have h0 : n = 0 := by omega
    have : (getB l c.id).at k ≤ 4611686018427387904 := by
      unfold Bk.U at hU
      unfold Bk.at
      grind
    omega
  · omega
theorem Co.ok_id {c : Co} (h : c.ok) : 1 ≤ c.id ∧ c.id ≤ 1048576 := h.2.2.1
theorem bookM_put {l : List Bk} (h : Inv l) (c : Co) (k n : Int) : bookM l c k n = if bookC l c k n then putB l ((getB l c.id).plus k n) else l := by
  unfold bookM
  rw [setM_put h]
theorem Inv.book {l : List Bk} (h : Inv l) (c : Co) (k n : Int) : Inv (bookM l c k n) := by
  rw [bookM_put h]
  split
  · rename_i hb
    refine h.put ?_ (book_U h hb)
    rw [Bk.plus_id, getB_id]
    exact Co.ok_id hb.1
  · exact h
theorem book_len {l : List Bk} (h : Inv l) (c : Co) (k n : Int) : (bookM l c k n).length ≤ l.length + 1 := by
  rw [bookM_put h]
  split
  · exact len_put _ _
  · omega
theorem get_book {l : List Bk} (h : Inv l) (c : Co) (k n id : Int) : getB (bookM l c k n) id = if id = c.id ∧ bookC l c k n then (getB l c.id).plus k n else getB l id := by
  rw [bookM_put h]
  by_cases hb : bookC l c k n
  · rw [if_pos hb, get_put h.1, Bk.plus_id, getB_id]
    by_cases hid : id = c.id <;> simp [hid, hb]
  · rw [if_neg hb, if_neg (fun h => hb h.2)]
theorem bookC_B {l : List Bk} (h : Inv l) (c : Co) (k n : Int) : bookC l c k n ↔ c.ok ∧ (0 ≤ k ∧ k < 3) ∧ 0 ≤ n ∧ n ≤ roomB (getB l c.id) c k := by
  unfold bookC
  rw [roomM_B h]
theorem bookC_other {l : List Bk} (h : Inv l) {c d : Co} (hcd : c.id ≠ d.id) (k n m : Int) : bookC (bookM l c k n) d k m ↔ bookC l d k m := by
  rw [bookC_B (h.book c k n), bookC_B h, get_book h, if_neg (fun h => hcd h.1.symm)]
theorem book_comm {l : List Bk} (h : Inv l) {c d : Co} (hcd : c.id ≠ d.id) (k n m : Int) : bookM (bookM l c k n) d k m = bookM (bookM l d k m) c k n := by
  have h1 := h.book c k n
  have h2 := h.book d k m
  have h3 := h1.book d k m
  have h4 := h2.book c k n
  refine tab_ext h3.1 h4.1 h3.nz h4.nz (fun id => ?_)
  simp only [get_book h1, get_book h2, bookC_other h hcd, bookC_other h (Ne.symm hcd), get_book h]
  by_cases hd : id = d.id
  · subst hd
    simp [Ne.symm hcd]
  · by_cases hc : id = c.id
    · subst hc
      simp [hcd]
    · simp [hd, hc]
theorem small_run : isT (callP Γ 400 24 []) = true := by decide +kernel
theorem s_small : EvP Γ 24 [] (.bool true) := EvP_of_run (isT_eq small_run)
end Go.Led
