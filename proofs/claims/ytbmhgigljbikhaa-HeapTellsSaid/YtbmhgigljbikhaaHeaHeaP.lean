/-
  Plain laws of heaps and rows in order; no program in it.
-/
import Derived.Test.YtbmhgigljbikhaaHeaHeaT
set_option linter.unusedVariables false
set_option linter.unusedSimpArgs false
set_option linter.unnecessarySimpa false
namespace Go.Hea
open Go.Ev
set_option linter.unusedVariables false
set_option linter.unusedSimpArgs false
def atR (xs : List Rd) (i : Nat) : Rd := xs.getD i ⟨0, 0⟩
theorem atR_some {xs : List Rd} {i : Nat} (h : i < xs.length) : xs[i]? = some (atR xs i) := by
  simp [atR, List.getD, List.getElem?_eq_getElem h]
theorem atR_of {xs : List Rd} {i : Nat} {a : Rd} (h : xs[i]? = some a) : atR xs i = a := by simp [atR, List.getD, h]
theorem swp_len (xs : List Rd) (i k : Nat) (a b : Rd) : (swp xs i k a b).length = xs.length := by simp [swp]
theorem swp_at {xs : List Rd} {i k : Nat} (hi : i < xs.length) (hk : k < xs.length) (j : Nat) : atR (swp xs i k (atR xs i) (atR xs k)) j = if j = k then atR xs i else if j = i then atR xs k else atR xs j := by
  unfold swp
  by_cases h1 : j = k
  · subst h1
    rw [if_pos rfl]
    exact atR_of (by rw [List.getElem?_set_self (by simpa using hk)])
  · rw [if_neg h1]
    by_cases h2 : j = i
    · subst h2
      rw [if_pos rfl]
      exact atR_of (by rw [List.getElem?_set_ne (Ne.symm h1), List.getElem?_set_self hi])
    · rw [if_neg h2]
      unfold atR List.getD
      rw [List.getElem?_set_ne (Ne.symm h1), List.getElem?_set_ne (Ne.symm h2)]
theorem swp_perm {xs : List Rd} {i k : Nat} (hi : i < xs.length) (hk : k < xs.length) : (swp xs i k (atR xs i) (atR xs k)).Perm xs := by
  have ha := (List.getElem?_eq_some_iff.mp (atR_some hi)).2
  have hb := (List.getElem?_eq_some_iff.mp (atR_some hk)).2
  have := List.set_set_perm (as := xs) (i := i) (j := k) hi hk
  rw [ha, hb] at this
  exact this
theorem lt_irrefl (a : Rd) : ¬ a.lt a := by unfold Rd.lt; omega
theorem lt_asymm {a b : Rd} (h : a.lt b) : ¬ b.lt a := by unfold Rd.lt at *; omega
theorem le_trans' {a b c : Rd} (h : ¬ b.lt a) (h' : ¬ c.lt b) : ¬ c.lt a := by unfold Rd.lt at *; omega
theorem lt_le {a b c : Rd} (h : a.lt b) (h' : ¬ c.lt b) : ¬ c.lt a := by unfold Rd.lt at *; omega
theorem lt_antisymm {a b : Rd} (h : ¬ a.lt b) (h' : ¬ b.lt a) : a = b := by
  obtain ⟨n, t⟩ := a
  obtain ⟨m, u⟩ := b
  unfold Rd.lt at *
  simp only at *
  have : t = u := by omega
  have : n = m := by omega
  subst_vars
  rfl
/-- A heap. -/
def hp (xs : List Rd) : Prop := ∀ j, 0 < j → j < xs.length → ¬ (atR xs j).lt (atR xs ((j - 1) / 2))
/-- .. but for what hangs below a place. -/
def hpx (k : Nat) (xs : List Rd) : Prop := (∀ j, 0 < j → j < xs.length → (j - 1) / 2 ≠ k → ¬ (atR xs j).lt (atR xs ((j - 1) / 2))) ∧ (∀ j, 0 < j → j < xs.length → (j - 1) / 2 = k → 0 < k → ¬ (atR xs j).lt (atR xs ((k - 1) / 2)))
/-- .. but for what a place hangs below. -/
def hpu (k : Nat) (xs : List Rd) : Prop := (∀ j, 0 < j → j < xs.length → j ≠ k → ¬ (atR xs j).lt (atR xs ((j - 1) / 2))) ∧ (∀ j, 0 < j → j < xs.length → (j - 1) / 2 = k → 0 < k → ¬ (atR xs j).lt (atR xs ((k - 1) / 2)))
/-- The least of two. -/
def nxt (xs : List Rd) (l b : Nat) : Nat := if b < xs.length ∧ (atR xs b).lt (atR xs l) then b else l
theorem down_same {xs : List Rd} {k : Nat} (h : hpx k xs) (he : nxt xs (nxt xs k (2 * k + 1)) (2 * k + 2) = k) : hp xs := by
  intro j h0 hj
  by_cases hp : (j - 1) / 2 = k
  · have hjk : j = 2 * k + 1 ∨ j = 2 * k + 2 := by omega
    rw [hp]
    unfold nxt at he
    intro hlt
    by_cases c1 : 2 * k + 1 < xs.length ∧ (atR xs (2 * k + 1)).lt (atR xs k)
    · rw [if_pos c1] at he
      split at he <;> omega
    · rw [if_neg c1] at he
      rcases hjk with rfl | rfl
      · exact c1 ⟨hj, hlt⟩
      · rw [if_pos ⟨hj, hlt⟩] at he
        omega
  · exact h.1 j h0 hj hp
theorem down_step {xs : List Rd} {k l : Nat} (h : hpx k xs) (hk : k < xs.length) (hl : nxt xs (nxt xs k (2 * k + 1)) (2 * k + 2) = l) (hne : l ≠ k) : k < l ∧ l < xs.length ∧ hpx l (swp xs k l (atR xs k) (atR xs l)) := by
  have key : (l = 2 * k + 1 ∨ l = 2 * k + 2) ∧ l < xs.length ∧ (atR xs l).lt (atR xs k) ∧ ∀ j, j < xs.length → (j = 2 * k + 1 ∨ j = 2 * k + 2) → ¬ (atR xs j).lt (atR xs l) := by
    unfold nxt at hl
    by_cases c1 : 2 * k + 1 < xs.length ∧ (atR xs (2 * k + 1)).lt (atR xs k)
    · rw [if_pos c1] at hl
      by_cases c2 : 2 * k + 2 < xs.length ∧ (atR xs (2 * k + 2)).lt (atR xs (2 * k + 1))
      · rw [if_pos c2] at hl
        subst hl
        refine ⟨.inr rfl, c2.1, ?_, fun j hj hjj => ?_⟩
        · have := c1.2; have := c2.2; unfold Rd.lt at *; omega
        · rcases hjj with rfl | rfl
          · exact lt_asymm c2.2
          · exact lt_irrefl _
      · rw [if_neg c2] at hl
        subst hl
        refine ⟨.inl rfl, c1.1, c1.2, fun j hj hjj => ?_⟩
        rcases hjj with rfl | rfl
        · exact lt_irrefl _
        · exact fun h => c2 ⟨hj, h⟩
    · rw [if_neg c1] at hl
      by_cases c2 : 2 * k + 2 < xs.length ∧ (atR xs (2 * k + 2)).lt (atR xs k)
      · rw [if_pos c2] at hl
        subst hl
        refine ⟨.inr rfl, c2.1, c2.2, fun j hj hjj => ?_⟩
        rcases hjj with rfl | rfl
        · intro hlt
          refine c1 ⟨hj, ?_⟩
          have := c2.2; unfold Rd.lt at *; omega
        · exact lt_irrefl _
      · rw [if_neg c2] at hl
        exact absurd hl.symm hne
  obtain ⟨k1, k2, k3, k4⟩ := key
  refine ⟨by omega, k2, ?_, ?_⟩
  · intro j h0 hj hjp
    rw [swp_len] at hj
    rw [swp_at hk k2, swp_at hk k2]
    by_cases e1 : j = l
    · have : (j - 1) / 2 = k := by omega
      rw [if_pos e1, this, if_neg (by omega), if_pos rfl]
      exact lt_asymm k3
    · rw [if_neg e1]
      by_cases e2 : j = k
      · subst e2
        rw [if_pos rfl, if_neg (by omega), if_neg (by omega)]
        exact h.2 l (by omega) k2 (by omega) h0
      · rw [if_neg e2]
        by_cases e3 : (j - 1) / 2 = k
        · rw [e3, if_neg (by omega), if_pos rfl]
          exact k4 j hj (by omega)
        · rw [if_neg hjp, if_neg e3]
          exact h.1 j h0 hj e3
  · intro j h0 hj hjp hl0
    rw [swp_len] at hj
    rw [swp_at hk k2, swp_at hk k2]
    have e : (l - 1) / 2 = k := by omega
    rw [e, if_neg (by omega), if_neg (by omega), if_neg (by omega), if_pos rfl]
    have := h.1 j h0 hj (by omega)
    rw [hjp] at this
    exact this
theorem up_same {xs : List Rd} {k : Nat} (h : hpu k xs) (he : k = 0 ∨ ¬ (atR xs k).lt (atR xs ((k - 1) / 2))) : hp xs := by
  intro j h0 hj
  by_cases e : j = k
  · subst e
    rcases he with he | he
    · omega
    · exact he
  · exact h.1 j h0 hj e
theorem up_step {xs : List Rd} {k : Nat} (h : hpu k xs) (hk : k < xs.length) (h0 : 0 < k) (hlt : (atR xs k).lt (atR xs ((k - 1) / 2))) : hpu ((k - 1) / 2) (swp xs k ((k - 1) / 2) (atR xs k) (atR xs ((k - 1) / 2))) := by
  have ha : (k - 1) / 2 < xs.length := by omega
  refine ⟨fun j j0 hj hja => ?_, fun j j0 hj hjp ha0 => ?_⟩
  · rw [swp_len] at hj
    rw [swp_at hk ha, swp_at hk ha]
    rw [if_neg hja]
    by_cases e1 : j = k
    · subst e1
      rw [if_pos rfl, if_pos rfl]
      exact lt_asymm hlt
    · rw [if_neg e1]
      by_cases e2 : (j - 1) / 2 = (k - 1) / 2
      · rw [if_pos e2]
        have := h.1 j j0 hj e1
        rw [e2] at this
        exact lt_le hlt this
      · rw [if_neg e2]
        by_cases e3 : (j - 1) / 2 = k
        · rw [if_pos e3]
          exact h.2 j j0 hj e3 h0
        · rw [if_neg e3]
          exact h.1 j j0 hj e1
  · rw [swp_len] at hj
    rw [swp_at hk ha, swp_at hk ha]
    have h1 := h.1 ((k - 1) / 2) ha0 ha (by omega)
    rw [if_neg (show ¬ j = (k - 1) / 2 by omega)]
    rw [if_neg (show ¬ ((k - 1) / 2 - 1) / 2 = (k - 1) / 2 by omega), if_neg (show ¬ ((k - 1) / 2 - 1) / 2 = k by omega)]
    by_cases e1 : j = k
    · rw [if_pos e1]
      exact h1
    · rw [if_neg e1]
      have h2 := h.1 j j0 hj e1
      rw [hjp] at h2
      exact le_trans' h1 h2
theorem atR_app {xs : List Rd} {r : Rd} {j : Nat} (h : j < xs.length) : atR (xs ++ [r]) j = atR xs j := by
  unfold atR List.getD
  rw [List.getElem?_append_left h]
theorem hpu_push {xs : List Rd} (r : Rd) (h : hp xs) : hpu xs.length (xs ++ [r]) := by
  refine ⟨fun j h0 hj hne => ?_, fun j h0 hj hjp _ => ?_⟩
  · simp at hj
    rw [atR_app (by omega), atR_app (by omega)]
    exact h j h0 (by omega)
  · simp at hj
    omega
theorem atR_take {xs : List Rd} {n j : Nat} (h : j < n) : atR (xs.take n) j = atR xs j := by
  unfold atR List.getD
  rw [List.getElem?_take_of_lt h]
/-- The last one has taken the first one's place, and is struck behind. -/
theorem pop_hpx {xs : List Rd} (h : hp xs) (h0 : 0 < xs.length) : hpx 0 ((swp xs 0 (xs.length - 1) (atR xs 0) (atR xs (xs.length - 1))).take (xs.length - 1)) := by
  have hl : xs.length - 1 < xs.length := by omega
  refine ⟨fun j j0 hj hjp => ?_, fun j _ _ _ h => absurd h (Nat.lt_irrefl 0)⟩
  rw [List.length_take, swp_len] at hj
  rw [atR_take (by omega), atR_take (by omega), swp_at h0 hl, swp_at h0 hl]
  rw [if_neg (by omega), if_neg (by omega), if_neg (by omega), if_neg hjp]
  exact h j j0 (by omega)
theorem pop_perm {xs : List Rd} (h0 : 0 < xs.length) : xs.Perm (atR xs 0 :: (swp xs 0 (xs.length - 1) (atR xs 0) (atR xs (xs.length - 1))).take (xs.length - 1)) := by
  have hl : xs.length - 1 < xs.length := by omega
  have hp := swp_perm h0 hl
  generalize hz : swp xs 0 (xs.length - 1) (atR xs 0) (atR xs (xs.length - 1)) = zs at *
  have hlen : zs.length = xs.length := by rw [← hz, swp_len]
  have hlast : atR zs (xs.length - 1) = atR xs 0 := by rw [← hz, swp_at h0 hl, if_pos rfl]
  have e : zs = zs.take (xs.length - 1) ++ [atR xs 0] := by
    apply List.ext_getElem?
    intro j
    by_cases h1 : j < xs.length - 1
    · rw [List.getElem?_append_left (by rw [List.length_take]; omega), List.getElem?_take_of_lt h1]
    · by_cases h2 : j = xs.length - 1
      · rw [List.getElem?_append_right (by rw [List.length_take]; omega), h2, atR_some (by omega), hlast]
        simp [hlen]
      · rw [List.getElem?_eq_none (by omega), List.getElem?_eq_none (by simp; omega)]
  refine hp.symm.trans ?_
  conv => lhs; rw [e]
  exact List.perm_append_comm
theorem hp_min {xs : List Rd} (h : hp xs) : ∀ j, j < xs.length → ¬ (atR xs j).lt (atR xs 0) := by
  intro j
  induction j using Nat.strongRecOn with
  | _ j ih =>
    intro hj
    by_cases e : j = 0
    · rw [e]; exact lt_irrefl _
    · exact le_trans' (ih ((j - 1) / 2) (by omega) (by omega)) (h j (by omega) hj)
/-! ### Rows in order -/
/-- One more, in its place. -/
def ins (r : Rd) : List Rd → List Rd
  | [] => [r]
  | x :: s => if x.lt r then x :: ins r s else r :: x :: s
def sortL (l : List Rd) : List Rd := l.foldl (fun s r => ins r s) []
/-- In order. -/
def Srt : List Rd → Prop
  | [] => True
  | x :: s => (∀ y ∈ s, ¬ y.lt x) ∧ Srt s
theorem ins_perm (r : Rd) : ∀ s, (ins r s).Perm (r :: s)
  | [] => List.Perm.refl _
  | x :: s => by
    unfold ins
    split
    · exact (List.Perm.cons x (ins_perm r s)).trans (List.Perm.swap r x s)
    · exact List.Perm.refl _
theorem ins_srt (r : Rd) : ∀ s, Srt s → Srt (ins r s)
  | [], _ => ⟨fun y hy => by simp at hy, trivial⟩
  | x :: s, h => by
    unfold ins
    split
    · rename_i hx
      refine ⟨fun y hy => ?_, ins_srt r s h.2⟩
      rcases List.mem_cons.mp ((ins_perm r s).mem_iff.mp hy) with rfl | hy
      · exact lt_asymm hx
      · exact h.1 y hy
    · rename_i hx
      refine ⟨fun y hy => ?_, h⟩
      rcases List.mem_cons.mp hy with rfl | hy
      · exact hx
      · exact le_trans' hx (h.1 y hy)
theorem srt_uniq : ∀ {s t : List Rd}, Srt s → Srt t → s.Perm t → s = t
  | [], t, _, _, h => (List.nil_perm.mp h).symm
  | x :: s, [], _, _, h => by simp at h
  | x :: s, y :: t, hs, ht, h => by
    have e : x = y := by
      have h1 := h.mem_iff.mp (List.mem_cons_self (a := x) (l := s))
      have h2 := h.mem_iff.mpr (List.mem_cons_self (a := y) (l := t))
      refine lt_antisymm ?_ ?_
      · rcases List.mem_cons.mp h1 with h1 | h1
        · rw [h1]; exact lt_irrefl _
        · exact ht.1 x h1
      · rcases List.mem_cons.mp h2 with h2 | h2
        · rw [h2]; exact lt_irrefl _
        · exact hs.1 y h2
    subst e
    rw [srt_uniq hs.2 ht.2 ((List.perm_cons x).mp h)]
theorem sort_perm (l : List Rd) : (sortL l).Perm l := by
  have : ∀ (l s : List Rd), (l.foldl (fun s r => ins r s) s).Perm (l ++ s) := by
    intro l
    induction l with
    | nil => intro s; exact List.Perm.refl _
    | cons x l ih =>
      intro s
      refine (ih (ins x s)).trans ?_
      refine ((ins_perm x s).append_left l).trans ?_
      exact List.perm_middle
  simpa [sortL] using this l []
theorem sort_srt (l : List Rd) : Srt (sortL l) := by
  have : ∀ (l s : List Rd), Srt s → Srt (l.foldl (fun s r => ins r s) s) := by
    intro l
    induction l with
    | nil => intro s h; exact h
    | cons x l ih => intro s h; exact ih _ (ins_srt x s h)
  exact this l [] trivial
theorem sort_of_perm {l m : List Rd} (h : l.Perm m) : sortL l = sortL m := srt_uniq (sort_srt l) (sort_srt m) ((sort_perm l).trans (h.trans (sort_perm m).symm))
end Go.Hea
