/-
  LedgerBack, as the evaluator runs it.
-/
import Derived.Test.YtbmhgigljbikhaaLedLedQ
set_option linter.unusedVariables false
set_option linter.unusedSimpArgs false
set_option linter.unnecessarySimpa false
namespace Go.Led
open Go.Ev
set_option linter.unusedVariables false
set_option linter.unusedSimpArgs false
theorem Bk.plus_plus (b : Bk) (k n : Int) : (b.plus k n).plus k (0 - n) = b := by
  obtain ⟨i, a, c, d⟩ := b
  unfold Bk.plus
  split
  · simp; omega
  · split
    · simp; omega
    · simp; omega
theorem plus_at (b : Bk) {k : Int} (n : Int) (hk : 0 ≤ k ∧ k < 3) : (b.plus k n).at k = b.at k + n := by
  have hk' : k = 0 ∨ k = 1 ∨ k = 2 := by omega
  rcases hk' with rfl | rfl | rfl <;> rfl
theorem Inv.at_in {l : List Bk} (h : Inv l) (id k : Int) : 0 ≤ (getB l id).at k ∧ (getB l id).at k ≤ 4611686018427387904 := by
  have hU := h.getU id
  unfold Bk.U at hU
  unfold Bk.at
  grind
theorem relM_put {l : List Bk} (h : Inv l) (id k n : Int) : relM l id k n = if relC l id k n then putB l ((getB l id).plus k (0 - n)) else l := by
  unfold relM
  rw [setM_put h]
theorem relC_B {l : List Bk} (h : Inv l) (id k n : Int) : relC l id k n ↔ (0 ≤ k ∧ k < 3) ∧ 0 ≤ n ∧ n ≤ (getB l id).at k := by
  unfold relC
  rw [row_get h.1]
theorem Inv.rel {l : List Bk} (h : Inv l) (id k n : Int) : Inv (relM l id k n) := by
  rw [relM_put h]
  split
  · rename_i hb
    rw [relC_B h] at hb
    have hi := h.at_in id k
    have hU := plus_U (h.getU id) hb.1 (n := 0 - n) (by omega) (by omega)
    by_cases hn : 1 ≤ id ∧ id ≤ 1048576
    · exact h.put (by rw [Bk.plus_id, getB_id]; exact hn) hU
    · have h0 : getB l id = ⟨id, 0, 0, 0⟩ := getB_none (fun b hb' hid => hn (by have := (h.2 b hb').1; omega))
      have hn0 : n = 0 := by
        have : (getB l id).at k = 0 := by rw [h0]; unfold Bk.at; simp
        omega
      subst hn0
      rw [h0]
      have : (Bk.plus ⟨id, 0, 0, 0⟩ k (0 - 0)) = ⟨id, 0, 0, 0⟩ := by unfold Bk.plus; simp
      rw [this]
      refine ⟨srt_put h.1 _, fun b hb' => ?_⟩
      rcases (mem_put h.1).mp hb' with ⟨_, h3⟩ | h3
      · exact absurd ⟨rfl, rfl, rfl⟩ h3
      · exact h.2 b h3.1
  · exact h
theorem rel_len {l : List Bk} (h : Inv l) (id k n : Int) : (relM l id k n).length ≤ l.length + 1 := by
  rw [relM_put h]
  split
  · exact len_put _ _
  · omega
theorem get_rel {l : List Bk} (h : Inv l) (id k n id' : Int) : getB (relM l id k n) id' = if id' = id ∧ relC l id k n then (getB l id).plus k (0 - n) else getB l id' := by
  rw [relM_put h]
  by_cases hb : relC l id k n
  · rw [if_pos hb, get_put h.1, Bk.plus_id, getB_id]
    by_cases hid : id' = id <;> simp [hid, hb]
  · rw [if_neg hb, if_neg (fun h => hb h.2)]
theorem back_C {l : List Bk} (h : Inv l) {c : Co} {k n : Int} (hb : bookC l c k n) : relC (bookM l c k n) c.id k n := by
  rw [relC_B (h.book c k n), get_book h, if_pos ⟨rfl, hb⟩, plus_at _ _ hb.2.1]
  have := h.at_in c.id k
  exact ⟨hb.2.1, hb.2.2.1, by omega⟩
theorem back_eq {l : List Bk} (h : Inv l) {c : Co} {k n : Int} (hb : bookC l c k n) : relM (bookM l c k n) c.id k n = l := by
  have h1 := h.book c k n
  have h2 := h1.rel c.id k n
  refine tab_ext h2.1 h.1 h2.nz h.nz (fun id => ?_)
  simp only [get_rel h1, get_book h]
  by_cases hid : id = c.id
  · subst hid
    simp only [true_and, if_pos (back_C h hb), hb, and_self, if_true, Bk.plus_plus]
  · simp [hid]
theorem room_book {l : List Bk} (h : Inv l) {c : Co} {k n : Int} (hb : bookC l c k n) : roomM (bookM l c k n) c k = roomM l c k - n := by
  rw [roomM_B (h.book c k n), roomM_B h, get_book h, if_pos ⟨rfl, hb⟩]
  rw [bookC_B h] at hb
  obtain ⟨h1, h2, h3, h4⟩ := hb
  have hv := vol_in c
  have hU := h.getU c.id
  unfold roomB at *
  generalize getB l c.id = b at *
  generalize c.vol = v at *
  rw [if_pos h2] at h4
  rw [if_pos h2, if_pos h2]
  obtain ⟨i, a, e, f⟩ := b
  unfold Bk.U at hU
  simp only at hU
  have hk' : k = 0 ∨ k = 1 ∨ k = 2 := by omega
  rcases hk' with rfl | rfl | rfl
  · simp only [bkl, Bk.plus, stp, if_true] at h4 ⊢
    grind
  · simp only [bkl, Bk.plus, stp, if_true, show ¬ ((1 : Int) = 0) by decide, if_false] at h4 ⊢
    grind
  · simp only [bkl, Bk.plus, stp, if_true, show ¬ ((2 : Int) = 0) by decide, show ¬ ((2 : Int) = 1) by decide, if_false] at h4 ⊢
    grind
theorem more_no {l : List Bk} (h : Inv l) (id k : Int) : ¬ relC l id k ((row l id).at k + 1) := fun hb => by
  obtain ⟨_, _, h3⟩ := hb
  omega
set_option maxHeartbeats 8000000 in
theorem run_Back (l : List Bk) (c : Co) (k n : Int) (hc : I64 c.en) : EvP Γ 8 [.slice .no 4 (l.map Bk.e), c.e, .int .i64 k, .int .i64 n] (.bool true) := by
  refine EvP_code rfl rfl ?_
  unfold I64 at hc
  by_cases h : l.length ≤ 50 ∧ rt 0 l = true
  · obtain ⟨h1, h3⟩ := h
    have hl : l.length ≤ 1073741824 := by omega
    have hI := (rt_inv l).mp h3
    have hr := fun t sz hs => s_Right l hl t sz hs
    have hR := fun t sz hsz => s_Room l c.id c.fr c.to c.st c.en c.ra k hc hI.1 (by omega) (hI.rowU _) t sz hsz
    have hB := fun t sz hs => s_Book l c k n hc hI.1 hl (hI.rowU _) t sz hs
    have hC := s_check_Contact c.id c.fr c.to c.st c.en c.ra hc
    have hri := room_in l c k (hI.rowU _)
    by_cases hb : bookC l c k n
    · have hIb := hI.book c k n
      have hbl := book_len hI c k n
      have e1 := back_C hI hb
      have e2 := back_eq hI hb
      have e3 := room_book hI hb
      have e4 := more_no hIb c.id k
      have ui := hIb.rowU c.id
      have r1 := fun t sz hs => s_Release (bookM l c k n) c.id k n hIb.1 (by omega) (hIb.rowU _) t sz hs
      have r2 := fun t sz hs => s_Release (bookM l c k n) c.id k ((row (bookM l c k n) c.id).at k + 1) hIb.1 (by omega) (hIb.rowU _) t sz hs
      have hU := fun t sz hsz => s_Used (bookM l c k n) c.id hIb.1 (by omega) t sz hsz
      have hR2 := fun t sz hsz => s_Room (bookM l c k n) c.id c.fr c.to c.st c.en c.ra k hc hIb.1 (by omega) (hIb.rowU _) t sz hsz
      have hr2 := fun t sz hs => s_Right (bookM l c k n) (by omega) t sz hs
      have rt2 := (rt_inv _).mpr hIb
      have hS := fun t t' sa sb ha hb => s_Same l l hl t t' sa sb ha hb
      rw [e2, decide_eq_true e1] at r1
      simp only [decide_eq_true hb] at hB
      simp only [decide_eq_false e4] at r2
      have hb' := hb
      obtain ⟨b1, b2, b3, b4⟩ := hb'
      change room (bookM l c k n) c.id c.fr c.to c.st c.en c.ra k = room l c.id c.fr c.to c.st c.en c.ra k - n at e3
      change n ≤ room l c.id c.fr c.to c.st c.en c.ra k at b4
      change 0 ≤ room l c.id c.fr c.to c.st c.en c.ra k ∧ room l c.id c.fr c.to c.st c.en c.ra k ≤ 4611686014132420609 at hri
      unfold Bk.U at ui
      clear e1 e2 e4 hIb hI hb hC b1
      generalize bookM l c k n = lb at *
      generalize relM lb c.id k ((row lb c.id).at k + 1) = lr at *
      generalize row lb c.id = rb at *
      generalize room lb c.id c.fr c.to c.st c.en c.ra k = ro2 at *
      generalize room l c.id c.fr c.to c.st c.en c.ra k = ro at *
      have hk' : k = 0 ∨ k = 1 ∨ k = 2 := by omega
      rcases hk' with rfl | rfl | rfl
      all_goals
        unfold Bk.at at r2
        simp only [if_true, if_false, show ¬ ((1 : Int) = 0) by decide, show ¬ ((2 : Int) = 0) by decide, show ¬ ((2 : Int) = 1) by decide] at r2
        repeat' (first
    | (refine I_WS ?_; first
      | (refine I_mov ?_; first
          | refine W_skip rfl ?_
          | refine W_mov (v := .int _ _) rfl rfl rfl ?_
          | refine W_mov (v := .bool _) rfl rfl rfl ?_
          | refine W_mov (v := .slice _ _ _) rfl rfl rfl ?_
          | refine W_mov (v := .agg _) rfl rfl rfl ?_
          | refine W_mov (v := .ptr _ _) rfl rfl rfl ?_
          | refine W_mov (v := .func _ _) rfl rfl rfl ?_
          | refine W_mov (v := .eptr _ _ _ _) rfl rfl rfl ?_
          | refine W_mov (v := .rs _ _ _ _ _) rfl rfl rfl ?_
          | refine W_mov (v := .tuple _) rfl rfl rfl ?_
          | refine W_mov (v := .map _) rfl rfl rfl ?_
          | refine W_mov (v := .str _) rfl rfl rfl ?_
          | refine W_mov (v := .nilptr) rfl rfl rfl ?_)
      | (refine I_bin ?_; first
          | refine W_skip rfl ?_
          | refine W_lssT rfl rfl rfl rfl (by omega) ?_
          | refine W_lssF rfl rfl rfl rfl (by omega) ?_
          | (refine W_lss rfl rfl rfl rfl ?_ ?_ <;> intro _)
          | refine W_leqT rfl rfl rfl rfl (by omega) ?_
          | refine W_leqF rfl rfl rfl rfl (by omega) ?_
          | (refine W_leq rfl rfl rfl rfl ?_ ?_ <;> intro _)
          | refine W_gtrT rfl rfl rfl rfl (by omega) ?_
          | refine W_gtrF rfl rfl rfl rfl (by omega) ?_
          | (refine W_gtr rfl rfl rfl rfl ?_ ?_ <;> intro _)
          | refine W_geqT rfl rfl rfl rfl (by omega) ?_
          | refine W_geqF rfl rfl rfl rfl (by omega) ?_
          | (refine W_geq rfl rfl rfl rfl ?_ ?_ <;> intro _)
          | refine W_eqlT rfl rfl rfl rfl (by omega) ?_
          | refine W_eqlF rfl rfl rfl rfl (by omega) ?_
          | (refine W_eql rfl rfl rfl rfl ?_ ?_ <;> intro _)
          | refine W_add rfl rfl rfl rfl (by first | exact w64 (by omega) | rfl) ?_
          | refine W_sub rfl rfl rfl rfl (by first | exact w64 (by omega) | rfl) ?_)
      | (refine I_load ?_; first
          | refine W_skip rfl ?_
          | refine W_load (agg := false) (d := .int _ _) rfl rfl rfl rfl (by first | exact Nat.zero_le _ | omega) rfl ?_
          | refine W_load (agg := false) (d := .bool _) rfl rfl rfl rfl (by first | exact Nat.zero_le _ | omega) rfl ?_
          | refine W_load (agg := false) (d := .slice _ _ _) rfl rfl rfl rfl (by first | exact Nat.zero_le _ | omega) rfl ?_
          | refine W_load (agg := false) (d := .ptr _ _) rfl rfl rfl rfl (by first | exact Nat.zero_le _ | omega) rfl ?_
          | refine W_load (agg := false) (d := .func _ _) rfl rfl rfl rfl (by first | exact Nat.zero_le _ | omega) rfl ?_
          | refine W_load (agg := true) (d := .agg [_, _, _, _, _, _]) rfl rfl rfl rfl (by first | exact Nat.zero_le _ | omega) rfl ?_)
      | (refine I_call ?_; first
          | refine W_skip rfl ?_
          | refine W_callBT rfl rfl rfl s_small rfl rfl ?_
          | refine W_callBT rfl rfl rfl (hr _ _ (.inl rfl)) h3 rfl ?_
          | refine W_call rfl rfl rfl (hR _ _ (.inl rfl)) rfl rfl ?_
          | (refine W_callTD rfl rfl rfl (hB _ _ (.inl rfl)) rfl ?_ <;> intro _ _ s1 _)
          | refine W_callBT rfl rfl rfl (hr2 _ _ s1) rt2 rfl ?_
          | refine W_call rfl rfl rfl (hR2 _ _ s1) rfl rfl ?_
          | refine W_call rfl rfl rfl (hU _ _ s1) rfl rfl ?_
          | (refine W_callTD rfl rfl rfl (r1 _ _ s1) rfl ?_ <;> intro _ _ s2 _)
          | (refine W_callTD rfl rfl rfl (r2 _ _ s1) rfl ?_ <;> intro _ _ s3 _)
          | refine W_callBT rfl rfl rfl (hS _ _ _ _ s2 (.inl rfl)) (decide_eq_true rfl) rfl ?_)
      | (refine I_pick ?_; first
          | refine W_pick (v := .int _ _) rfl rfl rfl rfl ?_
          | refine W_pick (v := .bool _) rfl rfl rfl rfl ?_
          | refine W_pick (v := .slice _ _ _) rfl rfl rfl rfl ?_
          | refine W_pick (v := .agg _) rfl rfl rfl rfl ?_
          | refine W_skip rfl ?_)
      | (refine I_extract ?_; first
          | refine W_extract (d := .int _ _) rfl rfl rfl rfl ?_
          | refine W_extract (d := .bool _) rfl rfl rfl rfl ?_
          | refine W_extract (d := .slice _ _ _) rfl rfl rfl rfl ?_
          | refine W_extract (d := .agg _) rfl rfl rfl rfl ?_
          | refine W_extract (d := .ptr _ _) rfl rfl rfl rfl ?_
          | refine W_extract (d := .func _ _) rfl rfl rfl rfl ?_
          | refine W_skip rfl ?_)
      | (refine I_box ?_; first
          | refine W_boxA rfl rfl rfl rfl rfl ?_
          | refine W_box1 (v := .slice _ _ _) rfl rfl rfl rfl rfl ?_
          | refine W_box1 (v := .int _ _) rfl rfl rfl rfl rfl ?_
          | refine W_box1 (v := .bool _) rfl rfl rfl rfl rfl ?_
          | refine W_box1 (v := .ptr _ _) rfl rfl rfl rfl rfl ?_
          | refine W_skip rfl ?_)
      | refine W_not rfl rfl rfl ?_
      | refine W_lenM rfl rfl rfl ?_
      | refine W_lenS rfl rfl rfl ?_
      | refine W_lenR rfl rfl rfl ?_
      | refine W_faddr rfl rfl rfl ?_
      | refine W_faddrE rfl rfl rfl ?_
      | refine W_indexA (agg := false) (d := .int _ _) rfl rfl rfl rfl (by decide) rfl ?_
      | refine W_indexA (agg := false) (d := .bool _) rfl rfl rfl rfl (by decide) rfl ?_
      | refine W_skip rfl ?_
      | refine WS_nil ?_)
    | refine WC_seq ?_
    | refine WC_opsS ?_
    | refine WC_drawS ?_
    | refine WC_skip ?_
    | refine WC_condT rfl ?_
    | refine WC_condF rfl ?_
    | refine WC_ret ?_
    | refine okF_intro rfl ?_)
      all_goals exact fin_bool (by simp) rfl rfl
    · have e1 : bookM l c k n = l := by rw [bookM_put hI, if_neg hb]
      have hS := fun t t' sa sb ha hb => s_Same l l hl t t' sa sb ha hb
      rw [e1, decide_eq_false hb] at hB
      repeat' (first
    | (refine I_WS ?_; first
      | (refine I_mov ?_; first
          | refine W_skip rfl ?_
          | refine W_mov (v := .int _ _) rfl rfl rfl ?_
          | refine W_mov (v := .bool _) rfl rfl rfl ?_
          | refine W_mov (v := .slice _ _ _) rfl rfl rfl ?_
          | refine W_mov (v := .agg _) rfl rfl rfl ?_
          | refine W_mov (v := .ptr _ _) rfl rfl rfl ?_
          | refine W_mov (v := .func _ _) rfl rfl rfl ?_
          | refine W_mov (v := .eptr _ _ _ _) rfl rfl rfl ?_
          | refine W_mov (v := .rs _ _ _ _ _) rfl rfl rfl ?_
          | refine W_mov (v := .tuple _) rfl rfl rfl ?_
          | refine W_mov (v := .map _) rfl rfl rfl ?_
          | refine W_mov (v := .str _) rfl rfl rfl ?_
          | refine W_mov (v := .nilptr) rfl rfl rfl ?_)
      | (refine I_bin ?_; first
          | refine W_skip rfl ?_
          | refine W_lssT rfl rfl rfl rfl (by omega) ?_
          | refine W_lssF rfl rfl rfl rfl (by omega) ?_
          | (refine W_lss rfl rfl rfl rfl ?_ ?_ <;> intro _)
          | refine W_leqT rfl rfl rfl rfl (by omega) ?_
          | refine W_leqF rfl rfl rfl rfl (by omega) ?_
          | (refine W_leq rfl rfl rfl rfl ?_ ?_ <;> intro _)
          | refine W_gtrT rfl rfl rfl rfl (by omega) ?_
          | refine W_gtrF rfl rfl rfl rfl (by omega) ?_
          | (refine W_gtr rfl rfl rfl rfl ?_ ?_ <;> intro _)
          | refine W_geqT rfl rfl rfl rfl (by omega) ?_
          | refine W_geqF rfl rfl rfl rfl (by omega) ?_
          | (refine W_geq rfl rfl rfl rfl ?_ ?_ <;> intro _)
          | refine W_eqlT rfl rfl rfl rfl (by omega) ?_
          | refine W_eqlF rfl rfl rfl rfl (by omega) ?_
          | (refine W_eql rfl rfl rfl rfl ?_ ?_ <;> intro _)
          | refine W_add rfl rfl rfl rfl (by first | exact w64 (by omega) | rfl) ?_
          | refine W_sub rfl rfl rfl rfl (by first | exact w64 (by omega) | rfl) ?_)
      | (refine I_load ?_; first
          | refine W_skip rfl ?_
          | refine W_load (agg := false) (d := .int _ _) rfl rfl rfl rfl (by first | exact Nat.zero_le _ | omega) rfl ?_
          | refine W_load (agg := false) (d := .bool _) rfl rfl rfl rfl (by first | exact Nat.zero_le _ | omega) rfl ?_
          | refine W_load (agg := false) (d := .slice _ _ _) rfl rfl rfl rfl (by first | exact Nat.zero_le _ | omega) rfl ?_
          | refine W_load (agg := false) (d := .ptr _ _) rfl rfl rfl rfl (by first | exact Nat.zero_le _ | omega) rfl ?_
          | refine W_load (agg := false) (d := .func _ _) rfl rfl rfl rfl (by first | exact Nat.zero_le _ | omega) rfl ?_
          | refine W_load (agg := true) (d := .agg [_, _, _, _, _, _]) rfl rfl rfl rfl (by first | exact Nat.zero_le _ | omega) rfl ?_)
      | (refine I_call ?_; first
          | refine W_skip rfl ?_
          | refine W_callBT rfl rfl rfl s_small rfl rfl ?_
          | refine W_callBT rfl rfl rfl (hr _ _ (.inl rfl)) h3 rfl ?_
          | refine W_call rfl rfl rfl (hR _ _ (.inl rfl)) rfl rfl ?_
          | refine W_callB rfl rfl rfl hC rfl ?_ ?_ <;> intro _
          | (refine W_callTD rfl rfl rfl (hB _ _ (.inl rfl)) rfl ?_ <;> intro _ _ s1 _)
          | refine W_callBT rfl rfl rfl (hS _ _ _ _ s1 (.inl rfl)) (decide_eq_true rfl) rfl ?_)
      | (refine I_pick ?_; first
          | refine W_pick (v := .int _ _) rfl rfl rfl rfl ?_
          | refine W_pick (v := .bool _) rfl rfl rfl rfl ?_
          | refine W_pick (v := .slice _ _ _) rfl rfl rfl rfl ?_
          | refine W_pick (v := .agg _) rfl rfl rfl rfl ?_
          | refine W_skip rfl ?_)
      | (refine I_extract ?_; first
          | refine W_extract (d := .int _ _) rfl rfl rfl rfl ?_
          | refine W_extract (d := .bool _) rfl rfl rfl rfl ?_
          | refine W_extract (d := .slice _ _ _) rfl rfl rfl rfl ?_
          | refine W_extract (d := .agg _) rfl rfl rfl rfl ?_
          | refine W_extract (d := .ptr _ _) rfl rfl rfl rfl ?_
          | refine W_extract (d := .func _ _) rfl rfl rfl rfl ?_
          | refine W_skip rfl ?_)
      | (refine I_box ?_; first
          | refine W_boxA rfl rfl rfl rfl rfl ?_
          | refine W_box1 (v := .slice _ _ _) rfl rfl rfl rfl rfl ?_
          | refine W_box1 (v := .int _ _) rfl rfl rfl rfl rfl ?_
          | refine W_box1 (v := .bool _) rfl rfl rfl rfl rfl ?_
          | refine W_box1 (v := .ptr _ _) rfl rfl rfl rfl rfl ?_
          | refine W_skip rfl ?_)
      | refine W_not rfl rfl rfl ?_
      | refine W_lenM rfl rfl rfl ?_
      | refine W_lenS rfl rfl rfl ?_
      | refine W_lenR rfl rfl rfl ?_
      | refine W_faddr rfl rfl rfl ?_
      | refine W_faddrE rfl rfl rfl ?_
      | refine W_indexA (agg := false) (d := .int _ _) rfl rfl rfl rfl (by decide) rfl ?_
      | refine W_indexA (agg := false) (d := .bool _) rfl rfl rfl rfl (by decide) rfl ?_
      | refine W_skip rfl ?_
      | refine WS_nil ?_)
    | refine WC_seq ?_
    | refine WC_opsS ?_
    | refine WC_drawS ?_
    | refine WC_skip ?_
    | refine WC_condT rfl ?_
    | refine WC_condF rfl ?_
    | refine WC_ret ?_
    | refine okF_intro rfl ?_)
      all_goals first
        | exact fin_bool (by simp) rfl rfl
        | (exfalso
           simp only [decide_eq_true_eq] at *
           exact hb ⟨by assumption, by omega, by omega, by show n ≤ room l c.id c.fr c.to c.st c.en c.ra k; omega⟩)
  · repeat' (first
    | (refine I_WS ?_; first
      | (refine I_mov ?_; first
          | refine W_skip rfl ?_
          | refine W_mov (v := .int _ _) rfl rfl rfl ?_
          | refine W_mov (v := .bool _) rfl rfl rfl ?_
          | refine W_mov (v := .slice _ _ _) rfl rfl rfl ?_
          | refine W_mov (v := .agg _) rfl rfl rfl ?_
          | refine W_mov (v := .ptr _ _) rfl rfl rfl ?_
          | refine W_mov (v := .func _ _) rfl rfl rfl ?_
          | refine W_mov (v := .eptr _ _ _ _) rfl rfl rfl ?_
          | refine W_mov (v := .rs _ _ _ _ _) rfl rfl rfl ?_
          | refine W_mov (v := .tuple _) rfl rfl rfl ?_
          | refine W_mov (v := .map _) rfl rfl rfl ?_
          | refine W_mov (v := .str _) rfl rfl rfl ?_
          | refine W_mov (v := .nilptr) rfl rfl rfl ?_)
      | (refine I_bin ?_; first
          | refine W_skip rfl ?_
          | refine W_lssT rfl rfl rfl rfl (by omega) ?_
          | refine W_lssF rfl rfl rfl rfl (by omega) ?_
          | (refine W_lss rfl rfl rfl rfl ?_ ?_ <;> intro _)
          | refine W_leqT rfl rfl rfl rfl (by omega) ?_
          | refine W_leqF rfl rfl rfl rfl (by omega) ?_
          | (refine W_leq rfl rfl rfl rfl ?_ ?_ <;> intro _)
          | refine W_gtrT rfl rfl rfl rfl (by omega) ?_
          | refine W_gtrF rfl rfl rfl rfl (by omega) ?_
          | (refine W_gtr rfl rfl rfl rfl ?_ ?_ <;> intro _)
          | refine W_geqT rfl rfl rfl rfl (by omega) ?_
          | refine W_geqF rfl rfl rfl rfl (by omega) ?_
          | (refine W_geq rfl rfl rfl rfl ?_ ?_ <;> intro _)
          | refine W_eqlT rfl rfl rfl rfl (by omega) ?_
          | refine W_eqlF rfl rfl rfl rfl (by omega) ?_
          | (refine W_eql rfl rfl rfl rfl ?_ ?_ <;> intro _)
          | refine W_add rfl rfl rfl rfl (by first | exact w64 (by omega) | rfl) ?_
          | refine W_sub rfl rfl rfl rfl (by first | exact w64 (by omega) | rfl) ?_)
      | (refine I_load ?_; first
          | refine W_skip rfl ?_
          | refine W_load (agg := false) (d := .int _ _) rfl rfl rfl rfl (by first | exact Nat.zero_le _ | omega) rfl ?_
          | refine W_load (agg := false) (d := .bool _) rfl rfl rfl rfl (by first | exact Nat.zero_le _ | omega) rfl ?_
          | refine W_load (agg := false) (d := .slice _ _ _) rfl rfl rfl rfl (by first | exact Nat.zero_le _ | omega) rfl ?_
          | refine W_load (agg := false) (d := .ptr _ _) rfl rfl rfl rfl (by first | exact Nat.zero_le _ | omega) rfl ?_
          | refine W_load (agg := false) (d := .func _ _) rfl rfl rfl rfl (by first | exact Nat.zero_le _ | omega) rfl ?_
          | refine W_load (agg := true) (d := .agg [_, _, _, _, _, _]) rfl rfl rfl rfl (by first | exact Nat.zero_le _ | omega) rfl ?_)
      | (refine I_call ?_; first
          | refine W_skip rfl ?_
          | refine W_callBT rfl rfl rfl s_small rfl rfl ?_
          | refine W_callB rfl rfl rfl (s_Right l (by omega) _ _ (.inl rfl)) rfl ?_ ?_ <;> intro _)
      | (refine I_pick ?_; first
          | refine W_pick (v := .int _ _) rfl rfl rfl rfl ?_
          | refine W_pick (v := .bool _) rfl rfl rfl rfl ?_
          | refine W_pick (v := .slice _ _ _) rfl rfl rfl rfl ?_
          | refine W_pick (v := .agg _) rfl rfl rfl rfl ?_
          | refine W_skip rfl ?_)
      | (refine I_extract ?_; first
          | refine W_extract (d := .int _ _) rfl rfl rfl rfl ?_
          | refine W_extract (d := .bool _) rfl rfl rfl rfl ?_
          | refine W_extract (d := .slice _ _ _) rfl rfl rfl rfl ?_
          | refine W_extract (d := .agg _) rfl rfl rfl rfl ?_
          | refine W_extract (d := .ptr _ _) rfl rfl rfl rfl ?_
          | refine W_extract (d := .func _ _) rfl rfl rfl rfl ?_
          | refine W_skip rfl ?_)
      | (refine I_box ?_; first
          | refine W_boxA rfl rfl rfl rfl rfl ?_
          | refine W_box1 (v := .slice _ _ _) rfl rfl rfl rfl rfl ?_
          | refine W_box1 (v := .int _ _) rfl rfl rfl rfl rfl ?_
          | refine W_box1 (v := .bool _) rfl rfl rfl rfl rfl ?_
          | refine W_box1 (v := .ptr _ _) rfl rfl rfl rfl rfl ?_
          | refine W_skip rfl ?_)
      | refine W_not rfl rfl rfl ?_
      | refine W_lenM rfl rfl rfl ?_
      | refine W_lenS rfl rfl rfl ?_
      | refine W_lenR rfl rfl rfl ?_
      | refine W_faddr rfl rfl rfl ?_
      | refine W_faddrE rfl rfl rfl ?_
      | refine W_indexA (agg := false) (d := .int _ _) rfl rfl rfl rfl (by decide) rfl ?_
      | refine W_indexA (agg := false) (d := .bool _) rfl rfl rfl rfl (by decide) rfl ?_
      | refine W_skip rfl ?_
      | refine WS_nil ?_)
    | refine WC_seq ?_
    | refine WC_opsS ?_
    | refine WC_drawS ?_
    | refine WC_skip ?_
    | refine WC_condT rfl ?_
    | refine WC_condF rfl ?_
    | refine WC_ret ?_
    | refine okF_intro rfl ?_)
    all_goals first
      | exact fin_bool (by simp) rfl rfl
      | (exfalso; exact h ⟨by omega, by assumption⟩)
end Go.Led
