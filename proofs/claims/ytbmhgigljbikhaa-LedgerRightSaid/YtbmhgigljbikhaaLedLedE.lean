/-
  LedgerDrops, as the evaluator runs it.
-/
import Derived.Test.YtbmhgigljbikhaaLedLedD
import Derived.Test.YtbmhgigljbikhaaLedLedN
set_option linter.unusedVariables false
set_option linter.unusedSimpArgs false
set_option linter.unnecessarySimpa false
namespace Go.Led
open Go.Ev
set_option linter.unusedVariables false
set_option linter.unusedSimpArgs false
theorem Inv.keep {l : List Bk} (h : Inv l) (ids : List Int) : Inv (keepL ids l) :=
  ⟨h.1.filter _, fun b hb => h.2 b (List.mem_filter.mp hb).1⟩
theorem get_keep {l : List Bk} (h : Inv l) (ids : List Int) (id : Int) : getB (keepL ids l) id = if id ∈ ids then ⟨id, 0, 0, 0⟩ else getB l id := by
  have hk := h.keep ids
  by_cases hid : id ∈ ids
  · rw [if_pos hid]
    exact getB_none (fun b hb e => by
      have := (List.mem_filter.mp hb).2
      rw [e] at this
      exact (of_decide_eq_true this) hid)
  · rw [if_neg hid]
    rcases getB_or l id with h1 | h1
    · have h2 : getB l id ∈ keepL ids l := List.mem_filter.mpr ⟨h1, decide_eq_true (by rw [getB_id]; exact hid)⟩
      have := getB_mem hk.1 h2
      rw [getB_id] at this
      exact this
    · rcases getB_or (keepL ids l) id with h2 | h2
      · have h3 := (List.mem_filter.mp h2).1
        have := getB_mem h.1 h3
        rw [getB_id] at this
        exact this.symm
      · rw [h1, h2]
theorem keep_keep (ids : List Int) (l : List Bk) : keepL ids (keepL ids l) = keepL ids l := by
  unfold keepL
  rw [List.filter_filter]
  simp
theorem room_none {l : List Bk} (h : Inv l) {c : Co} {k : Int} (hk : 0 ≤ k ∧ k < 3) (h0 : getB l c.id = ⟨c.id, 0, 0, 0⟩) : roomM l c k = c.vol := by
  rw [roomM_B h, h0]
  have hv := vol_in c
  have hb : bkl ⟨c.id, 0, 0, 0⟩ k = 0 := by
    have hk' : k = 0 ∨ k = 1 ∨ k = 2 := by omega
    rcases hk' with rfl | rfl | rfl <;> rfl
  have := roomB_or ⟨c.id, 0, 0, 0⟩ c hk
  omega
set_option maxHeartbeats 8000000 in
theorem run_Drops (l : List Bk) (c : Co) (id k : Int) (hc : I64 c.en) : EvP Γ 12 [.slice .no 4 (l.map Bk.e), c.e, .int .i64 id, .int .i64 k] (.bool true) := by
  refine EvP_code rfl rfl ?_
  unfold I64 at hc
  by_cases h : l.length ≤ 50 ∧ (0 ≤ k ∧ k < 3) ∧ rt 0 l = true
  · obtain ⟨h1, hk, h3⟩ := h
    have hl : l.length ≤ 1073741824 := by omega
    have hI := (rt_inv l).mp h3
    have hm := hI.keep [id]
    have hml := keepL_le [id] l
    have hr := fun t sz hs => s_Right l hl t sz hs
    have hr2 := fun t sz hs => s_Right (keepL [id] l) (by omega) t sz hs
    have hrt := (rt_inv _).mpr hm
    have hD := fun t sz hs => s_Drop [id] (by simp) .no 1 (.inl rfl) l hl t sz hs
    have hD2 := fun t sz hs => s_Drop [id] (by simp) .no 1 (.inl rfl) (keepL [id] l) (by omega) t sz hs
    rw [keep_keep] at hD2
    have hR := fun t sz hsz => s_Room l c.id c.fr c.to c.st c.en c.ra k hc hI.1 (by omega) (hI.rowU _) t sz hsz
    have hR2 := fun t sz hsz => s_Room (keepL [id] l) c.id c.fr c.to c.st c.en c.ra k hc hm.1 (by omega) (hm.rowU _) t sz hsz
    have hB := fun t sz hsz => s_Backlog l c.id k hI.1 (by omega) (hI.rowU _) t sz hsz
    have hB2 := fun i t sz hsz => s_Backlog (keepL [id] l) i k hm.1 (by omega) (hm.rowU _) t sz hsz
    have hV := s_check_Volume c.id c.fr c.to c.st c.en c.ra hc
    have hS := fun t t' sa sb ha hb => s_Same (keepL [id] l) (keepL [id] l) (by omega) t t' sa sb ha hb
    have hg := get_keep hI [id] c.id
    by_cases hid : c.id = id
    · subst hid
      rw [if_pos (by simp)] at hg
      have e1 : room (keepL [c.id] l) c.id c.fr c.to c.st c.en c.ra k = volC c.id c.fr c.to c.st c.en c.ra := room_none hm hk hg
      have e2 : bkl (row (keepL [c.id] l) c.id) k = 0 := by
        rw [row_get hm.1, hg]
        have hk' : k = 0 ∨ k = 1 ∨ k = 2 := by omega
        rcases hk' with rfl | rfl | rfl <;> rfl
      have hB2 := hB2 c.id
      rw [e1] at hR2
      rw [e2] at hB2
      clear hg e1 e2 hm hI hD2 hB hR hS
      repeat' (first
    | (refine I_WS ?_; first
      | (refine I_mov ?_; first
          | refine W_skip rfl ?_
          | refine W_mov (v := .int _ _) rfl rfl rfl ?_
          | refine W_mov (v := .bool _) rfl rfl rfl ?_
          | refine W_mov (v := .slice _ _ _) rfl rfl rfl ?_
          | refine W_mov (v := .agg _) rfl rfl rfl ?_
          | refine W_mov (v := .ptr _ _) rfl rfl rfl ?_
          | refine W_mov (v := .func _ _) rfl rfl rfl ?_
          | refine W_mov (v := .eptr _ _ _ _) rfl rfl rfl ?_
          | refine W_mov (v := .rs _ _ _ _ _) rfl rfl rfl ?_
          | refine W_mov (v := .tuple _) rfl rfl rfl ?_
          | refine W_mov (v := .map _) rfl rfl rfl ?_
          | refine W_mov (v := .str _) rfl rfl rfl ?_
          | refine W_mov (v := .nilptr) rfl rfl rfl ?_)
      | (refine I_bin ?_; first
          | refine W_skip rfl ?_
          | refine W_lssT rfl rfl rfl rfl (by omega) ?_
          | refine W_lssF rfl rfl rfl rfl (by omega) ?_
          | (refine W_lss rfl rfl rfl rfl ?_ ?_ <;> intro _)
          | refine W_gtrT rfl rfl rfl rfl (by omega) ?_
          | refine W_gtrF rfl rfl rfl rfl (by omega) ?_
          | (refine W_gtr rfl rfl rfl rfl ?_ ?_ <;> intro _)
          | refine W_eqlT rfl rfl rfl rfl (by omega) ?_
          | refine W_eqlF rfl rfl rfl rfl (by omega) ?_
          | (refine W_eql rfl rfl rfl rfl ?_ ?_ <;> intro _))
      | (refine I_load ?_; first
          | refine W_skip rfl ?_
          | refine W_load (agg := false) (d := .int _ _) rfl rfl rfl rfl (by first | exact Nat.zero_le _ | omega) rfl ?_
          | refine W_load (agg := false) (d := .bool _) rfl rfl rfl rfl (by first | exact Nat.zero_le _ | omega) rfl ?_
          | refine W_load (agg := false) (d := .slice _ _ _) rfl rfl rfl rfl (by first | exact Nat.zero_le _ | omega) rfl ?_
          | refine W_load (agg := false) (d := .ptr _ _) rfl rfl rfl rfl (by first | exact Nat.zero_le _ | omega) rfl ?_
          | refine W_load (agg := false) (d := .func _ _) rfl rfl rfl rfl (by first | exact Nat.zero_le _ | omega) rfl ?_
          | refine W_load (agg := true) (d := .agg [_, _, _, _, _, _]) rfl rfl rfl rfl (by first | exact Nat.zero_le _ | omega) rfl ?_)
      | (refine I_call ?_; first
          | refine W_skip rfl ?_
          | refine W_callBT rfl rfl rfl s_small rfl rfl ?_
          | refine W_callBT rfl rfl rfl (hr _ _ (.inl rfl)) h3 rfl ?_
          | (refine W_callN rfl rfl rfl (hD _ _ (.inl rfl)) rfl ?_ <;> intro _ _ s1 _)
          | refine W_call rfl rfl rfl (hR2 _ _ s1) rfl rfl ?_
          | refine W_call rfl rfl rfl (hB2 _ _ s1) rfl rfl ?_
          | refine W_call rfl rfl rfl hV rfl rfl ?_
          | refine W_callBT rfl rfl rfl (hr2 _ _ s1) hrt rfl ?_)
      | (refine I_pick ?_; first
          | refine W_pick (v := .int _ _) rfl rfl rfl rfl ?_
          | refine W_pick (v := .bool _) rfl rfl rfl rfl ?_
          | refine W_pick (v := .slice _ _ _) rfl rfl rfl rfl ?_
          | refine W_pick (v := .agg _) rfl rfl rfl rfl ?_
          | refine W_skip rfl ?_)
      | (refine I_box ?_; first
          | refine W_boxA rfl rfl rfl rfl rfl ?_
          | refine W_box1 (v := .slice _ _ _) rfl rfl rfl rfl rfl ?_
          | refine W_box1 (v := .int _ _) rfl rfl rfl rfl rfl ?_
          | refine W_box1 (v := .bool _) rfl rfl rfl rfl rfl ?_
          | refine W_box1 (v := .ptr _ _) rfl rfl rfl rfl rfl ?_
          | refine W_skip rfl ?_)
      | refine W_not rfl rfl rfl ?_
      | refine W_lenM rfl rfl rfl ?_
      | refine W_lenS rfl rfl rfl ?_
      | refine W_lenR rfl rfl rfl ?_
      | refine W_faddr rfl rfl rfl ?_
      | refine W_faddrE rfl rfl rfl ?_
      | refine W_bsliceS (ds := [.slice _ _ _]) (ys := [.slice _ _ _]) rfl rfl rfl rfl (by decide) rfl ?_
      | refine W_bsliceS (ds := [.slice _ _ _, .slice _ _ _]) (ys := [.slice _ _ _, .slice _ _ _]) rfl rfl rfl rfl (by decide) rfl ?_
      | refine W_bsliceS (ds := [.slice _ _ _, .slice _ _ _, .slice _ _ _]) (ys := [.slice _ _ _, .slice _ _ _, .slice _ _ _]) rfl rfl rfl rfl (by decide) rfl ?_
      | refine W_bslice (ys := []) rfl rfl rfl (by decide) rfl ?_
      | refine W_bslice (ys := [_]) rfl rfl rfl (by decide) rfl ?_
      | refine W_bslice (ys := [_, _]) rfl rfl rfl (by decide) rfl ?_
      | refine W_bslice (ys := [_, _, _]) rfl rfl rfl (by decide) rfl ?_
      | refine W_skip rfl ?_
      | refine WS_nil ?_)
    | refine WC_seq ?_
    | refine WC_opsS ?_
    | refine WC_drawS ?_
    | refine WC_skip ?_
    | refine WC_condT rfl ?_
    | refine WC_condF rfl ?_
    | refine WC_ret ?_
    | refine okF_intro rfl ?_)
      all_goals exact fin_bool (by simp) rfl rfl
    · rw [if_neg (by simp [hid])] at hg
      have e1 : room (keepL [id] l) c.id c.fr c.to c.st c.en c.ra k = room l c.id c.fr c.to c.st c.en c.ra k := by
        show roomM (keepL [id] l) c k = roomM l c k
        rw [roomM_B hm, roomM_B hI, hg]
      have e2 : bkl (row (keepL [id] l) c.id) k = bkl (row l c.id) k := by rw [row_get hm.1, row_get hI.1, hg]
      have hB2 := hB2 c.id
      rw [e1] at hR2
      rw [e2] at hB2
      clear hg e1 e2 hm hI hV
      generalize keepL [id] l = m at *
      repeat' (first
    | (refine I_WS ?_; first
      | (refine I_mov ?_; first
          | refine W_skip rfl ?_
          | refine W_mov (v := .int _ _) rfl rfl rfl ?_
          | refine W_mov (v := .bool _) rfl rfl rfl ?_
          | refine W_mov (v := .slice _ _ _) rfl rfl rfl ?_
          | refine W_mov (v := .agg _) rfl rfl rfl ?_
          | refine W_mov (v := .ptr _ _) rfl rfl rfl ?_
          | refine W_mov (v := .func _ _) rfl rfl rfl ?_
          | refine W_mov (v := .eptr _ _ _ _) rfl rfl rfl ?_
          | refine W_mov (v := .rs _ _ _ _ _) rfl rfl rfl ?_
          | refine W_mov (v := .tuple _) rfl rfl rfl ?_
          | refine W_mov (v := .map _) rfl rfl rfl ?_
          | refine W_mov (v := .str _) rfl rfl rfl ?_
          | refine W_mov (v := .nilptr) rfl rfl rfl ?_)
      | (refine I_bin ?_; first
          | refine W_skip rfl ?_
          | refine W_lssT rfl rfl rfl rfl (by omega) ?_
          | refine W_lssF rfl rfl rfl rfl (by omega) ?_
          | (refine W_lss rfl rfl rfl rfl ?_ ?_ <;> intro _)
          | refine W_gtrT rfl rfl rfl rfl (by omega) ?_
          | refine W_gtrF rfl rfl rfl rfl (by omega) ?_
          | (refine W_gtr rfl rfl rfl rfl ?_ ?_ <;> intro _)
          | refine W_eqlT rfl rfl rfl rfl (by omega) ?_
          | refine W_eqlF rfl rfl rfl rfl (by omega) ?_
          | (refine W_eql rfl rfl rfl rfl ?_ ?_ <;> intro _))
      | (refine I_load ?_; first
          | refine W_skip rfl ?_
          | refine W_load (agg := false) (d := .int _ _) rfl rfl rfl rfl (by first | exact Nat.zero_le _ | omega) rfl ?_
          | refine W_load (agg := false) (d := .bool _) rfl rfl rfl rfl (by first | exact Nat.zero_le _ | omega) rfl ?_
          | refine W_load (agg := false) (d := .slice _ _ _) rfl rfl rfl rfl (by first | exact Nat.zero_le _ | omega) rfl ?_
          | refine W_load (agg := false) (d := .ptr _ _) rfl rfl rfl rfl (by first | exact Nat.zero_le _ | omega) rfl ?_
          | refine W_load (agg := false) (d := .func _ _) rfl rfl rfl rfl (by first | exact Nat.zero_le _ | omega) rfl ?_
          | refine W_load (agg := true) (d := .agg [_, _, _, _, _, _]) rfl rfl rfl rfl (by first | exact Nat.zero_le _ | omega) rfl ?_)
      | (refine I_call ?_; first
          | refine W_skip rfl ?_
          | refine W_callBT rfl rfl rfl s_small rfl rfl ?_
          | refine W_callBT rfl rfl rfl (hr _ _ (.inl rfl)) h3 rfl ?_
          | (refine W_callN rfl rfl rfl (hD _ _ (.inl rfl)) rfl ?_ <;> intro _ _ s1 _)
          | (refine W_callN rfl rfl rfl (hD2 _ _ s1) rfl ?_ <;> intro _ _ s2 _)
          | refine W_call rfl rfl rfl (hR2 _ _ s1) rfl rfl ?_
          | refine W_call rfl rfl rfl (hR _ _ (.inl rfl)) rfl rfl ?_
          | refine W_call rfl rfl rfl (hB2 _ _ s1) rfl rfl ?_
          | refine W_call rfl rfl rfl (hB _ _ (.inl rfl)) rfl rfl ?_
          | refine W_callBT rfl rfl rfl (hr2 _ _ s1) hrt rfl ?_
          | refine W_callBT rfl rfl rfl (hS _ _ _ _ s2 s1) (decide_eq_true rfl) rfl ?_)
      | (refine I_pick ?_; first
          | refine W_pick (v := .int _ _) rfl rfl rfl rfl ?_
          | refine W_pick (v := .bool _) rfl rfl rfl rfl ?_
          | refine W_pick (v := .slice _ _ _) rfl rfl rfl rfl ?_
          | refine W_pick (v := .agg _) rfl rfl rfl rfl ?_
          | refine W_skip rfl ?_)
      | (refine I_box ?_; first
          | refine W_boxA rfl rfl rfl rfl rfl ?_
          | refine W_box1 (v := .slice _ _ _) rfl rfl rfl rfl rfl ?_
          | refine W_box1 (v := .int _ _) rfl rfl rfl rfl rfl ?_
          | refine W_box1 (v := .bool _) rfl rfl rfl rfl rfl ?_
          | refine W_box1 (v := .ptr _ _) rfl rfl rfl rfl rfl ?_
          | refine W_skip rfl ?_)
      | refine W_not rfl rfl rfl ?_
      | refine W_lenM rfl rfl rfl ?_
      | refine W_lenS rfl rfl rfl ?_
      | refine W_lenR rfl rfl rfl ?_
      | refine W_faddr rfl rfl rfl ?_
      | refine W_faddrE rfl rfl rfl ?_
      | refine W_bsliceS (ds := [.slice _ _ _]) (ys := [.slice _ _ _]) rfl rfl rfl rfl (by decide) rfl ?_
      | refine W_bsliceS (ds := [.slice _ _ _, .slice _ _ _]) (ys := [.slice _ _ _, .slice _ _ _]) rfl rfl rfl rfl (by decide) rfl ?_
      | refine W_bsliceS (ds := [.slice _ _ _, .slice _ _ _, .slice _ _ _]) (ys := [.slice _ _ _, .slice _ _ _, .slice _ _ _]) rfl rfl rfl rfl (by decide) rfl ?_
      | refine W_bslice (ys := []) rfl rfl rfl (by decide) rfl ?_
      | refine W_bslice (ys := [_]) rfl rfl rfl (by decide) rfl ?_
      | refine W_bslice (ys := [_, _]) rfl rfl rfl (by decide) rfl ?_
      | refine W_bslice (ys := [_, _, _]) rfl rfl rfl (by decide) rfl ?_
      | refine W_skip rfl ?_
      | refine WS_nil ?_)
    | refine WC_seq ?_
    | refine WC_opsS ?_
    | refine WC_drawS ?_
    | refine WC_skip ?_
    | refine WC_condT rfl ?_
    | refine WC_condF rfl ?_
    | refine WC_ret ?_
    | refine okF_intro rfl ?_)
      all_goals exact fin_bool (by simp) rfl rfl
  · repeat' (first
    | (refine I_WS ?_; first
      | (refine I_mov ?_; first
          | refine W_skip rfl ?_
          | refine W_mov (v := .int _ _) rfl rfl rfl ?_
          | refine W_mov (v := .bool _) rfl rfl rfl ?_
          | refine W_mov (v := .slice _ _ _) rfl rfl rfl ?_
          | refine W_mov (v := .agg _) rfl rfl rfl ?_
          | refine W_mov (v := .ptr _ _) rfl rfl rfl ?_
          | refine W_mov (v := .func _ _) rfl rfl rfl ?_
          | refine W_mov (v := .eptr _ _ _ _) rfl rfl rfl ?_
          | refine W_mov (v := .rs _ _ _ _ _) rfl rfl rfl ?_
          | refine W_mov (v := .tuple _) rfl rfl rfl ?_
          | refine W_mov (v := .map _) rfl rfl rfl ?_
          | refine W_mov (v := .str _) rfl rfl rfl ?_
          | refine W_mov (v := .nilptr) rfl rfl rfl ?_)
      | (refine I_bin ?_; first
          | refine W_skip rfl ?_
          | refine W_lssT rfl rfl rfl rfl (by omega) ?_
          | refine W_lssF rfl rfl rfl rfl (by omega) ?_
          | (refine W_lss rfl rfl rfl rfl ?_ ?_ <;> intro _)
          | refine W_gtrT rfl rfl rfl rfl (by omega) ?_
          | refine W_gtrF rfl rfl rfl rfl (by omega) ?_
          | (refine W_gtr rfl rfl rfl rfl ?_ ?_ <;> intro _)
          | refine W_eqlT rfl rfl rfl rfl (by omega) ?_
          | refine W_eqlF rfl rfl rfl rfl (by omega) ?_
          | (refine W_eql rfl rfl rfl rfl ?_ ?_ <;> intro _))
      | (refine I_load ?_; first
          | refine W_skip rfl ?_
          | refine W_load (agg := false) (d := .int _ _) rfl rfl rfl rfl (by first | exact Nat.zero_le _ | omega) rfl ?_
          | refine W_load (agg := false) (d := .bool _) rfl rfl rfl rfl (by first | exact Nat.zero_le _ | omega) rfl ?_
          | refine W_load (agg := false) (d := .slice _ _ _) rfl rfl rfl rfl (by first | exact Nat.zero_le _ | omega) rfl ?_
          | refine W_load (agg := false) (d := .ptr _ _) rfl rfl rfl rfl (by first | exact Nat.zero_le _ | omega) rfl ?_
          | refine W_load (agg := false) (d := .func _ _) rfl rfl rfl rfl (by first | exact Nat.zero_le _ | omega) rfl ?_
          | refine W_load (agg := true) (d := .agg [_, _, _, _, _, _]) rfl rfl rfl rfl (by first | exact Nat.zero_le _ | omega) rfl ?_)
      | (refine I_call ?_; first
          | refine W_skip rfl ?_
          | refine W_callBT rfl rfl rfl s_small rfl rfl ?_
          | refine W_callB rfl rfl rfl (s_Right l (by omega) _ _ (.inl rfl)) rfl ?_ ?_ <;> intro _)
      | (refine I_pick ?_; first
          | refine W_pick (v := .int _ _) rfl rfl rfl rfl ?_
          | refine W_pick (v := .bool _) rfl rfl rfl rfl ?_
          | refine W_pick (v := .slice _ _ _) rfl rfl rfl rfl ?_
          | refine W_pick (v := .agg _) rfl rfl rfl rfl ?_
          | refine W_skip rfl ?_)
      | (refine I_box ?_; first
          | refine W_boxA rfl rfl rfl rfl rfl ?_
          | refine W_box1 (v := .slice _ _ _) rfl rfl rfl rfl rfl ?_
          | refine W_box1 (v := .int _ _) rfl rfl rfl rfl rfl ?_
          | refine W_box1 (v := .bool _) rfl rfl rfl rfl rfl ?_
          | refine W_box1 (v := .ptr _ _) rfl rfl rfl rfl rfl ?_
          | refine W_skip rfl ?_)
      | refine W_not rfl rfl rfl ?_
      | refine W_lenM rfl rfl rfl ?_
      | refine W_lenS rfl rfl rfl ?_
      | refine W_lenR rfl rfl rfl ?_
      | refine W_faddr rfl rfl rfl ?_
      | refine W_faddrE rfl rfl rfl ?_
      | refine W_bsliceS (ds := [.slice _ _ _]) (ys := [.slice _ _ _]) rfl rfl rfl rfl (by decide) rfl ?_
      | refine W_bsliceS (ds := [.slice _ _ _, .slice _ _ _]) (ys := [.slice _ _ _, .slice _ _ _]) rfl rfl rfl rfl (by decide) rfl ?_
      | refine W_bsliceS (ds := [.slice _ _ _, .slice _ _ _, .slice _ _ _]) (ys := [.slice _ _ _, .slice _ _ _, .slice _ _ _]) rfl rfl rfl rfl (by decide) rfl ?_
      | refine W_bslice (ys := []) rfl rfl rfl (by decide) rfl ?_
      | refine W_bslice (ys := [_]) rfl rfl rfl (by decide) rfl ?_
      | refine W_bslice (ys := [_, _]) rfl rfl rfl (by decide) rfl ?_
      | refine W_bslice (ys := [_, _, _]) rfl rfl rfl (by decide) rfl ?_
      | refine W_skip rfl ?_
      | refine WS_nil ?_)
    | refine WC_seq ?_
    | refine WC_opsS ?_
    | refine WC_drawS ?_
    | refine WC_skip ?_
    | refine WC_condT rfl ?_
    | refine WC_condF rfl ?_
    | refine WC_ret ?_
    | refine okF_intro rfl ?_)
    all_goals first
      | exact fin_bool (by simp) rfl rfl
      | (exfalso; exact h ⟨by omega, by omega, by assumption⟩)
end Go.Led
