/-
  LedgerOrder, as the evaluator runs it.
-/
import Derived.Test.YtbmhgigljbikhaaLedLedQ
set_option linter.unusedVariables false
set_option linter.unusedSimpArgs false
set_option linter.unnecessarySimpa false
namespace Go.Led
open Go.Ev
set_option linter.unusedVariables false
set_option linter.unusedSimpArgs false
set_option maxHeartbeats 4000000 in
theorem run_Order (l : List Bk) (c d : Co) (k n m : Int) (hc : I64 c.en) (hd : I64 d.en) : EvP Γ 11 [.slice .no 4 (l.map Bk.e), c.e, d.e, .int .i64 k, .int .i64 n, .int .i64 m] (.bool true) := by
  refine EvP_code rfl rfl ?_
  unfold I64 at hc hd
  by_cases h : l.length ≤ 50 ∧ c.id ≠ d.id ∧ rt 0 l = true
  · obtain ⟨h1, h2, h3⟩ := h
    have hl : l.length ≤ 1073741824 := by omega
    have hI := (rt_inv l).mp h3
    have hIc := hI.book c k n
    have hId := hI.book d k m
    have l1 := book_len hI c k n
    have l2 := book_len hI d k m
    have l3 := book_len hIc d k m
    have e1 : decide (bookC l c k n) = decide (bookC (bookM l d k m) c k n) := by simp only [bookC_other hI (Ne.symm h2)]
    have e2 : decide (bookC (bookM l c k n) d k m) = decide (bookC l d k m) := by simp only [bookC_other hI h2]
    have b1 := fun t sz hs => s_Book l c k n hc hI.1 hl (hI.rowU _) t sz hs
    have b2 := fun t sz hs => s_Book (bookM l c k n) d k m hd hIc.1 (by omega) (hIc.rowU _) t sz hs
    have b3 := fun t sz hs => s_Book l d k m hd hI.1 hl (hI.rowU _) t sz hs
    have b4 := fun t sz hs => s_Book (bookM l d k m) c k n hc hId.1 (by omega) (hId.rowU _) t sz hs
    have hS := fun t t' sa sb ha hb => s_Same (bookM (bookM l c k n) d k m) (bookM (bookM l d k m) c k n) (by omega) t t' sa sb ha hb
    have hcm := book_comm hI h2 k n m
    have hr := fun t sz hs => s_Right l hl t sz hs
    clear hI hIc hId
    generalize bookM (bookM l c k n) d k m = lcd at *
    generalize bookM (bookM l d k m) c k n = ldc at *
    generalize bookM l c k n = lc at *
    generalize bookM l d k m = ld at *
    generalize decide (bookC l c k n) = q1 at *
    generalize decide (bookC lc d k m) = q2 at *
    generalize decide (bookC l d k m) = q3 at *
    generalize decide (bookC ld c k n) = q4 at *
    subst e1 e2
    repeat' (first
    | (refine I_WS ?_; first
      | (refine W_eqlBc (v := true) rfl rfl rfl rfl (beq_self_eq_true _) ?_)
      | (refine I_mov ?_; first
          | refine W_skip rfl ?_
          | refine W_mov (v := .int _ _) rfl rfl rfl ?_
          | refine W_mov (v := .bool _) rfl rfl rfl ?_
          | refine W_mov (v := .slice _ _ _) rfl rfl rfl ?_
          | refine W_mov (v := .agg _) rfl rfl rfl ?_
          | refine W_mov (v := .ptr _ _) rfl rfl rfl ?_
          | refine W_mov (v := .func _ _) rfl rfl rfl ?_
          | refine W_mov (v := .eptr _ _ _ _) rfl rfl rfl ?_
          | refine W_mov (v := .rs _ _ _ _ _) rfl rfl rfl ?_
          | refine W_mov (v := .tuple _) rfl rfl rfl ?_
          | refine W_mov (v := .map _) rfl rfl rfl ?_
          | refine W_mov (v := .str _) rfl rfl rfl ?_
          | refine W_mov (v := .nilptr) rfl rfl rfl ?_)
      | (refine I_bin ?_; first
          | refine W_skip rfl ?_
          | refine W_gtrT rfl rfl rfl rfl (by omega) ?_
          | refine W_gtrF rfl rfl rfl rfl (by omega) ?_
          | (refine W_gtr rfl rfl rfl rfl ?_ ?_ <;> intro _)
          | refine W_eqlT rfl rfl rfl rfl (by omega) ?_
          | refine W_eqlF rfl rfl rfl rfl (by omega) ?_
          | (refine W_eql rfl rfl rfl rfl ?_ ?_ <;> intro _))
      | (refine I_load ?_; first
          | refine W_skip rfl ?_
          | refine W_load (agg := false) (d := .int _ _) rfl rfl rfl rfl (by first | exact Nat.zero_le _ | omega) rfl ?_
          | refine W_load (agg := false) (d := .bool _) rfl rfl rfl rfl (by first | exact Nat.zero_le _ | omega) rfl ?_
          | refine W_load (agg := false) (d := .slice _ _ _) rfl rfl rfl rfl (by first | exact Nat.zero_le _ | omega) rfl ?_
          | refine W_load (agg := false) (d := .ptr _ _) rfl rfl rfl rfl (by first | exact Nat.zero_le _ | omega) rfl ?_
          | refine W_load (agg := false) (d := .func _ _) rfl rfl rfl rfl (by first | exact Nat.zero_le _ | omega) rfl ?_
          | refine W_load (agg := true) (d := .agg [_, _, _, _, _, _]) rfl rfl rfl rfl (by first | exact Nat.zero_le _ | omega) rfl ?_)
      | (refine I_call ?_; first
          | refine W_skip rfl ?_
          | refine W_callBT rfl rfl rfl s_small rfl rfl ?_
          | refine W_callBT rfl rfl rfl (hr _ _ (.inl rfl)) h3 rfl ?_
          | (refine W_callTD rfl rfl rfl (b1 _ _ (.inl rfl)) rfl ?_ <;> intro _ _ s1 _)
          | (refine W_callTD rfl rfl rfl (b3 _ _ (.inl rfl)) rfl ?_ <;> intro _ _ s3 _)
          | (refine W_callTD rfl rfl rfl (b2 _ _ s1) rfl ?_ <;> intro _ _ s2 _)
          | (refine W_callTD rfl rfl rfl (b4 _ _ s3) rfl ?_ <;> intro _ _ s4 _)
          | refine W_callBT rfl rfl rfl (hS _ _ _ _ s2 s4) (decide_eq_true hcm) rfl ?_)
      | (refine I_pick ?_; first
          | refine W_pick (v := .int _ _) rfl rfl rfl rfl ?_
          | refine W_pick (v := .bool _) rfl rfl rfl rfl ?_
          | refine W_pick (v := .slice _ _ _) rfl rfl rfl rfl ?_
          | refine W_pick (v := .agg _) rfl rfl rfl rfl ?_
          | refine W_skip rfl ?_)
      | (refine I_extract ?_; first
          | refine W_extract (d := .int _ _) rfl rfl rfl rfl ?_
          | refine W_extract (d := .bool _) rfl rfl rfl rfl ?_
          | refine W_extract (d := .slice _ _ _) rfl rfl rfl rfl ?_
          | refine W_extract (d := .agg _) rfl rfl rfl rfl ?_
          | refine W_extract (d := .ptr _ _) rfl rfl rfl rfl ?_
          | refine W_extract (d := .func _ _) rfl rfl rfl rfl ?_
          | refine W_skip rfl ?_)
      | (refine I_box ?_; first
          | refine W_boxA rfl rfl rfl rfl rfl ?_
          | refine W_box1 (v := .slice _ _ _) rfl rfl rfl rfl rfl ?_
          | refine W_box1 (v := .int _ _) rfl rfl rfl rfl rfl ?_
          | refine W_box1 (v := .bool _) rfl rfl rfl rfl rfl ?_
          | refine W_box1 (v := .ptr _ _) rfl rfl rfl rfl rfl ?_
          | refine W_skip rfl ?_)
      | refine W_not rfl rfl rfl ?_
      | (refine W_eqlB rfl rfl rfl rfl ?_)
      | (refine W_neqB rfl rfl rfl rfl ?_)
      | refine W_lenM rfl rfl rfl ?_
      | refine W_lenS rfl rfl rfl ?_
      | refine W_lenR rfl rfl rfl ?_
      | refine W_faddr rfl rfl rfl ?_
      | refine W_faddrE rfl rfl rfl ?_
      | refine W_skip rfl ?_
      | refine WS_nil ?_)
    | refine WC_seq ?_
    | refine WC_opsS ?_
    | refine WC_skip ?_
    | refine WC_condT rfl ?_
    | refine WC_condF rfl ?_
    | refine WC_ret ?_)
    exact fin_bool (by simp) rfl rfl
  · repeat' (first
    | (refine I_WS ?_; first
      | (refine I_mov ?_; first
          | refine W_skip rfl ?_
          | refine W_mov (v := .int _ _) rfl rfl rfl ?_
          | refine W_mov (v := .bool _) rfl rfl rfl ?_
          | refine W_mov (v := .slice _ _ _) rfl rfl rfl ?_
          | refine W_mov (v := .agg _) rfl rfl rfl ?_
          | refine W_mov (v := .ptr _ _) rfl rfl rfl ?_
          | refine W_mov (v := .func _ _) rfl rfl rfl ?_
          | refine W_mov (v := .eptr _ _ _ _) rfl rfl rfl ?_
          | refine W_mov (v := .rs _ _ _ _ _) rfl rfl rfl ?_
          | refine W_mov (v := .tuple _) rfl rfl rfl ?_
          | refine W_mov (v := .map _) rfl rfl rfl ?_
          | refine W_mov (v := .str _) rfl rfl rfl ?_
          | refine W_mov (v := .nilptr) rfl rfl rfl ?_)
      | (refine I_bin ?_; first
          | refine W_skip rfl ?_
          | refine W_gtrT rfl rfl rfl rfl (by omega) ?_
          | refine W_gtrF rfl rfl rfl rfl (by omega) ?_
          | (refine W_gtr rfl rfl rfl rfl ?_ ?_ <;> intro _)
          | refine W_eqlT rfl rfl rfl rfl (by omega) ?_
          | refine W_eqlF rfl rfl rfl rfl (by omega) ?_
          | (refine W_eql rfl rfl rfl rfl ?_ ?_ <;> intro _))
      | (refine I_load ?_; first
          | refine W_skip rfl ?_
          | refine W_load (agg := false) (d := .int _ _) rfl rfl rfl rfl (by first | exact Nat.zero_le _ | omega) rfl ?_
          | refine W_load (agg := false) (d := .bool _) rfl rfl rfl rfl (by first | exact Nat.zero_le _ | omega) rfl ?_
          | refine W_load (agg := false) (d := .slice _ _ _) rfl rfl rfl rfl (by first | exact Nat.zero_le _ | omega) rfl ?_
          | refine W_load (agg := false) (d := .ptr _ _) rfl rfl rfl rfl (by first | exact Nat.zero_le _ | omega) rfl ?_
          | refine W_load (agg := false) (d := .func _ _) rfl rfl rfl rfl (by first | exact Nat.zero_le _ | omega) rfl ?_
          | refine W_load (agg := true) (d := .agg [_, _, _, _, _, _]) rfl rfl rfl rfl (by first | exact Nat.zero_le _ | omega) rfl ?_)
      | (refine I_call ?_; first
          | refine W_skip rfl ?_
          | refine W_callBT rfl rfl rfl s_small rfl rfl ?_
          | refine W_callB rfl rfl rfl (s_Right l (by omega) _ _ (.inl rfl)) rfl ?_ ?_ <;> intro _)
      | (refine I_pick ?_; first
          | refine W_pick (v := .int _ _) rfl rfl rfl rfl ?_
          | refine W_pick (v := .bool _) rfl rfl rfl rfl ?_
          | refine W_pick (v := .slice _ _ _) rfl rfl rfl rfl ?_
          | refine W_pick (v := .agg _) rfl rfl rfl rfl ?_
          | refine W_skip rfl ?_)
      | (refine I_extract ?_; first
          | refine W_extract (d := .int _ _) rfl rfl rfl rfl ?_
          | refine W_extract (d := .bool _) rfl rfl rfl rfl ?_
          | refine W_extract (d := .slice _ _ _) rfl rfl rfl rfl ?_
          | refine W_extract (d := .agg _) rfl rfl rfl rfl ?_
          | refine W_extract (d := .ptr _ _) rfl rfl rfl rfl ?_
          | refine W_extract (d := .func _ _) rfl rfl rfl rfl ?_
          | refine W_skip rfl ?_)
      | (refine I_box ?_; first
          | refine W_boxA rfl rfl rfl rfl rfl ?_
          | refine W_box1 (v := .slice _ _ _) rfl rfl rfl rfl rfl ?_
          | refine W_box1 (v := .int _ _) rfl rfl rfl rfl rfl ?_
          | refine W_box1 (v := .bool _) rfl rfl rfl rfl rfl ?_
          | refine W_box1 (v := .ptr _ _) rfl rfl rfl rfl rfl ?_
          | refine W_skip rfl ?_)
      | refine W_not rfl rfl rfl ?_
      | (refine W_eqlB rfl rfl rfl rfl ?_)
      | (refine W_neqB rfl rfl rfl rfl ?_)
      | refine W_lenM rfl rfl rfl ?_
      | refine W_lenS rfl rfl rfl ?_
      | refine W_lenR rfl rfl rfl ?_
      | refine W_faddr rfl rfl rfl ?_
      | refine W_faddrE rfl rfl rfl ?_
      | refine W_skip rfl ?_
      | refine WS_nil ?_)
    | refine WC_seq ?_
    | refine WC_opsS ?_
    | refine WC_skip ?_
    | refine WC_condT rfl ?_
    | refine WC_condF rfl ?_
    | refine WC_ret ?_)
    all_goals first
      | exact fin_bool (by simp) rfl rfl
      | (exfalso; exact h ⟨by omega, by assumption, by assumption⟩)
end Go.Led
