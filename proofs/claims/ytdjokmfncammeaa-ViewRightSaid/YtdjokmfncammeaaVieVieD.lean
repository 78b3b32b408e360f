/-
  What the ledger's functions come to: how much is booked, and how much room there is.
-/
import Derived.Test.YtdjokmfncammeaaVieVieB
set_option linter.unusedVariables false
set_option linter.unusedSimpArgs false
set_option linter.unnecessarySimpa false
namespace Go.Vie
open Go.Ev
set_option linter.unusedVariables false
set_option linter.unusedSimpArgs false
/-- One class more. -/
def stp (s n : Int) : Int := (if 4611686018427387904 - n < s then 4611686018427387904 - n else s) + n
/-- May a row be? -/
def Bk.U (b : Bk) : Prop := (0 ≤ b.u0 ∧ b.u0 ≤ 4611686018427387904) ∧ (0 ≤ b.u1 ∧ b.u1 ≤ 4611686018427387904) ∧ (0 ≤ b.u2 ∧ b.u2 ≤ 4611686018427387904)
def bkl (b : Bk) (k : Int) : Int := if k = 0 then stp (stp (stp 0 b.u0) b.u1) b.u2 else if k = 1 then stp (stp 0 b.u1) b.u2 else if k = 2 then stp 0 b.u2 else 0
theorem bkl_in {b : Bk} (h : b.U) (k : Int) : 0 ≤ bkl b k ∧ bkl b k ≤ 4611686018427387904 := by
  unfold bkl stp
  unfold Bk.U at h
  grind
theorem s_Backlog (l : List Bk) (id k : Int) (hs : Srt l) (hl : l.length < 4611686018427387904) (hu : (row l id).U) (t : Tok) (sz : Nat) (hsz : sz = 4 ∨ l = []) : EvP Γ 35 [.slice t sz (l.map Bk.e), .int .i64 id, .int .i64 k] (.int .i64 (bkl (row l id) k)) := by
  refine EvP_code rfl rfl ?_
  have hU := s_Used l id hs hl
  generalize row l id = r at *
  unfold Bk.U at hu
  by_cases hk : 0 ≤ k ∧ k < 3
  · have hk' : k = 0 ∨ k = 1 ∨ k = 2 := by omega
    rcases hk' with rfl | rfl | rfl
    all_goals
      repeat' (first
 | (refine I_WS ?_; first
 | (refine I_mov ?_; first
 | refine W_skip rfl ?_
 | refine W_mov (v := .int _ _) rfl rfl rfl ?_
 | refine W_mov (v := .bool _) rfl rfl rfl ?_
 | refine W_mov (v := .slice _ _ _) rfl rfl rfl ?_
 | refine W_mov (v := .agg _) rfl rfl rfl ?_
 | refine W_mov (v := .ptr _ _) rfl rfl rfl ?_
 | refine W_mov (v := .func _ _) rfl rfl rfl ?_
 | refine W_mov (v := .eptr _ _ _ _) rfl rfl rfl ?_
 | refine W_mov (v := .rs _ _ _ _ _) rfl rfl rfl ?_
 | refine W_mov (v := .tuple _) rfl rfl rfl ?_
 | refine W_mov (v := .map _) rfl rfl rfl ?_
 | refine W_mov (v := .str _) rfl rfl rfl ?_
 | refine W_mov (v := .nilptr) rfl rfl rfl ?_)
 | (refine I_bin ?_; first
 | refine W_skip rfl ?_
 | refine W_lssT rfl rfl rfl rfl (by omega) ?_
 | refine W_lssF rfl rfl rfl rfl (by omega) ?_
 | (refine W_lss rfl rfl rfl rfl ?_ ?_ <;> intro _)
 | refine W_add rfl rfl rfl rfl (by first | exact w64 (by omega) | rfl) ?_
 | refine W_sub rfl rfl rfl rfl (by first | exact w64 (by omega) | rfl) ?_)
 | (refine I_load ?_; first
 | refine W_skip rfl ?_
 | refine W_load (agg := false) (d := .int _ _) rfl rfl rfl (bxc rfl) (by first | exact Nat.zero_le _ | assumption | exact Nat.le_trans hlim (Nat.zero_le _) | omega) rfl ?_
 | refine W_load (agg := false) (d := .bool _) rfl rfl rfl (bxc rfl) (by first | exact Nat.zero_le _ | assumption | exact Nat.le_trans hlim (Nat.zero_le _) | omega) rfl ?_
 | refine W_load (agg := false) (d := .slice _ _ _) rfl rfl rfl (bxc rfl) (by first | exact Nat.zero_le _ | assumption | exact Nat.le_trans hlim (Nat.zero_le _) | omega) rfl ?_
 | refine W_load (agg := false) (d := .ptr _ _) rfl rfl rfl (bxc rfl) (by first | exact Nat.zero_le _ | assumption | exact Nat.le_trans hlim (Nat.zero_le _) | omega) rfl ?_
 | refine W_load (agg := false) (d := .func _ _) rfl rfl rfl (bxc rfl) (by first | exact Nat.zero_le _ | assumption | exact Nat.le_trans hlim (Nat.zero_le _) | omega) rfl ?_
 | refine W_load (agg := true) (d := .agg [_, _, _]) rfl rfl rfl (bxc rfl) (by first | exact Nat.zero_le _ | assumption | exact Nat.le_trans hlim (Nat.zero_le _) | omega) rfl ?_
 | refine W_load (agg := false) (d := .int _ _) rfl rfl rfl (bxs (by omega) (bxc rfl)) (by first | exact Nat.zero_le _ | assumption | exact Nat.le_trans hlim (Nat.zero_le _) | omega) rfl ?_
 | refine W_load (agg := false) (d := .bool _) rfl rfl rfl (bxs (by omega) (bxc rfl)) (by first | exact Nat.zero_le _ | assumption | exact Nat.le_trans hlim (Nat.zero_le _) | omega) rfl ?_
 | refine W_load (agg := false) (d := .slice _ _ _) rfl rfl rfl (bxs (by omega) (bxc rfl)) (by first | exact Nat.zero_le _ | assumption | exact Nat.le_trans hlim (Nat.zero_le _) | omega) rfl ?_
 | refine W_load (agg := false) (d := .ptr _ _) rfl rfl rfl (bxs (by omega) (bxc rfl)) (by first | exact Nat.zero_le _ | assumption | exact Nat.le_trans hlim (Nat.zero_le _) | omega) rfl ?_
 | refine W_load (agg := false) (d := .func _ _) rfl rfl rfl (bxs (by omega) (bxc rfl)) (by first | exact Nat.zero_le _ | assumption | exact Nat.le_trans hlim (Nat.zero_le _) | omega) rfl ?_
 | refine W_load (agg := true) (d := .agg [_, _, _]) rfl rfl rfl (bxs (by omega) (bxc rfl)) (by first | exact Nat.zero_le _ | assumption | exact Nat.le_trans hlim (Nat.zero_le _) | omega) rfl ?_
 | refine W_load (agg := false) (d := .int _ _) rfl rfl rfl rfl (by first | exact Nat.zero_le _ | omega) rfl ?_
 | refine W_load (agg := false) (d := .bool _) rfl rfl rfl rfl (by first | exact Nat.zero_le _ | omega) rfl ?_
 | refine W_load (agg := false) (d := .slice _ _ _) rfl rfl rfl rfl (by first | exact Nat.zero_le _ | omega) rfl ?_
 | refine W_load (agg := false) (d := .ptr _ _) rfl rfl rfl rfl (by first | exact Nat.zero_le _ | omega) rfl ?_
 | refine W_load (agg := false) (d := .func _ _) rfl rfl rfl rfl (by first | exact Nat.zero_le _ | omega) rfl ?_
 | refine W_load (agg := true) (d := .agg [_, _, _]) rfl rfl rfl rfl (by first | exact Nat.zero_le _ | omega) rfl ?_)
 | (refine I_call ?_; first
 | refine W_skip rfl ?_
 | refine W_callB rfl rfl rfl (s_class _) rfl ?_ ?_ <;> intro _
 | refine W_call rfl rfl rfl (hU _ _ hsz) rfl rfl ?_)
 | (refine I_store ?_; first
 | refine W_store (cs' := [_, _, _]) rfl rfl (upd_same _ _ _) rfl (by first | exact Nat.zero_le _ | assumption | exact Nat.le_trans hlim (Nat.zero_le _) | omega) rfl rfl rfl ?_
 | refine W_store (cs' := [_, _, _]) rfl rfl ((upd_ne _ _ (by omega)).trans (upd_same _ _ _)) rfl (by first | exact Nat.zero_le _ | assumption | exact Nat.le_trans hlim (Nat.zero_le _) | omega) rfl rfl rfl ?_
 | refine W_store (cs' := [_, _, _]) rfl rfl rfl rfl (by first | exact Nat.zero_le _ | omega) rfl rfl rfl ?_
 | refine W_skip0 rfl ?_)
 | refine W_not rfl rfl rfl ?_
 | refine W_min2 rfl rfl rfl rfl ?_
 | refine W_lenS0 rfl rfl rfl ?_
 | refine W_lenM rfl rfl rfl ?_
 | refine W_lenS rfl rfl rfl ?_
 | refine W_lenR rfl rfl rfl ?_
 | refine W_alloc rfl rfl ?_
 | refine W_skip rfl ?_
 | refine W_iaddr rfl rfl rfl rfl (by first | rfl | exact sz_of (by assumption) (by omega)) (by first | decide | (simp only [List.length_map]; omega)) ?_
 | refine W_iaddrRN rfl rfl rfl rfl rfl (by decide) ?_
 | refine W_iaddrR rfl rfl rfl rfl (by first | decide | omega) ?_
 | refine W_sliceALo rfl rfl rfl rfl (by first | exact Nat.zero_le _ | omega) rfl (Nat.le_of_ble_eq_true rfl) (Nat.le_of_ble_eq_true rfl) ?_
 | refine W_skip rfl ?_
 | refine WS_nil ?_)
 | refine WC_loop ?_
 | refine WC_seq ?_
 | refine WC_opsS ?_
 | refine WC_skip ?_
 | refine WC_condT rfl ?_
 | refine WC_condF rfl ?_
 | refine WC_block ?_
 | refine WC_exit ?_
 | refine WC_ret ?_)
      all_goals first | (exfalso; simp_all; done) | exact fin_int (by simp) rfl rfl
  · repeat' (first
 | (refine I_WS ?_; first
 | (refine I_mov ?_; first
 | refine W_skip rfl ?_
 | refine W_mov (v := .int _ _) rfl rfl rfl ?_
 | refine W_mov (v := .bool _) rfl rfl rfl ?_
 | refine W_mov (v := .slice _ _ _) rfl rfl rfl ?_
 | refine W_mov (v := .agg _) rfl rfl rfl ?_
 | refine W_mov (v := .ptr _ _) rfl rfl rfl ?_
 | refine W_mov (v := .func _ _) rfl rfl rfl ?_
 | refine W_mov (v := .eptr _ _ _ _) rfl rfl rfl ?_
 | refine W_mov (v := .rs _ _ _ _ _) rfl rfl rfl ?_
 | refine W_mov (v := .tuple _) rfl rfl rfl ?_
 | refine W_mov (v := .map _) rfl rfl rfl ?_
 | refine W_mov (v := .str _) rfl rfl rfl ?_
 | refine W_mov (v := .nilptr) rfl rfl rfl ?_)
 | (refine I_bin ?_; first
 | refine W_skip rfl ?_
 | refine W_lssT rfl rfl rfl rfl (by omega) ?_
 | refine W_lssF rfl rfl rfl rfl (by omega) ?_
 | (refine W_lss rfl rfl rfl rfl ?_ ?_ <;> intro _)
 | refine W_add rfl rfl rfl rfl (by first | exact w64 (by omega) | rfl) ?_
 | refine W_sub rfl rfl rfl rfl (by first | exact w64 (by omega) | rfl) ?_)
 | (refine I_load ?_; first
 | refine W_skip rfl ?_
 | refine W_load (agg := false) (d := .int _ _) rfl rfl rfl (bxc rfl) (by first | exact Nat.zero_le _ | assumption | exact Nat.le_trans hlim (Nat.zero_le _) | omega) rfl ?_
 | refine W_load (agg := false) (d := .bool _) rfl rfl rfl (bxc rfl) (by first | exact Nat.zero_le _ | assumption | exact Nat.le_trans hlim (Nat.zero_le _) | omega) rfl ?_
 | refine W_load (agg := false) (d := .slice _ _ _) rfl rfl rfl (bxc rfl) (by first | exact Nat.zero_le _ | assumption | exact Nat.le_trans hlim (Nat.zero_le _) | omega) rfl ?_
 | refine W_load (agg := false) (d := .ptr _ _) rfl rfl rfl (bxc rfl) (by first | exact Nat.zero_le _ | assumption | exact Nat.le_trans hlim (Nat.zero_le _) | omega) rfl ?_
 | refine W_load (agg := false) (d := .func _ _) rfl rfl rfl (bxc rfl) (by first | exact Nat.zero_le _ | assumption | exact Nat.le_trans hlim (Nat.zero_le _) | omega) rfl ?_
 | refine W_load (agg := true) (d := .agg [_, _, _]) rfl rfl rfl (bxc rfl) (by first | exact Nat.zero_le _ | assumption | exact Nat.le_trans hlim (Nat.zero_le _) | omega) rfl ?_
 | refine W_load (agg := false) (d := .int _ _) rfl rfl rfl (bxs (by omega) (bxc rfl)) (by first | exact Nat.zero_le _ | assumption | exact Nat.le_trans hlim (Nat.zero_le _) | omega) rfl ?_
 | refine W_load (agg := false) (d := .bool _) rfl rfl rfl (bxs (by omega) (bxc rfl)) (by first | exact Nat.zero_le _ | assumption | exact Nat.le_trans hlim (Nat.zero_le _) | omega) rfl ?_
 | refine W_load (agg := false) (d := .slice _ _ _) rfl rfl rfl (bxs (by omega) (bxc rfl)) (by first | exact Nat.zero_le _ | assumption | exact Nat.le_trans hlim (Nat.zero_le _) | omega) rfl ?_
 | refine W_load (agg := false) (d := .ptr _ _) rfl rfl rfl (bxs (by omega) (bxc rfl)) (by first | exact Nat.zero_le _ | assumption | exact Nat.le_trans hlim (Nat.zero_le _) | omega) rfl ?_
 | refine W_load (agg := false) (d := .func _ _) rfl rfl rfl (bxs (by omega) (bxc rfl)) (by first | exact Nat.zero_le _ | assumption | exact Nat.le_trans hlim (Nat.zero_le _) | omega) rfl ?_
 | refine W_load (agg := true) (d := .agg [_, _, _]) rfl rfl rfl (bxs (by omega) (bxc rfl)) (by first | exact Nat.zero_le _ | assumption | exact Nat.le_trans hlim (Nat.zero_le _) | omega) rfl ?_
 | refine W_load (agg := false) (d := .int _ _) rfl rfl rfl rfl (by first | exact Nat.zero_le _ | omega) rfl ?_
 | refine W_load (agg := false) (d := .bool _) rfl rfl rfl rfl (by first | exact Nat.zero_le _ | omega) rfl ?_
 | refine W_load (agg := false) (d := .slice _ _ _) rfl rfl rfl rfl (by first | exact Nat.zero_le _ | omega) rfl ?_
 | refine W_load (agg := false) (d := .ptr _ _) rfl rfl rfl rfl (by first | exact Nat.zero_le _ | omega) rfl ?_
 | refine W_load (agg := false) (d := .func _ _) rfl rfl rfl rfl (by first | exact Nat.zero_le _ | omega) rfl ?_
 | refine W_load (agg := true) (d := .agg [_, _, _]) rfl rfl rfl rfl (by first | exact Nat.zero_le _ | omega) rfl ?_)
 | (refine I_call ?_; first
 | refine W_skip rfl ?_
 | refine W_callB rfl rfl rfl (s_class _) rfl ?_ ?_ <;> intro _)
 | (refine I_store ?_; first
 | refine W_store (cs' := [_, _, _]) rfl rfl (upd_same _ _ _) rfl (by first | exact Nat.zero_le _ | assumption | exact Nat.le_trans hlim (Nat.zero_le _) | omega) rfl rfl rfl ?_
 | refine W_store (cs' := [_, _, _]) rfl rfl ((upd_ne _ _ (by omega)).trans (upd_same _ _ _)) rfl (by first | exact Nat.zero_le _ | assumption | exact Nat.le_trans hlim (Nat.zero_le _) | omega) rfl rfl rfl ?_
 | refine W_store (cs' := [_, _, _]) rfl rfl rfl rfl (by first | exact Nat.zero_le _ | omega) rfl rfl rfl ?_
 | refine W_skip0 rfl ?_)
 | refine W_not rfl rfl rfl ?_
 | refine W_min2 rfl rfl rfl rfl ?_
 | refine W_lenS0 rfl rfl rfl ?_
 | refine W_lenM rfl rfl rfl ?_
 | refine W_lenS rfl rfl rfl ?_
 | refine W_lenR rfl rfl rfl ?_
 | refine W_alloc rfl rfl ?_
 | refine W_skip rfl ?_
 | refine W_iaddr rfl rfl rfl rfl (by first | rfl | exact sz_of (by assumption) (by omega)) (by first | decide | (simp only [List.length_map]; omega)) ?_
 | refine W_iaddrRN rfl rfl rfl rfl rfl (by decide) ?_
 | refine W_iaddrR rfl rfl rfl rfl (by first | decide | omega) ?_
 | refine W_sliceALo rfl rfl rfl rfl (by first | exact Nat.zero_le _ | omega) rfl (Nat.le_of_ble_eq_true rfl) (Nat.le_of_ble_eq_true rfl) ?_
 | refine W_skip rfl ?_
 | refine WS_nil ?_)
 | refine WC_seq ?_
 | refine WC_opsS ?_
 | refine WC_skip ?_
 | refine WC_condT rfl ?_
 | refine WC_condF rfl ?_
 | refine WC_block ?_
 | refine WC_exit ?_
 | refine WC_ret ?_)
    · rename_i hc
      exact absurd (of_decide_eq_true hc) hk
    · refine fin_int (by simp) rfl ?_
      unfold bkl
      rw [if_neg (by omega), if_neg (by omega), if_neg (by omega)]
/-- How much room there is. -/
def room (l : List Bk) (id fr to st en ra k : Int) : Int := if 0 ≤ k ∧ k < 3 then (if 0 > volC id fr to st en ra - bkl (row l id) k then 0 else volC id fr to st en ra - bkl (row l id) k) else 0
theorem s_Room (l : List Bk) (id fr to st en ra k : Int) (hb : -9223372036854775808 ≤ en ∧ en ≤ 9223372036854775807) (hs : Srt l) (hl : l.length < 4611686018427387904) (hu : (row l id).U) (t : Tok) (sz : Nat) (hsz : sz = 4 ∨ l = []) :
    EvP Γ 37 [.slice t sz (l.map Bk.e), .agg [.int .i64 id, .int .i64 fr, .int .i64 to, .int .i64 st, .int .i64 en, .int .i64 ra], .int .i64 k] (.int .i64 (room l id fr to st en ra k)) := by
  refine EvP_code rfl rfl ?_
  have hB := fun t sz hsz => s_Backlog l id k hs hl hu t sz hsz
  have hV := volC_in id fr to st en ra
  have hR := bkl_in hu k
  repeat' (first
 | (refine I_WS ?_; first
 | (refine I_mov ?_; first
 | refine W_skip rfl ?_
 | refine W_mov (v := .int _ _) rfl rfl rfl ?_
 | refine W_mov (v := .bool _) rfl rfl rfl ?_
 | refine W_mov (v := .slice _ _ _) rfl rfl rfl ?_
 | refine W_mov (v := .agg _) rfl rfl rfl ?_
 | refine W_mov (v := .ptr _ _) rfl rfl rfl ?_
 | refine W_mov (v := .func _ _) rfl rfl rfl ?_
 | refine W_mov (v := .eptr _ _ _ _) rfl rfl rfl ?_
 | refine W_mov (v := .rs _ _ _ _ _) rfl rfl rfl ?_
 | refine W_mov (v := .tuple _) rfl rfl rfl ?_
 | refine W_mov (v := .map _) rfl rfl rfl ?_
 | refine W_mov (v := .str _) rfl rfl rfl ?_
 | refine W_mov (v := .nilptr) rfl rfl rfl ?_)
 | (refine I_bin ?_; first
 | refine W_skip rfl ?_
 | refine W_sub rfl rfl rfl rfl (by first | exact w64 (by omega) | rfl) ?_)
 | (refine I_load ?_; first
 | refine W_skip rfl ?_
 | refine W_load (agg := false) (d := .int _ _) rfl rfl rfl rfl (by first | exact Nat.zero_le _ | omega) rfl ?_
 | refine W_load (agg := false) (d := .bool _) rfl rfl rfl rfl (by first | exact Nat.zero_le _ | omega) rfl ?_
 | refine W_load (agg := false) (d := .slice _ _ _) rfl rfl rfl rfl (by first | exact Nat.zero_le _ | omega) rfl ?_
 | refine W_load (agg := false) (d := .ptr _ _) rfl rfl rfl rfl (by first | exact Nat.zero_le _ | omega) rfl ?_
 | refine W_load (agg := false) (d := .func _ _) rfl rfl rfl rfl (by first | exact Nat.zero_le _ | omega) rfl ?_
 | refine W_load (agg := true) (d := .agg [_, _, _, _, _, _]) rfl rfl rfl rfl (by first | exact Nat.zero_le _ | omega) rfl ?_)
 | (refine I_call ?_; first
 | refine W_skip rfl ?_
 | refine W_callB rfl rfl rfl (s_class _) rfl ?_ ?_ <;> intro _
 | refine W_call rfl rfl rfl (hB _ _ hsz) rfl rfl ?_
 | refine W_call rfl rfl rfl (s_check_Volume _ _ _ _ _ _ hb) rfl rfl ?_)
 | (refine I_box ?_; first
 | refine W_boxA rfl rfl rfl rfl rfl ?_
 | refine W_box1 (v := .slice _ _ _) rfl rfl rfl rfl rfl ?_
 | refine W_box1 (v := .int _ _) rfl rfl rfl rfl rfl ?_
 | refine W_box1 (v := .bool _) rfl rfl rfl rfl rfl ?_
 | refine W_box1 (v := .ptr _ _) rfl rfl rfl rfl rfl ?_
 | refine W_skip rfl ?_)
 | refine W_not rfl rfl rfl ?_
 | refine W_max2 rfl rfl rfl rfl ?_
 | refine W_faddr rfl rfl rfl ?_
 | refine W_faddrE rfl rfl rfl ?_
 | refine W_faddrM rfl rfl ?_
 | refine W_skip rfl ?_
 | refine WS_nil ?_)
 | refine WC_seq ?_
 | refine WC_opsS ?_
 | refine WC_drawS ?_
 | refine WC_skip ?_
 | refine WC_condT rfl ?_
 | refine WC_condF rfl ?_
 | refine WC_ret ?_
 | refine okF_intro rfl ?_)
  · rename_i h
    simp only [decide_eq_true_eq] at h
    refine fin_int (by simp) rfl ?_
    unfold room
    rw [if_pos h]
  · rename_i h
    simp only [decide_eq_false_iff_not] at h
    refine fin_int (by simp) rfl ?_
    unfold room
    rw [if_neg h]
end Go.Vie
