/-
  ViewBare, as the evaluator runs it: the whole.
-/
import Derived.Test.YtdjokmfncammeaaVieVieR
set_option linter.unusedVariables false
set_option linter.unusedSimpArgs false
set_option linter.unnecessarySimpa false
namespace Go.Vie
open Go.Ev
set_option linter.unusedVariables false
set_option linter.unusedSimpArgs false
set_option maxHeartbeats 4000000 in
theorem run_Bare (p : Pl) (hc : ∀ c ∈ p.cs, In64 c.en) (hr : ∀ r ∈ p.rs, In64 r.en) (k : Int) : EvP Γ 5 [p.e, .int .i64 k] (.bool true) := by
  refine EvP_code rfl rfl ?_
  have hFew := s_Few p
  by_cases hf : (p.cs.length ≤ 50 ∧ p.rs.length ≤ 50) ∧ (0 ≤ k ∧ k < 3)
  · obtain ⟨hf, hk⟩ := hf
    have hp : p.Sm := ⟨by omega, by omega, hc, hr⟩
    obtain ⟨_, ⟨b, rfl, hb⟩, hR⟩ := s_pRight p hp
    rw [decide_eq_true hf] at hFew
    cases b with
    | false =>
      repeat' (first
    | (refine I_WS ?_; first
      | (refine I_mov ?_; first
          | refine W_skip rfl ?_
          | refine W_mov (v := .int _ _) rfl rfl rfl ?_
          | refine W_mov (v := .bool _) rfl rfl rfl ?_
          | refine W_mov (v := .slice _ _ _) rfl rfl rfl ?_
          | refine W_mov (v := .agg _) rfl rfl rfl ?_
          | refine W_mov (v := .ptr _ _) rfl rfl rfl ?_
          | refine W_mov (v := .func _ _) rfl rfl rfl ?_
          | refine W_mov (v := .eptr _ _ _ _) rfl rfl rfl ?_
          | refine W_mov (v := .rs _ _ _ _ _) rfl rfl rfl ?_
          | refine W_mov (v := .tuple _) rfl rfl rfl ?_
          | refine W_mov (v := .map _) rfl rfl rfl ?_
          | refine W_mov (v := .str _) rfl rfl rfl ?_
          | refine W_mov (v := .nilptr) rfl rfl rfl ?_)
      | (refine I_bin ?_; first
          | refine W_skip rfl ?_
          | refine W_lssT rfl rfl rfl rfl (by omega) ?_
          | refine W_lssF rfl rfl rfl rfl (by omega) ?_
          | (refine W_lss rfl rfl rfl rfl ?_ ?_ <;> intro _)
          | refine W_gtrT rfl rfl rfl rfl (by omega) ?_
          | refine W_gtrF rfl rfl rfl rfl (by omega) ?_
          | (refine W_gtr rfl rfl rfl rfl ?_ ?_ <;> intro _)
          | refine W_neqT rfl rfl rfl rfl (by omega) ?_
          | refine W_neqF rfl rfl rfl rfl (by omega) ?_
          | (refine W_neq rfl rfl rfl rfl ?_ ?_ <;> intro _)
          | refine W_add rfl rfl rfl rfl (by first | exact w64 (by omega) | rfl) ?_)
      | (refine I_load ?_; first
          | refine W_skip rfl ?_
          | refine W_load (agg := false) (d := .int _ _) rfl rfl rfl (bxc rfl) (by first | exact Nat.zero_le _ | assumption | exact Nat.le_trans hlim (Nat.zero_le _) | omega) rfl ?_
          | refine W_load (agg := false) (d := .bool _) rfl rfl rfl (bxc rfl) (by first | exact Nat.zero_le _ | assumption | exact Nat.le_trans hlim (Nat.zero_le _) | omega) rfl ?_
          | refine W_load (agg := false) (d := .slice _ _ _) rfl rfl rfl (bxc rfl) (by first | exact Nat.zero_le _ | assumption | exact Nat.le_trans hlim (Nat.zero_le _) | omega) rfl ?_
          | refine W_load (agg := false) (d := .ptr _ _) rfl rfl rfl (bxc rfl) (by first | exact Nat.zero_le _ | assumption | exact Nat.le_trans hlim (Nat.zero_le _) | omega) rfl ?_
          | refine W_load (agg := false) (d := .func _ _) rfl rfl rfl (bxc rfl) (by first | exact Nat.zero_le _ | assumption | exact Nat.le_trans hlim (Nat.zero_le _) | omega) rfl ?_
          | refine W_load (agg := true) (d := .agg [_, _, _, _]) rfl rfl rfl (bxc rfl) (by first | exact Nat.zero_le _ | assumption | exact Nat.le_trans hlim (Nat.zero_le _) | omega) rfl ?_
          | refine W_load (agg := true) (d := .agg [_, _, _, _, _, _]) rfl rfl rfl (bxc rfl) (by first | exact Nat.zero_le _ | assumption | exact Nat.le_trans hlim (Nat.zero_le _) | omega) rfl ?_
          | refine W_load (agg := true) (d := .agg [_, _, _, _, _, _, _, _]) rfl rfl rfl (bxc rfl) (by first | exact Nat.zero_le _ | assumption | exact Nat.le_trans hlim (Nat.zero_le _) | omega) rfl ?_
          | refine W_load (agg := false) (d := .int _ _) rfl rfl rfl (bxs (by omega) (bxc rfl)) (by first | exact Nat.zero_le _ | assumption | exact Nat.le_trans hlim (Nat.zero_le _) | omega) rfl ?_
          | refine W_load (agg := false) (d := .bool _) rfl rfl rfl (bxs (by omega) (bxc rfl)) (by first | exact Nat.zero_le _ | assumption | exact Nat.le_trans hlim (Nat.zero_le _) | omega) rfl ?_
          | refine W_load (agg := false) (d := .slice _ _ _) rfl rfl rfl (bxs (by omega) (bxc rfl)) (by first | exact Nat.zero_le _ | assumption | exact Nat.le_trans hlim (Nat.zero_le _) | omega) rfl ?_
          | refine W_load (agg := false) (d := .ptr _ _) rfl rfl rfl (bxs (by omega) (bxc rfl)) (by first | exact Nat.zero_le _ | assumption | exact Nat.le_trans hlim (Nat.zero_le _) | omega) rfl ?_
          | refine W_load (agg := false) (d := .func _ _) rfl rfl rfl (bxs (by omega) (bxc rfl)) (by first | exact Nat.zero_le _ | assumption | exact Nat.le_trans hlim (Nat.zero_le _) | omega) rfl ?_
          | refine W_load (agg := true) (d := .agg [_, _, _, _]) rfl rfl rfl (bxs (by omega) (bxc rfl)) (by first | exact Nat.zero_le _ | assumption | exact Nat.le_trans hlim (Nat.zero_le _) | omega) rfl ?_
          | refine W_load (agg := true) (d := .agg [_, _, _, _, _, _]) rfl rfl rfl (bxs (by omega) (bxc rfl)) (by first | exact Nat.zero_le _ | assumption | exact Nat.le_trans hlim (Nat.zero_le _) | omega) rfl ?_
          | refine W_load (agg := true) (d := .agg [_, _, _, _, _, _, _, _]) rfl rfl rfl (bxs (by omega) (bxc rfl)) (by first | exact Nat.zero_le _ | assumption | exact Nat.le_trans hlim (Nat.zero_le _) | omega) rfl ?_
          | refine W_load (agg := false) (d := .int _ _) rfl rfl rfl rfl (by first | exact Nat.zero_le _ | omega) rfl ?_
          | refine W_load (agg := false) (d := .bool _) rfl rfl rfl rfl (by first | exact Nat.zero_le _ | omega) rfl ?_
          | refine W_load (agg := false) (d := .slice _ _ _) rfl rfl rfl rfl (by first | exact Nat.zero_le _ | omega) rfl ?_
          | refine W_load (agg := false) (d := .ptr _ _) rfl rfl rfl rfl (by first | exact Nat.zero_le _ | omega) rfl ?_
          | refine W_load (agg := false) (d := .func _ _) rfl rfl rfl rfl (by first | exact Nat.zero_le _ | omega) rfl ?_
          | refine W_load (agg := true) (d := .agg [_, _, _, _]) rfl rfl rfl rfl (by first | exact Nat.zero_le _ | omega) rfl ?_
          | refine W_load (agg := true) (d := .agg [_, _, _, _, _, _]) rfl rfl rfl rfl (by first | exact Nat.zero_le _ | omega) rfl ?_
          | refine W_load (agg := true) (d := .agg [_, _, _, _, _, _, _, _]) rfl rfl rfl rfl (by first | exact Nat.zero_le _ | omega) rfl ?_)
      | (refine I_call ?_; first
          | refine W_skip rfl ?_
          | refine W_call rfl rfl rfl s_small rfl rfl ?_
          | refine W_call rfl rfl rfl hFew rfl rfl ?_
          | refine W_call rfl rfl rfl hR rfl rfl ?_)
      | (refine I_pick ?_; first
          | refine W_pick (v := .int _ _) rfl rfl rfl rfl ?_
          | refine W_pick (v := .bool _) rfl rfl rfl rfl ?_
          | refine W_pick (v := .slice _ _ _) rfl rfl rfl rfl ?_
          | refine W_pick (v := .agg _) rfl rfl rfl rfl ?_
          | refine W_skip rfl ?_)
      | (refine I_extract ?_; first
          | refine W_extract (d := .int _ _) rfl rfl rfl rfl ?_
          | refine W_extract (d := .bool _) rfl rfl rfl rfl ?_
          | refine W_extract (d := .slice _ _ _) rfl rfl rfl rfl ?_
          | refine W_extract (d := .agg _) rfl rfl rfl rfl ?_
          | refine W_extract (d := .ptr _ _) rfl rfl rfl rfl ?_
          | refine W_extract (d := .func _ _) rfl rfl rfl rfl ?_
          | refine W_skip rfl ?_)
      | (refine I_box ?_; first
          | refine W_boxA rfl rfl rfl rfl rfl ?_
          | refine W_box1 (v := .slice _ _ _) rfl rfl rfl rfl rfl ?_
          | refine W_box1 (v := .int _ _) rfl rfl rfl rfl rfl ?_
          | refine W_box1 (v := .bool _) rfl rfl rfl rfl rfl ?_
          | refine W_box1 (v := .ptr _ _) rfl rfl rfl rfl rfl ?_
          | refine W_skip rfl ?_)
      | (refine I_store ?_; first
          | refine W_store (cs' := [_, _, _, _]) rfl rfl (upd_same _ _ _) rfl (by first | exact Nat.zero_le _ | assumption | exact Nat.le_trans hlim (Nat.zero_le _) | omega) rfl rfl rfl ?_
          | refine W_store (cs' := [_, _, _, _]) rfl rfl ((upd_ne _ _ (by omega)).trans (upd_same _ _ _)) rfl (by first | exact Nat.zero_le _ | assumption | exact Nat.le_trans hlim (Nat.zero_le _) | omega) rfl rfl rfl ?_
          | refine W_store (cs' := [_, _, _, _, _, _]) rfl rfl (upd_same _ _ _) rfl (by first | exact Nat.zero_le _ | assumption | exact Nat.le_trans hlim (Nat.zero_le _) | omega) rfl rfl rfl ?_
          | refine W_store (cs' := [_, _, _, _, _, _]) rfl rfl ((upd_ne _ _ (by omega)).trans (upd_same _ _ _)) rfl (by first | exact Nat.zero_le _ | assumption | exact Nat.le_trans hlim (Nat.zero_le _) | omega) rfl rfl rfl ?_
          | refine W_store (cs' := [_, _, _, _, _, _, _, _]) rfl rfl (upd_same _ _ _) rfl (by first | exact Nat.zero_le _ | assumption | exact Nat.le_trans hlim (Nat.zero_le _) | omega) rfl rfl rfl ?_
          | refine W_store (cs' := [_, _, _, _, _, _, _, _]) rfl rfl ((upd_ne _ _ (by omega)).trans (upd_same _ _ _)) rfl (by first | exact Nat.zero_le _ | assumption | exact Nat.le_trans hlim (Nat.zero_le _) | omega) rfl rfl rfl ?_
          | refine W_store (cs' := [_, _, _, _]) rfl rfl rfl rfl (by first | exact Nat.zero_le _ | omega) rfl rfl rfl ?_
          | refine W_store (cs' := [_, _, _, _, _, _]) rfl rfl rfl rfl (by first | exact Nat.zero_le _ | omega) rfl rfl rfl ?_
          | refine W_store (cs' := [_, _, _, _, _, _, _, _]) rfl rfl rfl rfl (by first | exact Nat.zero_le _ | omega) rfl rfl rfl ?_
          | refine W_skip0 rfl ?_)
      | refine W_not rfl rfl rfl ?_
      | (refine W_eqlP rfl rfl rfl rfl rfl rfl (eqAt3 _ _ _ _ _ _) ?_ ?_ <;> intro hq)
      | (refine W_eqlP rfl rfl rfl rfl rfl rfl (eqAt4 _ _ _ _ _ _ _ _) ?_ ?_ <;> intro hq)
      | (refine W_neqP rfl rfl rfl rfl rfl rfl (eqAt3 _ _ _ _ _ _) ?_ ?_ <;> intro hq)
      | (refine W_neqP rfl rfl rfl rfl rfl rfl (eqAt4 _ _ _ _ _ _ _ _) ?_ ?_ <;> intro hq)
      | (refine W_eqlP rfl rfl rfl rfl rfl rfl rfl ?_ ?_ <;> intro _)
      | (refine W_neqP rfl rfl rfl rfl rfl rfl rfl ?_ ?_ <;> intro _)
      | refine W_lenS0 rfl rfl rfl ?_
      | refine W_lenM rfl rfl rfl ?_
      | refine W_lenS rfl rfl rfl ?_
      | refine W_lenR rfl rfl rfl ?_
      | refine W_faddr rfl rfl rfl ?_
      | refine W_faddrE rfl rfl rfl ?_
      | refine W_faddrM rfl rfl ?_
      | refine W_alloc rfl rfl ?_
      | refine W_skip rfl ?_
      | refine W_iaddr rfl rfl rfl rfl (by first | rfl | exact sz_of (by assumption) (by omega)) (by first | decide | (simp only [List.length_map]; omega)) ?_
      | refine W_iaddrRN rfl rfl rfl rfl rfl (by decide) ?_
      | refine W_iaddrR rfl rfl rfl rfl (by first | decide | omega) ?_
      | (refine W_sliceLoN rfl rfl (by first | exact .inl rfl | assumption) rfl (by first | omega | (simp; omega)) rfl ?_ <;> intro _)
      | (refine W_sliceHiN rfl rfl (by first | exact .inl rfl | assumption) rfl (by first | omega | (simp; omega)) rfl ?_ <;> intro _)
      | (refine W_sliceLo rfl rfl (by first | exact .inl rfl | assumption) rfl (by first | omega | (simp; omega)) rfl ?_ <;> intro _)
      | (refine W_sliceHi rfl rfl (by first | exact .inl rfl | assumption) rfl (by first | omega | (simp; omega)) rfl ?_ <;> intro _)
      | refine W_skip rfl ?_
      | refine WS_nil ?_)
    | refine WC_seq ?_
    | refine WC_opsS ?_
    | refine WC_drawS ?_
    | refine WC_skip ?_
    | refine WC_condT rfl ?_
    | refine WC_condF rfl ?_
    | refine WC_block ?_
    | refine WC_exit ?_
    | refine WC_ret ?_
    | refine okF_intro rfl ?_)
      exact fin_bool (.inr rfl) rfl rfl
    | true =>
      have hd := (hb rfl).2
      have hB := s_Bare p hp hd
      have hA := s_All p hp hd [] led_nil k .isnil 0 (.inr rfl)
      rw [allE_nil p hk (k' := 0) (by omega)] at hA
      have hle := allE_le p [] 0
      have hS := fun t t' sz sz' h h' => s_Same (allE p [] 0) (by omega) t t' sz sz' h h'
      have hL := l_Bare p hp hd k hk (allE p [] 0) rfl
      generalize allE p [] 0 = es at *
      repeat' (first
    | (refine I_WS ?_; first
      | (refine I_mov ?_; first
          | refine W_skip rfl ?_
          | refine W_mov (v := .int _ _) rfl rfl rfl ?_
          | refine W_mov (v := .bool _) rfl rfl rfl ?_
          | refine W_mov (v := .slice _ _ _) rfl rfl rfl ?_
          | refine W_mov (v := .agg _) rfl rfl rfl ?_
          | refine W_mov (v := .ptr _ _) rfl rfl rfl ?_
          | refine W_mov (v := .func _ _) rfl rfl rfl ?_
          | refine W_mov (v := .eptr _ _ _ _) rfl rfl rfl ?_
          | refine W_mov (v := .rs _ _ _ _ _) rfl rfl rfl ?_
          | refine W_mov (v := .tuple _) rfl rfl rfl ?_
          | refine W_mov (v := .map _) rfl rfl rfl ?_
          | refine W_mov (v := .str _) rfl rfl rfl ?_
          | refine W_mov (v := .nilptr) rfl rfl rfl ?_)
      | (refine I_bin ?_; first
          | refine W_skip rfl ?_
          | refine W_lssT rfl rfl rfl rfl (by omega) ?_
          | refine W_lssF rfl rfl rfl rfl (by omega) ?_
          | (refine W_lss rfl rfl rfl rfl ?_ ?_ <;> intro _)
          | refine W_gtrT rfl rfl rfl rfl (by omega) ?_
          | refine W_gtrF rfl rfl rfl rfl (by omega) ?_
          | (refine W_gtr rfl rfl rfl rfl ?_ ?_ <;> intro _)
          | refine W_neqT rfl rfl rfl rfl (by omega) ?_
          | refine W_neqF rfl rfl rfl rfl (by omega) ?_
          | (refine W_neq rfl rfl rfl rfl ?_ ?_ <;> intro _)
          | refine W_add rfl rfl rfl rfl (by first | exact w64 (by omega) | rfl) ?_)
      | (refine I_load ?_; first
          | refine W_skip rfl ?_
          | refine W_load (agg := false) (d := .int _ _) rfl rfl rfl (bxc rfl) (by first | exact Nat.zero_le _ | assumption | exact Nat.le_trans hlim (Nat.zero_le _) | omega) rfl ?_
          | refine W_load (agg := false) (d := .bool _) rfl rfl rfl (bxc rfl) (by first | exact Nat.zero_le _ | assumption | exact Nat.le_trans hlim (Nat.zero_le _) | omega) rfl ?_
          | refine W_load (agg := false) (d := .slice _ _ _) rfl rfl rfl (bxc rfl) (by first | exact Nat.zero_le _ | assumption | exact Nat.le_trans hlim (Nat.zero_le _) | omega) rfl ?_
          | refine W_load (agg := false) (d := .ptr _ _) rfl rfl rfl (bxc rfl) (by first | exact Nat.zero_le _ | assumption | exact Nat.le_trans hlim (Nat.zero_le _) | omega) rfl ?_
          | refine W_load (agg := false) (d := .func _ _) rfl rfl rfl (bxc rfl) (by first | exact Nat.zero_le _ | assumption | exact Nat.le_trans hlim (Nat.zero_le _) | omega) rfl ?_
          | refine W_load (agg := true) (d := .agg [_, _, _, _]) rfl rfl rfl (bxc rfl) (by first | exact Nat.zero_le _ | assumption | exact Nat.le_trans hlim (Nat.zero_le _) | omega) rfl ?_
          | refine W_load (agg := true) (d := .agg [_, _, _, _, _, _]) rfl rfl rfl (bxc rfl) (by first | exact Nat.zero_le _ | assumption | exact Nat.le_trans hlim (Nat.zero_le _) | omega) rfl ?_
          | refine W_load (agg := true) (d := .agg [_, _, _, _, _, _, _, _]) rfl rfl rfl (bxc rfl) (by first | exact Nat.zero_le _ | assumption | exact Nat.le_trans hlim (Nat.zero_le _) | omega) rfl ?_
          | refine W_load (agg := false) (d := .int _ _) rfl rfl rfl (bxs (by omega) (bxc rfl)) (by first | exact Nat.zero_le _ | assumption | exact Nat.le_trans hlim (Nat.zero_le _) | omega) rfl ?_
          | refine W_load (agg := false) (d := .bool _) rfl rfl rfl (bxs (by omega) (bxc rfl)) (by first | exact Nat.zero_le _ | assumption | exact Nat.le_trans hlim (Nat.zero_le _) | omega) rfl ?_
          | refine W_load (agg := false) (d := .slice _ _ _) rfl rfl rfl (bxs (by omega) (bxc rfl)) (by first | exact Nat.zero_le _ | assumption | exact Nat.le_trans hlim (Nat.zero_le _) | omega) rfl ?_
          | refine W_load (agg := false) (d := .ptr _ _) rfl rfl rfl (bxs (by omega) (bxc rfl)) (by first | exact Nat.zero_le _ | assumption | exact Nat.le_trans hlim (Nat.zero_le _) | omega) rfl ?_
          | refine W_load (agg := false) (d := .func _ _) rfl rfl rfl (bxs (by omega) (bxc rfl)) (by first | exact Nat.zero_le _ | assumption | exact Nat.le_trans hlim (Nat.zero_le _) | omega) rfl ?_
          | refine W_load (agg := true) (d := .agg [_, _, _, _]) rfl rfl rfl (bxs (by omega) (bxc rfl)) (by first | exact Nat.zero_le _ | assumption | exact Nat.le_trans hlim (Nat.zero_le _) | omega) rfl ?_
          | refine W_load (agg := true) (d := .agg [_, _, _, _, _, _]) rfl rfl rfl (bxs (by omega) (bxc rfl)) (by first | exact Nat.zero_le _ | assumption | exact Nat.le_trans hlim (Nat.zero_le _) | omega) rfl ?_
          | refine W_load (agg := true) (d := .agg [_, _, _, _, _, _, _, _]) rfl rfl rfl (bxs (by omega) (bxc rfl)) (by first | exact Nat.zero_le _ | assumption | exact Nat.le_trans hlim (Nat.zero_le _) | omega) rfl ?_
          | refine W_load (agg := false) (d := .int _ _) rfl rfl rfl rfl (by first | exact Nat.zero_le _ | omega) rfl ?_
          | refine W_load (agg := false) (d := .bool _) rfl rfl rfl rfl (by first | exact Nat.zero_le _ | omega) rfl ?_
          | refine W_load (agg := false) (d := .slice _ _ _) rfl rfl rfl rfl (by first | exact Nat.zero_le _ | omega) rfl ?_
          | refine W_load (agg := false) (d := .ptr _ _) rfl rfl rfl rfl (by first | exact Nat.zero_le _ | omega) rfl ?_
          | refine W_load (agg := false) (d := .func _ _) rfl rfl rfl rfl (by first | exact Nat.zero_le _ | omega) rfl ?_
          | refine W_load (agg := true) (d := .agg [_, _, _, _]) rfl rfl rfl rfl (by first | exact Nat.zero_le _ | omega) rfl ?_
          | refine W_load (agg := true) (d := .agg [_, _, _, _, _, _]) rfl rfl rfl rfl (by first | exact Nat.zero_le _ | omega) rfl ?_
          | refine W_load (agg := true) (d := .agg [_, _, _, _, _, _, _, _]) rfl rfl rfl rfl (by first | exact Nat.zero_le _ | omega) rfl ?_)
      | (refine I_call ?_; first
          | refine W_skip rfl ?_
          | refine W_call rfl rfl rfl s_small rfl rfl ?_
          | refine W_call rfl rfl rfl hFew rfl rfl ?_
          | refine W_call rfl rfl rfl hR rfl rfl ?_
          | (refine W_callN rfl rfl rfl hB rfl ?_ <;> intro t7 s7 s1 d1))
      | (refine I_pick ?_; first
          | refine W_pick (v := .int _ _) rfl rfl rfl rfl ?_
          | refine W_pick (v := .bool _) rfl rfl rfl rfl ?_
          | refine W_pick (v := .slice _ _ _) rfl rfl rfl rfl ?_
          | refine W_pick (v := .agg _) rfl rfl rfl rfl ?_
          | refine W_skip rfl ?_)
      | (refine I_extract ?_; first
          | refine W_extract (d := .int _ _) rfl rfl rfl rfl ?_
          | refine W_extract (d := .bool _) rfl rfl rfl rfl ?_
          | refine W_extract (d := .slice _ _ _) rfl rfl rfl rfl ?_
          | refine W_extract (d := .agg _) rfl rfl rfl rfl ?_
          | refine W_extract (d := .ptr _ _) rfl rfl rfl rfl ?_
          | refine W_extract (d := .func _ _) rfl rfl rfl rfl ?_
          | refine W_skip rfl ?_)
      | (refine I_box ?_; first
          | refine W_boxA rfl rfl rfl rfl rfl ?_
          | refine W_box1 (v := .slice _ _ _) rfl rfl rfl rfl rfl ?_
          | refine W_box1 (v := .int _ _) rfl rfl rfl rfl rfl ?_
          | refine W_box1 (v := .bool _) rfl rfl rfl rfl rfl ?_
          | refine W_box1 (v := .ptr _ _) rfl rfl rfl rfl rfl ?_
          | refine W_skip rfl ?_)
      | (refine I_store ?_; first
          | refine W_store (cs' := [_, _, _, _]) rfl rfl (upd_same _ _ _) rfl (by first | exact Nat.zero_le _ | assumption | exact Nat.le_trans hlim (Nat.zero_le _) | omega) rfl rfl rfl ?_
          | refine W_store (cs' := [_, _, _, _]) rfl rfl ((upd_ne _ _ (by omega)).trans (upd_same _ _ _)) rfl (by first | exact Nat.zero_le _ | assumption | exact Nat.le_trans hlim (Nat.zero_le _) | omega) rfl rfl rfl ?_
          | refine W_store (cs' := [_, _, _, _, _, _]) rfl rfl (upd_same _ _ _) rfl (by first | exact Nat.zero_le _ | assumption | exact Nat.le_trans hlim (Nat.zero_le _) | omega) rfl rfl rfl ?_
          | refine W_store (cs' := [_, _, _, _, _, _]) rfl rfl ((upd_ne _ _ (by omega)).trans (upd_same _ _ _)) rfl (by first | exact Nat.zero_le _ | assumption | exact Nat.le_trans hlim (Nat.zero_le _) | omega) rfl rfl rfl ?_
          | refine W_store (cs' := [_, _, _, _, _, _, _, _]) rfl rfl (upd_same _ _ _) rfl (by first | exact Nat.zero_le _ | assumption | exact Nat.le_trans hlim (Nat.zero_le _) | omega) rfl rfl rfl ?_
          | refine W_store (cs' := [_, _, _, _, _, _, _, _]) rfl rfl ((upd_ne _ _ (by omega)).trans (upd_same _ _ _)) rfl (by first | exact Nat.zero_le _ | assumption | exact Nat.le_trans hlim (Nat.zero_le _) | omega) rfl rfl rfl ?_
          | refine W_store (cs' := [_, _, _, _]) rfl rfl rfl rfl (by first | exact Nat.zero_le _ | omega) rfl rfl rfl ?_
          | refine W_store (cs' := [_, _, _, _, _, _]) rfl rfl rfl rfl (by first | exact Nat.zero_le _ | omega) rfl rfl rfl ?_
          | refine W_store (cs' := [_, _, _, _, _, _, _, _]) rfl rfl rfl rfl (by first | exact Nat.zero_le _ | omega) rfl rfl rfl ?_
          | refine W_skip0 rfl ?_)
      | refine W_not rfl rfl rfl ?_
      | (refine W_eqlP rfl rfl rfl rfl rfl rfl (eqAt3 _ _ _ _ _ _) ?_ ?_ <;> intro hq)
      | (refine W_eqlP rfl rfl rfl rfl rfl rfl (eqAt4 _ _ _ _ _ _ _ _) ?_ ?_ <;> intro hq)
      | (refine W_neqP rfl rfl rfl rfl rfl rfl (eqAt3 _ _ _ _ _ _) ?_ ?_ <;> intro hq)
      | (refine W_neqP rfl rfl rfl rfl rfl rfl (eqAt4 _ _ _ _ _ _ _ _) ?_ ?_ <;> intro hq)
      | (refine W_eqlP rfl rfl rfl rfl rfl rfl rfl ?_ ?_ <;> intro _)
      | (refine W_neqP rfl rfl rfl rfl rfl rfl rfl ?_ ?_ <;> intro _)
      | refine W_lenS0 rfl rfl rfl ?_
      | refine W_lenM rfl rfl rfl ?_
      | refine W_lenS rfl rfl rfl ?_
      | refine W_lenR rfl rfl rfl ?_
      | refine W_faddr rfl rfl rfl ?_
      | refine W_faddrE rfl rfl rfl ?_
      | refine W_faddrM rfl rfl ?_
      | refine W_alloc rfl rfl ?_
      | refine W_skip rfl ?_
      | refine W_iaddr rfl rfl rfl rfl (by first | rfl | exact sz_of (by assumption) (by omega)) (by first | decide | (simp only [List.length_map]; omega)) ?_
      | refine W_iaddrRN rfl rfl rfl rfl rfl (by decide) ?_
      | refine W_iaddrR rfl rfl rfl rfl (by first | decide | omega) ?_
      | (refine W_sliceLoN rfl rfl (by first | exact .inl rfl | assumption) rfl (by first | omega | (simp; omega)) rfl ?_ <;> intro _)
      | (refine W_sliceHiN rfl rfl (by first | exact .inl rfl | assumption) rfl (by first | omega | (simp; omega)) rfl ?_ <;> intro _)
      | (refine W_sliceLo rfl rfl (by first | exact .inl rfl | assumption) rfl (by first | omega | (simp; omega)) rfl ?_ <;> intro _)
      | (refine W_sliceHi rfl rfl (by first | exact .inl rfl | assumption) rfl (by first | omega | (simp; omega)) rfl ?_ <;> intro _)
      | refine W_skip rfl ?_
      | refine WS_nil ?_)
    | refine WC_seq ?_
    | refine WC_opsS ?_
    | refine WC_drawS ?_
    | refine WC_skip ?_
    | refine WC_condT rfl ?_
    | refine WC_condF rfl ?_
    | refine WC_block ?_
    | refine WC_exit ?_
    | refine WC_ret ?_
    | refine okF_intro rfl ?_)
      refine hL t7 s7 s1 es [] rfl _ _ ?_ ?_ ?_ ?_ ?_ ?_ ?_ ?_ _ (fun ρ' st' hlim hnx hb0 h1 h2 h5 h7 => ?_)
      · exact Nat.le_refl _
      · exact Nat.succ_pos _
      · rfl
      · rfl
      · rfl
      · rfl
      · rfl
      · rfl
      have hbb0 : (st'.boxes 0).bind Box.cs = some p.e.cells := by rw [hb0]; rfl
      rw [← upd_self h1, ← upd_self h2, ← upd_self h5, ← upd_self h7]
      repeat' (first
    | (refine I_WS ?_; first
      | (refine I_mov ?_; first
          | refine W_skip rfl ?_
          | refine W_mov (v := .int _ _) rfl rfl rfl ?_
          | refine W_mov (v := .bool _) rfl rfl rfl ?_
          | refine W_mov (v := .slice _ _ _) rfl rfl rfl ?_
          | refine W_mov (v := .agg _) rfl rfl rfl ?_
          | refine W_mov (v := .ptr _ _) rfl rfl rfl ?_
          | refine W_mov (v := .func _ _) rfl rfl rfl ?_
          | refine W_mov (v := .eptr _ _ _ _) rfl rfl rfl ?_
          | refine W_mov (v := .rs _ _ _ _ _) rfl rfl rfl ?_
          | refine W_mov (v := .tuple _) rfl rfl rfl ?_
          | refine W_mov (v := .map _) rfl rfl rfl ?_
          | refine W_mov (v := .str _) rfl rfl rfl ?_
          | refine W_mov (v := .nilptr) rfl rfl rfl ?_)
      | (refine I_bin ?_; first
          | refine W_skip rfl ?_
          | refine W_lssT rfl rfl rfl rfl (by omega) ?_
          | refine W_lssF rfl rfl rfl rfl (by omega) ?_
          | (refine W_lss rfl rfl rfl rfl ?_ ?_ <;> intro _)
          | refine W_gtrT rfl rfl rfl rfl (by omega) ?_
          | refine W_gtrF rfl rfl rfl rfl (by omega) ?_
          | (refine W_gtr rfl rfl rfl rfl ?_ ?_ <;> intro _)
          | refine W_neqT rfl rfl rfl rfl (by omega) ?_
          | refine W_neqF rfl rfl rfl rfl (by omega) ?_
          | (refine W_neq rfl rfl rfl rfl ?_ ?_ <;> intro _)
          | refine W_add rfl rfl rfl rfl (by first | exact w64 (by omega) | rfl) ?_)
      | (refine I_load ?_; first
          | refine W_skip rfl ?_
          | refine W_load (agg := true) (d := .agg [_, _, _, _]) rfl rfl rfl hbb0 hlim rfl ?_
          | refine W_load (agg := false) (d := .int _ _) rfl rfl rfl (bxc rfl) (by first | exact Nat.zero_le _ | assumption | exact Nat.le_trans hlim (Nat.zero_le _) | omega) rfl ?_
          | refine W_load (agg := false) (d := .bool _) rfl rfl rfl (bxc rfl) (by first | exact Nat.zero_le _ | assumption | exact Nat.le_trans hlim (Nat.zero_le _) | omega) rfl ?_
          | refine W_load (agg := false) (d := .slice _ _ _) rfl rfl rfl (bxc rfl) (by first | exact Nat.zero_le _ | assumption | exact Nat.le_trans hlim (Nat.zero_le _) | omega) rfl ?_
          | refine W_load (agg := false) (d := .ptr _ _) rfl rfl rfl (bxc rfl) (by first | exact Nat.zero_le _ | assumption | exact Nat.le_trans hlim (Nat.zero_le _) | omega) rfl ?_
          | refine W_load (agg := false) (d := .func _ _) rfl rfl rfl (bxc rfl) (by first | exact Nat.zero_le _ | assumption | exact Nat.le_trans hlim (Nat.zero_le _) | omega) rfl ?_
          | refine W_load (agg := true) (d := .agg [_, _, _, _]) rfl rfl rfl (bxc rfl) (by first | exact Nat.zero_le _ | assumption | exact Nat.le_trans hlim (Nat.zero_le _) | omega) rfl ?_
          | refine W_load (agg := true) (d := .agg [_, _, _, _, _, _]) rfl rfl rfl (bxc rfl) (by first | exact Nat.zero_le _ | assumption | exact Nat.le_trans hlim (Nat.zero_le _) | omega) rfl ?_
          | refine W_load (agg := true) (d := .agg [_, _, _, _, _, _, _, _]) rfl rfl rfl (bxc rfl) (by first | exact Nat.zero_le _ | assumption | exact Nat.le_trans hlim (Nat.zero_le _) | omega) rfl ?_
          | refine W_load (agg := false) (d := .int _ _) rfl rfl rfl (bxs (by omega) (bxc rfl)) (by first | exact Nat.zero_le _ | assumption | exact Nat.le_trans hlim (Nat.zero_le _) | omega) rfl ?_
          | refine W_load (agg := false) (d := .bool _) rfl rfl rfl (bxs (by omega) (bxc rfl)) (by first | exact Nat.zero_le _ | assumption | exact Nat.le_trans hlim (Nat.zero_le _) | omega) rfl ?_
          | refine W_load (agg := false) (d := .slice _ _ _) rfl rfl rfl (bxs (by omega) (bxc rfl)) (by first | exact Nat.zero_le _ | assumption | exact Nat.le_trans hlim (Nat.zero_le _) | omega) rfl ?_
          | refine W_load (agg := false) (d := .ptr _ _) rfl rfl rfl (bxs (by omega) (bxc rfl)) (by first | exact Nat.zero_le _ | assumption | exact Nat.le_trans hlim (Nat.zero_le _) | omega) rfl ?_
          | refine W_load (agg := false) (d := .func _ _) rfl rfl rfl (bxs (by omega) (bxc rfl)) (by first | exact Nat.zero_le _ | assumption | exact Nat.le_trans hlim (Nat.zero_le _) | omega) rfl ?_
          | refine W_load (agg := true) (d := .agg [_, _, _, _]) rfl rfl rfl (bxs (by omega) (bxc rfl)) (by first | exact Nat.zero_le _ | assumption | exact Nat.le_trans hlim (Nat.zero_le _) | omega) rfl ?_
          | refine W_load (agg := true) (d := .agg [_, _, _, _, _, _]) rfl rfl rfl (bxs (by omega) (bxc rfl)) (by first | exact Nat.zero_le _ | assumption | exact Nat.le_trans hlim (Nat.zero_le _) | omega) rfl ?_
          | refine W_load (agg := true) (d := .agg [_, _, _, _, _, _, _, _]) rfl rfl rfl (bxs (by omega) (bxc rfl)) (by first | exact Nat.zero_le _ | assumption | exact Nat.le_trans hlim (Nat.zero_le _) | omega) rfl ?_
          | refine W_load (agg := false) (d := .int _ _) rfl rfl rfl rfl (by first | exact Nat.zero_le _ | omega) rfl ?_
          | refine W_load (agg := false) (d := .bool _) rfl rfl rfl rfl (by first | exact Nat.zero_le _ | omega) rfl ?_
          | refine W_load (agg := false) (d := .slice _ _ _) rfl rfl rfl rfl (by first | exact Nat.zero_le _ | omega) rfl ?_
          | refine W_load (agg := false) (d := .ptr _ _) rfl rfl rfl rfl (by first | exact Nat.zero_le _ | omega) rfl ?_
          | refine W_load (agg := false) (d := .func _ _) rfl rfl rfl rfl (by first | exact Nat.zero_le _ | omega) rfl ?_
          | refine W_load (agg := true) (d := .agg [_, _, _, _]) rfl rfl rfl rfl (by first | exact Nat.zero_le _ | omega) rfl ?_
          | refine W_load (agg := true) (d := .agg [_, _, _, _, _, _]) rfl rfl rfl rfl (by first | exact Nat.zero_le _ | omega) rfl ?_
          | refine W_load (agg := true) (d := .agg [_, _, _, _, _, _, _, _]) rfl rfl rfl rfl (by first | exact Nat.zero_le _ | omega) rfl ?_)
      | (refine I_call ?_; first
          | refine W_skip rfl ?_
          | (refine W_callN rfl rfl rfl hA rfl ?_ <;> intro ta sa s2 d2)
          | refine W_call rfl rfl rfl (hS _ _ _ _ s2 s1) rfl rfl ?_)
      | (refine I_pick ?_; first
          | refine W_pick (v := .int _ _) rfl rfl rfl rfl ?_
          | refine W_pick (v := .bool _) rfl rfl rfl rfl ?_
          | refine W_pick (v := .slice _ _ _) rfl rfl rfl rfl ?_
          | refine W_pick (v := .agg _) rfl rfl rfl rfl ?_
          | refine W_skip rfl ?_)
      | (refine I_extract ?_; first
          | refine W_extract (d := .int _ _) rfl rfl rfl rfl ?_
          | refine W_extract (d := .bool _) rfl rfl rfl rfl ?_
          | refine W_extract (d := .slice _ _ _) rfl rfl rfl rfl ?_
          | refine W_extract (d := .agg _) rfl rfl rfl rfl ?_
          | refine W_extract (d := .ptr _ _) rfl rfl rfl rfl ?_
          | refine W_extract (d := .func _ _) rfl rfl rfl rfl ?_
          | refine W_skip rfl ?_)
      | (refine I_box ?_; first
          | refine W_boxA rfl rfl rfl rfl rfl ?_
          | refine W_box1 (v := .slice _ _ _) rfl rfl rfl rfl rfl ?_
          | refine W_box1 (v := .int _ _) rfl rfl rfl rfl rfl ?_
          | refine W_box1 (v := .bool _) rfl rfl rfl rfl rfl ?_
          | refine W_box1 (v := .ptr _ _) rfl rfl rfl rfl rfl ?_
          | refine W_skip rfl ?_)
      | (refine I_store ?_; first
          | refine W_store (cs' := [_, _, _, _]) rfl rfl (upd_same _ _ _) rfl (by first | exact Nat.zero_le _ | assumption | exact Nat.le_trans hlim (Nat.zero_le _) | omega) rfl rfl rfl ?_
          | refine W_store (cs' := [_, _, _, _]) rfl rfl ((upd_ne _ _ (by omega)).trans (upd_same _ _ _)) rfl (by first | exact Nat.zero_le _ | assumption | exact Nat.le_trans hlim (Nat.zero_le _) | omega) rfl rfl rfl ?_
          | refine W_store (cs' := [_, _, _, _, _, _]) rfl rfl (upd_same _ _ _) rfl (by first | exact Nat.zero_le _ | assumption | exact Nat.le_trans hlim (Nat.zero_le _) | omega) rfl rfl rfl ?_
          | refine W_store (cs' := [_, _, _, _, _, _]) rfl rfl ((upd_ne _ _ (by omega)).trans (upd_same _ _ _)) rfl (by first | exact Nat.zero_le _ | assumption | exact Nat.le_trans hlim (Nat.zero_le _) | omega) rfl rfl rfl ?_
          | refine W_store (cs' := [_, _, _, _, _, _, _, _]) rfl rfl (upd_same _ _ _) rfl (by first | exact Nat.zero_le _ | assumption | exact Nat.le_trans hlim (Nat.zero_le _) | omega) rfl rfl rfl ?_
          | refine W_store (cs' := [_, _, _, _, _, _, _, _]) rfl rfl ((upd_ne _ _ (by omega)).trans (upd_same _ _ _)) rfl (by first | exact Nat.zero_le _ | assumption | exact Nat.le_trans hlim (Nat.zero_le _) | omega) rfl rfl rfl ?_
          | refine W_store (cs' := [_, _, _, _]) rfl rfl rfl rfl (by first | exact Nat.zero_le _ | omega) rfl rfl rfl ?_
          | refine W_store (cs' := [_, _, _, _, _, _]) rfl rfl rfl rfl (by first | exact Nat.zero_le _ | omega) rfl rfl rfl ?_
          | refine W_store (cs' := [_, _, _, _, _, _, _, _]) rfl rfl rfl rfl (by first | exact Nat.zero_le _ | omega) rfl rfl rfl ?_
          | refine W_skip0 rfl ?_)
      | refine W_not rfl rfl rfl ?_
      | (refine W_eqlP rfl rfl rfl rfl rfl rfl (eqAt3 _ _ _ _ _ _) ?_ ?_ <;> intro hq)
      | (refine W_eqlP rfl rfl rfl rfl rfl rfl (eqAt4 _ _ _ _ _ _ _ _) ?_ ?_ <;> intro hq)
      | (refine W_neqP rfl rfl rfl rfl rfl rfl (eqAt3 _ _ _ _ _ _) ?_ ?_ <;> intro hq)
      | (refine W_neqP rfl rfl rfl rfl rfl rfl (eqAt4 _ _ _ _ _ _ _ _) ?_ ?_ <;> intro hq)
      | (refine W_eqlP rfl rfl rfl rfl rfl rfl rfl ?_ ?_ <;> intro _)
      | (refine W_neqP rfl rfl rfl rfl rfl rfl rfl ?_ ?_ <;> intro _)
      | refine W_lenS0 rfl rfl rfl ?_
      | refine W_lenM rfl rfl rfl ?_
      | refine W_lenS rfl rfl rfl ?_
      | refine W_lenR rfl rfl rfl ?_
      | refine W_faddr rfl rfl rfl ?_
      | refine W_faddrE rfl rfl rfl ?_
      | refine W_faddrM rfl rfl ?_
      | refine W_alloc rfl rfl ?_
      | refine W_skip rfl ?_
      | refine W_iaddr rfl rfl rfl rfl (by first | rfl | exact sz_of (by assumption) (by omega)) (by first | decide | (simp only [List.length_map]; omega)) ?_
      | refine W_iaddrRN rfl rfl rfl rfl rfl (by decide) ?_
      | refine W_iaddrR rfl rfl rfl rfl (by first | decide | omega) ?_
      | (refine W_sliceLoN rfl rfl (by first | exact .inl rfl | assumption) rfl (by first | omega | (simp; omega)) rfl ?_ <;> intro _)
      | (refine W_sliceHiN rfl rfl (by first | exact .inl rfl | assumption) rfl (by first | omega | (simp; omega)) rfl ?_ <;> intro _)
      | (refine W_sliceLo rfl rfl (by first | exact .inl rfl | assumption) rfl (by first | omega | (simp; omega)) rfl ?_ <;> intro _)
      | (refine W_sliceHi rfl rfl (by first | exact .inl rfl | assumption) rfl (by first | omega | (simp; omega)) rfl ?_ <;> intro _)
      | refine W_skip rfl ?_
      | refine WS_nil ?_)
    | refine WC_seq ?_
    | refine WC_opsS ?_
    | refine WC_drawS ?_
    | refine WC_skip ?_
    | refine WC_condT rfl ?_
    | refine WC_condF rfl ?_
    | refine WC_block ?_
    | refine WC_exit ?_
    | refine WC_ret ?_
    | refine okF_intro rfl ?_)
      exact fin_bool (.inr rfl) rfl rfl
  · by_cases hf' : p.cs.length ≤ 50 ∧ p.rs.length ≤ 50
    · rw [decide_eq_true hf'] at hFew
      repeat' (first
    | (refine I_WS ?_; first
      | (refine I_mov ?_; first
          | refine W_skip rfl ?_
          | refine W_mov (v := .int _ _) rfl rfl rfl ?_
          | refine W_mov (v := .bool _) rfl rfl rfl ?_
          | refine W_mov (v := .slice _ _ _) rfl rfl rfl ?_
          | refine W_mov (v := .agg _) rfl rfl rfl ?_
          | refine W_mov (v := .ptr _ _) rfl rfl rfl ?_
          | refine W_mov (v := .func _ _) rfl rfl rfl ?_
          | refine W_mov (v := .eptr _ _ _ _) rfl rfl rfl ?_
          | refine W_mov (v := .rs _ _ _ _ _) rfl rfl rfl ?_
          | refine W_mov (v := .tuple _) rfl rfl rfl ?_
          | refine W_mov (v := .map _) rfl rfl rfl ?_
          | refine W_mov (v := .str _) rfl rfl rfl ?_
          | refine W_mov (v := .nilptr) rfl rfl rfl ?_)
      | (refine I_bin ?_; first
          | refine W_skip rfl ?_
          | refine W_lssT rfl rfl rfl rfl (by omega) ?_
          | refine W_lssF rfl rfl rfl rfl (by omega) ?_
          | (refine W_lss rfl rfl rfl rfl ?_ ?_ <;> intro _)
          | refine W_gtrT rfl rfl rfl rfl (by omega) ?_
          | refine W_gtrF rfl rfl rfl rfl (by omega) ?_
          | (refine W_gtr rfl rfl rfl rfl ?_ ?_ <;> intro _)
          | refine W_neqT rfl rfl rfl rfl (by omega) ?_
          | refine W_neqF rfl rfl rfl rfl (by omega) ?_
          | (refine W_neq rfl rfl rfl rfl ?_ ?_ <;> intro _)
          | refine W_add rfl rfl rfl rfl (by first | exact w64 (by omega) | rfl) ?_)
      | (refine I_load ?_; first
          | refine W_skip rfl ?_
          | refine W_load (agg := false) (d := .int _ _) rfl rfl rfl (bxc rfl) (by first | exact Nat.zero_le _ | assumption | exact Nat.le_trans hlim (Nat.zero_le _) | omega) rfl ?_
          | refine W_load (agg := false) (d := .bool _) rfl rfl rfl (bxc rfl) (by first | exact Nat.zero_le _ | assumption | exact Nat.le_trans hlim (Nat.zero_le _) | omega) rfl ?_
          | refine W_load (agg := false) (d := .slice _ _ _) rfl rfl rfl (bxc rfl) (by first | exact Nat.zero_le _ | assumption | exact Nat.le_trans hlim (Nat.zero_le _) | omega) rfl ?_
          | refine W_load (agg := false) (d := .ptr _ _) rfl rfl rfl (bxc rfl) (by first | exact Nat.zero_le _ | assumption | exact Nat.le_trans hlim (Nat.zero_le _) | omega) rfl ?_
          | refine W_load (agg := false) (d := .func _ _) rfl rfl rfl (bxc rfl) (by first | exact Nat.zero_le _ | assumption | exact Nat.le_trans hlim (Nat.zero_le _) | omega) rfl ?_
          | refine W_load (agg := true) (d := .agg [_, _, _, _]) rfl rfl rfl (bxc rfl) (by first | exact Nat.zero_le _ | assumption | exact Nat.le_trans hlim (Nat.zero_le _) | omega) rfl ?_
          | refine W_load (agg := true) (d := .agg [_, _, _, _, _, _]) rfl rfl rfl (bxc rfl) (by first | exact Nat.zero_le _ | assumption | exact Nat.le_trans hlim (Nat.zero_le _) | omega) rfl ?_
          | refine W_load (agg := true) (d := .agg [_, _, _, _, _, _, _, _]) rfl rfl rfl (bxc rfl) (by first | exact Nat.zero_le _ | assumption | exact Nat.le_trans hlim (Nat.zero_le _) | omega) rfl ?_
          | refine W_load (agg := false) (d := .int _ _) rfl rfl rfl (bxs (by omega) (bxc rfl)) (by first | exact Nat.zero_le _ | assumption | exact Nat.le_trans hlim (Nat.zero_le _) | omega) rfl ?_
          | refine W_load (agg := false) (d := .bool _) rfl rfl rfl (bxs (by omega) (bxc rfl)) (by first | exact Nat.zero_le _ | assumption | exact Nat.le_trans hlim (Nat.zero_le _) | omega) rfl ?_
          | refine W_load (agg := false) (d := .slice _ _ _) rfl rfl rfl (bxs (by omega) (bxc rfl)) (by first | exact Nat.zero_le _ | assumption | exact Nat.le_trans hlim (Nat.zero_le _) | omega) rfl ?_
          | refine W_load (agg := false) (d := .ptr _ _) rfl rfl rfl (bxs (by omega) (bxc rfl)) (by first | exact Nat.zero_le _ | assumption | exact Nat.le_trans hlim (Nat.zero_le _) | omega) rfl ?_
          | refine W_load (agg := false) (d := .func _ _) rfl rfl rfl (bxs (by omega) (bxc rfl)) (by first | exact Nat.zero_le _ | assumption | exact Nat.le_trans hlim (Nat.zero_le _) | omega) rfl ?_
          | refine W_load (agg := true) (d := .agg [_, _, _, _]) rfl rfl rfl (bxs (by omega) (bxc rfl)) (by first | exact Nat.zero_le _ | assumption | exact Nat.le_trans hlim (Nat.zero_le _) | omega) rfl ?_
          | refine W_load (agg := true) (d := .agg [_, _, _, _, _, _]) rfl rfl rfl (bxs (by omega) (bxc rfl)) (by first | exact Nat.zero_le _ | assumption | exact Nat.le_trans hlim (Nat.zero_le _) | omega) rfl ?_
          | refine W_load (agg := true) (d := .agg [_, _, _, _, _, _, _, _]) rfl rfl rfl (bxs (by omega) (bxc rfl)) (by first | exact Nat.zero_le _ | assumption | exact Nat.le_trans hlim (Nat.zero_le _) | omega) rfl ?_
          | refine W_load (agg := false) (d := .int _ _) rfl rfl rfl rfl (by first | exact Nat.zero_le _ | omega) rfl ?_
          | refine W_load (agg := false) (d := .bool _) rfl rfl rfl rfl (by first | exact Nat.zero_le _ | omega) rfl ?_
          | refine W_load (agg := false) (d := .slice _ _ _) rfl rfl rfl rfl (by first | exact Nat.zero_le _ | omega) rfl ?_
          | refine W_load (agg := false) (d := .ptr _ _) rfl rfl rfl rfl (by first | exact Nat.zero_le _ | omega) rfl ?_
          | refine W_load (agg := false) (d := .func _ _) rfl rfl rfl rfl (by first | exact Nat.zero_le _ | omega) rfl ?_
          | refine W_load (agg := true) (d := .agg [_, _, _, _]) rfl rfl rfl rfl (by first | exact Nat.zero_le _ | omega) rfl ?_
          | refine W_load (agg := true) (d := .agg [_, _, _, _, _, _]) rfl rfl rfl rfl (by first | exact Nat.zero_le _ | omega) rfl ?_
          | refine W_load (agg := true) (d := .agg [_, _, _, _, _, _, _, _]) rfl rfl rfl rfl (by first | exact Nat.zero_le _ | omega) rfl ?_)
      | (refine I_call ?_; first
          | refine W_skip rfl ?_
          | refine W_call rfl rfl rfl s_small rfl rfl ?_
          | refine W_call rfl rfl rfl hFew rfl rfl ?_)
      | (refine I_pick ?_; first
          | refine W_pick (v := .int _ _) rfl rfl rfl rfl ?_
          | refine W_pick (v := .bool _) rfl rfl rfl rfl ?_
          | refine W_pick (v := .slice _ _ _) rfl rfl rfl rfl ?_
          | refine W_pick (v := .agg _) rfl rfl rfl rfl ?_
          | refine W_skip rfl ?_)
      | (refine I_extract ?_; first
          | refine W_extract (d := .int _ _) rfl rfl rfl rfl ?_
          | refine W_extract (d := .bool _) rfl rfl rfl rfl ?_
          | refine W_extract (d := .slice _ _ _) rfl rfl rfl rfl ?_
          | refine W_extract (d := .agg _) rfl rfl rfl rfl ?_
          | refine W_extract (d := .ptr _ _) rfl rfl rfl rfl ?_
          | refine W_extract (d := .func _ _) rfl rfl rfl rfl ?_
          | refine W_skip rfl ?_)
      | (refine I_box ?_; first
          | refine W_boxA rfl rfl rfl rfl rfl ?_
          | refine W_box1 (v := .slice _ _ _) rfl rfl rfl rfl rfl ?_
          | refine W_box1 (v := .int _ _) rfl rfl rfl rfl rfl ?_
          | refine W_box1 (v := .bool _) rfl rfl rfl rfl rfl ?_
          | refine W_box1 (v := .ptr _ _) rfl rfl rfl rfl rfl ?_
          | refine W_skip rfl ?_)
      | (refine I_store ?_; first
          | refine W_store (cs' := [_, _, _, _]) rfl rfl (upd_same _ _ _) rfl (by first | exact Nat.zero_le _ | assumption | exact Nat.le_trans hlim (Nat.zero_le _) | omega) rfl rfl rfl ?_
          | refine W_store (cs' := [_, _, _, _]) rfl rfl ((upd_ne _ _ (by omega)).trans (upd_same _ _ _)) rfl (by first | exact Nat.zero_le _ | assumption | exact Nat.le_trans hlim (Nat.zero_le _) | omega) rfl rfl rfl ?_
          | refine W_store (cs' := [_, _, _, _, _, _]) rfl rfl (upd_same _ _ _) rfl (by first | exact Nat.zero_le _ | assumption | exact Nat.le_trans hlim (Nat.zero_le _) | omega) rfl rfl rfl ?_
          | refine W_store (cs' := [_, _, _, _, _, _]) rfl rfl ((upd_ne _ _ (by omega)).trans (upd_same _ _ _)) rfl (by first | exact Nat.zero_le _ | assumption | exact Nat.le_trans hlim (Nat.zero_le _) | omega) rfl rfl rfl ?_
          | refine W_store (cs' := [_, _, _, _, _, _, _, _]) rfl rfl (upd_same _ _ _) rfl (by first | exact Nat.zero_le _ | assumption | exact Nat.le_trans hlim (Nat.zero_le _) | omega) rfl rfl rfl ?_
          | refine W_store (cs' := [_, _, _, _, _, _, _, _]) rfl rfl ((upd_ne _ _ (by omega)).trans (upd_same _ _ _)) rfl (by first | exact Nat.zero_le _ | assumption | exact Nat.le_trans hlim (Nat.zero_le _) | omega) rfl rfl rfl ?_
          | refine W_store (cs' := [_, _, _, _]) rfl rfl rfl rfl (by first | exact Nat.zero_le _ | omega) rfl rfl rfl ?_
          | refine W_store (cs' := [_, _, _, _, _, _]) rfl rfl rfl rfl (by first | exact Nat.zero_le _ | omega) rfl rfl rfl ?_
          | refine W_store (cs' := [_, _, _, _, _, _, _, _]) rfl rfl rfl rfl (by first | exact Nat.zero_le _ | omega) rfl rfl rfl ?_
          | refine W_skip0 rfl ?_)
      | refine W_not rfl rfl rfl ?_
      | (refine W_eqlP rfl rfl rfl rfl rfl rfl (eqAt3 _ _ _ _ _ _) ?_ ?_ <;> intro hq)
      | (refine W_eqlP rfl rfl rfl rfl rfl rfl (eqAt4 _ _ _ _ _ _ _ _) ?_ ?_ <;> intro hq)
      | (refine W_neqP rfl rfl rfl rfl rfl rfl (eqAt3 _ _ _ _ _ _) ?_ ?_ <;> intro hq)
      | (refine W_neqP rfl rfl rfl rfl rfl rfl (eqAt4 _ _ _ _ _ _ _ _) ?_ ?_ <;> intro hq)
      | (refine W_eqlP rfl rfl rfl rfl rfl rfl rfl ?_ ?_ <;> intro _)
      | (refine W_neqP rfl rfl rfl rfl rfl rfl rfl ?_ ?_ <;> intro _)
      | refine W_lenS0 rfl rfl rfl ?_
      | refine W_lenM rfl rfl rfl ?_
      | refine W_lenS rfl rfl rfl ?_
      | refine W_lenR rfl rfl rfl ?_
      | refine W_faddr rfl rfl rfl ?_
      | refine W_faddrE rfl rfl rfl ?_
      | refine W_faddrM rfl rfl ?_
      | refine W_alloc rfl rfl ?_
      | refine W_skip rfl ?_
      | refine W_iaddr rfl rfl rfl rfl (by first | rfl | exact sz_of (by assumption) (by omega)) (by first | decide | (simp only [List.length_map]; omega)) ?_
      | refine W_iaddrRN rfl rfl rfl rfl rfl (by decide) ?_
      | refine W_iaddrR rfl rfl rfl rfl (by first | decide | omega) ?_
      | (refine W_sliceLoN rfl rfl (by first | exact .inl rfl | assumption) rfl (by first | omega | (simp; omega)) rfl ?_ <;> intro _)
      | (refine W_sliceHiN rfl rfl (by first | exact .inl rfl | assumption) rfl (by first | omega | (simp; omega)) rfl ?_ <;> intro _)
      | (refine W_sliceLo rfl rfl (by first | exact .inl rfl | assumption) rfl (by first | omega | (simp; omega)) rfl ?_ <;> intro _)
      | (refine W_sliceHi rfl rfl (by first | exact .inl rfl | assumption) rfl (by first | omega | (simp; omega)) rfl ?_ <;> intro _)
      | refine W_skip rfl ?_
      | refine WS_nil ?_)
    | refine WC_seq ?_
    | refine WC_opsS ?_
    | refine WC_drawS ?_
    | refine WC_skip ?_
    | refine WC_condT rfl ?_
    | refine WC_condF rfl ?_
    | refine WC_block ?_
    | refine WC_exit ?_
    | refine WC_ret ?_
    | refine okF_intro rfl ?_)
      all_goals first | exact fin_bool (.inr rfl) rfl rfl | (exfalso; omega)
    · rw [decide_eq_false hf'] at hFew
      repeat' (first
    | (refine I_WS ?_; first
      | (refine I_mov ?_; first
          | refine W_skip rfl ?_
          | refine W_mov (v := .int _ _) rfl rfl rfl ?_
          | refine W_mov (v := .bool _) rfl rfl rfl ?_
          | refine W_mov (v := .slice _ _ _) rfl rfl rfl ?_
          | refine W_mov (v := .agg _) rfl rfl rfl ?_
          | refine W_mov (v := .ptr _ _) rfl rfl rfl ?_
          | refine W_mov (v := .func _ _) rfl rfl rfl ?_
          | refine W_mov (v := .eptr _ _ _ _) rfl rfl rfl ?_
          | refine W_mov (v := .rs _ _ _ _ _) rfl rfl rfl ?_
          | refine W_mov (v := .tuple _) rfl rfl rfl ?_
          | refine W_mov (v := .map _) rfl rfl rfl ?_
          | refine W_mov (v := .str _) rfl rfl rfl ?_
          | refine W_mov (v := .nilptr) rfl rfl rfl ?_)
      | (refine I_bin ?_; first
          | refine W_skip rfl ?_
          | refine W_lssT rfl rfl rfl rfl (by omega) ?_
          | refine W_lssF rfl rfl rfl rfl (by omega) ?_
          | (refine W_lss rfl rfl rfl rfl ?_ ?_ <;> intro _)
          | refine W_gtrT rfl rfl rfl rfl (by omega) ?_
          | refine W_gtrF rfl rfl rfl rfl (by omega) ?_
          | (refine W_gtr rfl rfl rfl rfl ?_ ?_ <;> intro _)
          | refine W_neqT rfl rfl rfl rfl (by omega) ?_
          | refine W_neqF rfl rfl rfl rfl (by omega) ?_
          | (refine W_neq rfl rfl rfl rfl ?_ ?_ <;> intro _)
          | refine W_add rfl rfl rfl rfl (by first | exact w64 (by omega) | rfl) ?_)
      | (refine I_load ?_; first
          | refine W_skip rfl ?_
          | refine W_load (agg := false) (d := .int _ _) rfl rfl rfl (bxc rfl) (by first | exact Nat.zero_le _ | assumption | exact Nat.le_trans hlim (Nat.zero_le _) | omega) rfl ?_
          | refine W_load (agg := false) (d := .bool _) rfl rfl rfl (bxc rfl) (by first | exact Nat.zero_le _ | assumption | exact Nat.le_trans hlim (Nat.zero_le _) | omega) rfl ?_
          | refine W_load (agg := false) (d := .slice _ _ _) rfl rfl rfl (bxc rfl) (by first | exact Nat.zero_le _ | assumption | exact Nat.le_trans hlim (Nat.zero_le _) | omega) rfl ?_
          | refine W_load (agg := false) (d := .ptr _ _) rfl rfl rfl (bxc rfl) (by first | exact Nat.zero_le _ | assumption | exact Nat.le_trans hlim (Nat.zero_le _) | omega) rfl ?_
          | refine W_load (agg := false) (d := .func _ _) rfl rfl rfl (bxc rfl) (by first | exact Nat.zero_le _ | assumption | exact Nat.le_trans hlim (Nat.zero_le _) | omega) rfl ?_
          | refine W_load (agg := true) (d := .agg [_, _, _, _]) rfl rfl rfl (bxc rfl) (by first | exact Nat.zero_le _ | assumption | exact Nat.le_trans hlim (Nat.zero_le _) | omega) rfl ?_
          | refine W_load (agg := true) (d := .agg [_, _, _, _, _, _]) rfl rfl rfl (bxc rfl) (by first | exact Nat.zero_le _ | assumption | exact Nat.le_trans hlim (Nat.zero_le _) | omega) rfl ?_
          | refine W_load (agg := true) (d := .agg [_, _, _, _, _, _, _, _]) rfl rfl rfl (bxc rfl) (by first | exact Nat.zero_le _ | assumption | exact Nat.le_trans hlim (Nat.zero_le _) | omega) rfl ?_
          | refine W_load (agg := false) (d := .int _ _) rfl rfl rfl (bxs (by omega) (bxc rfl)) (by first | exact Nat.zero_le _ | assumption | exact Nat.le_trans hlim (Nat.zero_le _) | omega) rfl ?_
          | refine W_load (agg := false) (d := .bool _) rfl rfl rfl (bxs (by omega) (bxc rfl)) (by first | exact Nat.zero_le _ | assumption | exact Nat.le_trans hlim (Nat.zero_le _) | omega) rfl ?_
          | refine W_load (agg := false) (d := .slice _ _ _) rfl rfl rfl (bxs (by omega) (bxc rfl)) (by first | exact Nat.zero_le _ | assumption | exact Nat.le_trans hlim (Nat.zero_le _) | omega) rfl ?_
          | refine W_load (agg := false) (d := .ptr _ _) rfl rfl rfl (bxs (by omega) (bxc rfl)) (by first | exact Nat.zero_le _ | assumption | exact Nat.le_trans hlim (Nat.zero_le _) | omega) rfl ?_
          | refine W_load (agg := false) (d := .func _ _) rfl rfl rfl (bxs (by omega) (bxc rfl)) (by first | exact Nat.zero_le _ | assumption | exact Nat.le_trans hlim (Nat.zero_le _) | omega) rfl ?_
          | refine W_load (agg := true) (d := .agg [_, _, _, _]) rfl rfl rfl (bxs (by omega) (bxc rfl)) (by first | exact Nat.zero_le _ | assumption | exact Nat.le_trans hlim (Nat.zero_le _) | omega) rfl ?_
          | refine W_load (agg := true) (d := .agg [_, _, _, _, _, _]) rfl rfl rfl (bxs (by omega) (bxc rfl)) (by first | exact Nat.zero_le _ | assumption | exact Nat.le_trans hlim (Nat.zero_le _) | omega) rfl ?_
          | refine W_load (agg := true) (d := .agg [_, _, _, _, _, _, _, _]) rfl rfl rfl (bxs (by omega) (bxc rfl)) (by first | exact Nat.zero_le _ | assumption | exact Nat.le_trans hlim (Nat.zero_le _) | omega) rfl ?_
          | refine W_load (agg := false) (d := .int _ _) rfl rfl rfl rfl (by first | exact Nat.zero_le _ | omega) rfl ?_
          | refine W_load (agg := false) (d := .bool _) rfl rfl rfl rfl (by first | exact Nat.zero_le _ | omega) rfl ?_
          | refine W_load (agg := false) (d := .slice _ _ _) rfl rfl rfl rfl (by first | exact Nat.zero_le _ | omega) rfl ?_
          | refine W_load (agg := false) (d := .ptr _ _) rfl rfl rfl rfl (by first | exact Nat.zero_le _ | omega) rfl ?_
          | refine W_load (agg := false) (d := .func _ _) rfl rfl rfl rfl (by first | exact Nat.zero_le _ | omega) rfl ?_
          | refine W_load (agg := true) (d := .agg [_, _, _, _]) rfl rfl rfl rfl (by first | exact Nat.zero_le _ | omega) rfl ?_
          | refine W_load (agg := true) (d := .agg [_, _, _, _, _, _]) rfl rfl rfl rfl (by first | exact Nat.zero_le _ | omega) rfl ?_
          | refine W_load (agg := true) (d := .agg [_, _, _, _, _, _, _, _]) rfl rfl rfl rfl (by first | exact Nat.zero_le _ | omega) rfl ?_)
      | (refine I_call ?_; first
          | refine W_skip rfl ?_
          | refine W_call rfl rfl rfl s_small rfl rfl ?_
          | refine W_call rfl rfl rfl hFew rfl rfl ?_)
      | (refine I_pick ?_; first
          | refine W_pick (v := .int _ _) rfl rfl rfl rfl ?_
          | refine W_pick (v := .bool _) rfl rfl rfl rfl ?_
          | refine W_pick (v := .slice _ _ _) rfl rfl rfl rfl ?_
          | refine W_pick (v := .agg _) rfl rfl rfl rfl ?_
          | refine W_skip rfl ?_)
      | (refine I_extract ?_; first
          | refine W_extract (d := .int _ _) rfl rfl rfl rfl ?_
          | refine W_extract (d := .bool _) rfl rfl rfl rfl ?_
          | refine W_extract (d := .slice _ _ _) rfl rfl rfl rfl ?_
          | refine W_extract (d := .agg _) rfl rfl rfl rfl ?_
          | refine W_extract (d := .ptr _ _) rfl rfl rfl rfl ?_
          | refine W_extract (d := .func _ _) rfl rfl rfl rfl ?_
          | refine W_skip rfl ?_)
      | (refine I_box ?_; first
          | refine W_boxA rfl rfl rfl rfl rfl ?_
          | refine W_box1 (v := .slice _ _ _) rfl rfl rfl rfl rfl ?_
          | refine W_box1 (v := .int _ _) rfl rfl rfl rfl rfl ?_
          | refine W_box1 (v := .bool _) rfl rfl rfl rfl rfl ?_
          | refine W_box1 (v := .ptr _ _) rfl rfl rfl rfl rfl ?_
          | refine W_skip rfl ?_)
      | (refine I_store ?_; first
          | refine W_store (cs' := [_, _, _, _]) rfl rfl (upd_same _ _ _) rfl (by first | exact Nat.zero_le _ | assumption | exact Nat.le_trans hlim (Nat.zero_le _) | omega) rfl rfl rfl ?_
          | refine W_store (cs' := [_, _, _, _]) rfl rfl ((upd_ne _ _ (by omega)).trans (upd_same _ _ _)) rfl (by first | exact Nat.zero_le _ | assumption | exact Nat.le_trans hlim (Nat.zero_le _) | omega) rfl rfl rfl ?_
          | refine W_store (cs' := [_, _, _, _, _, _]) rfl rfl (upd_same _ _ _) rfl (by first | exact Nat.zero_le _ | assumption | exact Nat.le_trans hlim (Nat.zero_le _) | omega) rfl rfl rfl ?_
          | refine W_store (cs' := [_, _, _, _, _, _]) rfl rfl ((upd_ne _ _ (by omega)).trans (upd_same _ _ _)) rfl (by first | exact Nat.zero_le _ | assumption | exact Nat.le_trans hlim (Nat.zero_le _) | omega) rfl rfl rfl ?_
          | refine W_store (cs' := [_, _, _, _, _, _, _, _]) rfl rfl (upd_same _ _ _) rfl (by first | exact Nat.zero_le _ | assumption | exact Nat.le_trans hlim (Nat.zero_le _) | omega) rfl rfl rfl ?_
          | refine W_store (cs' := [_, _, _, _, _, _, _, _]) rfl rfl ((upd_ne _ _ (by omega)).trans (upd_same _ _ _)) rfl (by first | exact Nat.zero_le _ | assumption | exact Nat.le_trans hlim (Nat.zero_le _) | omega) rfl rfl rfl ?_
          | refine W_store (cs' := [_, _, _, _]) rfl rfl rfl rfl (by first | exact Nat.zero_le _ | omega) rfl rfl rfl ?_
          | refine W_store (cs' := [_, _, _, _, _, _]) rfl rfl rfl rfl (by first | exact Nat.zero_le _ | omega) rfl rfl rfl ?_
          | refine W_store (cs' := [_, _, _, _, _, _, _, _]) rfl rfl rfl rfl (by first | exact Nat.zero_le _ | omega) rfl rfl rfl ?_
          | refine W_skip0 rfl ?_)
      | refine W_not rfl rfl rfl ?_
      | (refine W_eqlP rfl rfl rfl rfl rfl rfl (eqAt3 _ _ _ _ _ _) ?_ ?_ <;> intro hq)
      | (refine W_eqlP rfl rfl rfl rfl rfl rfl (eqAt4 _ _ _ _ _ _ _ _) ?_ ?_ <;> intro hq)
      | (refine W_neqP rfl rfl rfl rfl rfl rfl (eqAt3 _ _ _ _ _ _) ?_ ?_ <;> intro hq)
      | (refine W_neqP rfl rfl rfl rfl rfl rfl (eqAt4 _ _ _ _ _ _ _ _) ?_ ?_ <;> intro hq)
      | (refine W_eqlP rfl rfl rfl rfl rfl rfl rfl ?_ ?_ <;> intro _)
      | (refine W_neqP rfl rfl rfl rfl rfl rfl rfl ?_ ?_ <;> intro _)
      | refine W_lenS0 rfl rfl rfl ?_
      | refine W_lenM rfl rfl rfl ?_
      | refine W_lenS rfl rfl rfl ?_
      | refine W_lenR rfl rfl rfl ?_
      | refine W_faddr rfl rfl rfl ?_
      | refine W_faddrE rfl rfl rfl ?_
      | refine W_faddrM rfl rfl ?_
      | refine W_alloc rfl rfl ?_
      | refine W_skip rfl ?_
      | refine W_iaddr rfl rfl rfl rfl (by first | rfl | exact sz_of (by assumption) (by omega)) (by first | decide | (simp only [List.length_map]; omega)) ?_
      | refine W_iaddrRN rfl rfl rfl rfl rfl (by decide) ?_
      | refine W_iaddrR rfl rfl rfl rfl (by first | decide | omega) ?_
      | (refine W_sliceLoN rfl rfl (by first | exact .inl rfl | assumption) rfl (by first | omega | (simp; omega)) rfl ?_ <;> intro _)
      | (refine W_sliceHiN rfl rfl (by first | exact .inl rfl | assumption) rfl (by first | omega | (simp; omega)) rfl ?_ <;> intro _)
      | (refine W_sliceLo rfl rfl (by first | exact .inl rfl | assumption) rfl (by first | omega | (simp; omega)) rfl ?_ <;> intro _)
      | (refine W_sliceHi rfl rfl (by first | exact .inl rfl | assumption) rfl (by first | omega | (simp; omega)) rfl ?_ <;> intro _)
      | refine W_skip rfl ?_
      | refine WS_nil ?_)
    | refine WC_seq ?_
    | refine WC_opsS ?_
    | refine WC_drawS ?_
    | refine WC_skip ?_
    | refine WC_condT rfl ?_
    | refine WC_condF rfl ?_
    | refine WC_block ?_
    | refine WC_exit ?_
    | refine WC_ret ?_
    | refine okF_intro rfl ?_)
      all_goals first | exact fin_bool (.inr rfl) rfl rfl
end Go.Vie
