/-
  ViewRight, as the evaluator runs it: the whole.
-/
import Derived.Test.YtdjokmfncammeaaVieVieRb
import Derived.Test.YtdjokmfncammeaaVieVieRc
import Derived.Test.YtdjokmfncammeaaVieVieV
import Derived.Test.YtdjokmfncammeaaVieVieW
set_option linter.unusedVariables false
set_option linter.unusedSimpArgs false
set_option linter.unnecessarySimpa false
namespace Go.Vie
open Go.Ev
set_option linter.unusedVariables false
set_option linter.unusedSimpArgs false
theorem find_has {p : Pl} (hG : Good p.cs) (lg : List Bk) (k : Int) : ∀ c ∈ p.cs, (fnd c.id (allE p lg k)).isSome = hasO p c := by
  intro c hc
  unfold hasO
  cases ho : owl p.rs c with
  | some o =>
    refine fnd_some2 ⟨mkE lg c k o, (srtK_perm Eg.id _).mem_iff.mpr (List.mem_filterMap.mpr ⟨c, hc, ?_⟩), rfl⟩
    unfold edg
    rw [if_pos (hG.1 c hc), ho]
    rfl
  | none =>
    rw [fnd_none (fun y hy e => ?_)]
    · rfl
    obtain ⟨c', hc', he, hf⟩ := allE_mem hG.2 hy
    rw [e, fndC_mem hG.2 hc] at hf
    cases hf
    obtain ⟨_, o, h, _⟩ := edg_ok he
    rw [h] at ho
    cases ho
theorem count_has {p : Pl} (hG : Good p.cs) (lg : List Bk) (k : Int) : (p.cs.filter (hasO p)).length = (allE p lg k).length := by
  rw [allE_gds, List.length_map]
  unfold gds
  rw [(srtK_perm Ct.id _).length_eq]
  congr 1
  apply List.filter_congr
  intro c hc
  rw [decide_eq_true (hG.1 c hc), Bool.true_and]
  rfl
set_option maxHeartbeats 8000000 in
theorem run_Right (p : Pl) (hc : ∀ c ∈ p.cs, In64 c.en) (hr : ∀ r ∈ p.rs, In64 r.en) (l : List Bk) (k : Int) : EvP Γ 7 [p.e, .slice .no 4 (l.map Bk.e), .int .i64 k] (.bool true) := by
  refine EvP_code rfl rfl ?_
  have hFew := s_Few p
  by_cases hf : (p.cs.length ≤ 50 ∧ p.rs.length ≤ 50) ∧ l.length ≤ 50 ∧ (0 ≤ k ∧ k ≤ 2)
  · obtain ⟨hf, hl, hk⟩ := hf
    have hp : p.Sm := ⟨by omega, by omega, hc, hr⟩
    obtain ⟨_, ⟨b, rfl, hb⟩, hR⟩ := s_pRight2 p hp
    have hLR := s_lRight l (by omega) .no 4 (.inl rfl)
    rw [decide_eq_true hf] at hFew
    cases b with
    | false =>
      repeat' (first
 | (refine I_WS ?_; first
 | (refine I_mov ?_; first
 | refine W_skip rfl ?_
 | refine W_mov (v := .int _ _) rfl rfl rfl ?_
 | refine W_mov (v := .bool _) rfl rfl rfl ?_
 | refine W_mov (v := .slice _ _ _) rfl rfl rfl ?_
 | refine W_mov (v := .agg _) rfl rfl rfl ?_
 | refine W_mov (v := .ptr _ _) rfl rfl rfl ?_
 | refine W_mov (v := .func _ _) rfl rfl rfl ?_
 | refine W_mov (v := .eptr _ _ _ _) rfl rfl rfl ?_
 | refine W_mov (v := .rs _ _ _ _ _) rfl rfl rfl ?_
 | refine W_mov (v := .tuple _) rfl rfl rfl ?_
 | refine W_mov (v := .map _) rfl rfl rfl ?_
 | refine W_mov (v := .str _) rfl rfl rfl ?_
 | refine W_mov (v := .nilptr) rfl rfl rfl ?_)
 | (refine I_bin ?_; first
 | refine W_skip rfl ?_
 | refine W_lssT rfl rfl rfl rfl (by omega) ?_
 | refine W_lssF rfl rfl rfl rfl (by omega) ?_
 | (refine W_lss rfl rfl rfl rfl ?_ ?_ <;> intro _)
 | refine W_leqT rfl rfl rfl rfl (by omega) ?_
 | refine W_leqF rfl rfl rfl rfl (by omega) ?_
 | (refine W_leq rfl rfl rfl rfl ?_ ?_ <;> intro _)
 | refine W_gtrT rfl rfl rfl rfl (by omega) ?_
 | refine W_gtrF rfl rfl rfl rfl (by omega) ?_
 | (refine W_gtr rfl rfl rfl rfl ?_ ?_ <;> intro _)
 | refine W_eqlT rfl rfl rfl rfl (by omega) ?_
 | refine W_eqlF rfl rfl rfl rfl (by omega) ?_
 | (refine W_eql rfl rfl rfl rfl ?_ ?_ <;> intro _)
 | refine W_neqT rfl rfl rfl rfl (by omega) ?_
 | refine W_neqF rfl rfl rfl rfl (by omega) ?_
 | (refine W_neq rfl rfl rfl rfl ?_ ?_ <;> intro _)
 | refine W_add rfl rfl rfl rfl (by first | exact w64 (by omega) | rfl) ?_
 | refine W_sub rfl rfl rfl rfl (by first | exact w64 (by omega) | rfl) ?_)
 | (refine I_load ?_; first
 | refine W_skip rfl ?_
 | refine W_load (agg := false) (d := .int _ _) rfl rfl rfl rfl (by first | exact Nat.zero_le _ | omega) rfl ?_
 | refine W_load (agg := false) (d := .bool _) rfl rfl rfl rfl (by first | exact Nat.zero_le _ | omega) rfl ?_
 | refine W_load (agg := false) (d := .slice _ _ _) rfl rfl rfl rfl (by first | exact Nat.zero_le _ | omega) rfl ?_
 | refine W_load (agg := false) (d := .ptr _ _) rfl rfl rfl rfl (by first | exact Nat.zero_le _ | omega) rfl ?_
 | refine W_load (agg := false) (d := .func _ _) rfl rfl rfl rfl (by first | exact Nat.zero_le _ | omega) rfl ?_
 | refine W_load (agg := true) (d := .agg [_, _, _, _]) rfl rfl rfl rfl (by first | exact Nat.zero_le _ | omega) rfl ?_
 | refine W_load (agg := true) (d := .agg [_, _, _, _, _, _]) rfl rfl rfl rfl (by first | exact Nat.zero_le _ | omega) rfl ?_
 | refine W_load (agg := true) (d := .agg [_, _, _, _, _, _, _, _]) rfl rfl rfl rfl (by first | exact Nat.zero_le _ | omega) rfl ?_)
 | (refine I_call ?_; first
 | refine W_skip rfl ?_
 | refine W_call rfl rfl rfl s_small rfl rfl ?_
 | refine W_call rfl rfl rfl hFew rfl rfl ?_
 | refine W_call rfl rfl rfl hR rfl rfl ?_)
 | (refine I_pick ?_; first
 | refine W_pick (v := .int _ _) rfl rfl rfl rfl ?_
 | refine W_pick (v := .bool _) rfl rfl rfl rfl ?_
 | refine W_pick (v := .slice _ _ _) rfl rfl rfl rfl ?_
 | refine W_pick (v := .agg _) rfl rfl rfl rfl ?_
 | refine W_skip rfl ?_)
 | (refine I_extract ?_; first
 | refine W_extract (d := .int _ _) rfl rfl rfl rfl ?_
 | refine W_extract (d := .bool _) rfl rfl rfl rfl ?_
 | refine W_extract (d := .slice _ _ _) rfl rfl rfl rfl ?_
 | refine W_extract (d := .agg _) rfl rfl rfl rfl ?_
 | refine W_extract (d := .ptr _ _) rfl rfl rfl rfl ?_
 | refine W_extract (d := .func _ _) rfl rfl rfl rfl ?_
 | refine W_skip rfl ?_)
 | (refine I_box ?_; first
 | refine W_boxA rfl rfl rfl rfl rfl ?_
 | refine W_box1 (v := .slice _ _ _) rfl rfl rfl rfl rfl ?_
 | refine W_box1 (v := .int _ _) rfl rfl rfl rfl rfl ?_
 | refine W_box1 (v := .bool _) rfl rfl rfl rfl rfl ?_
 | refine W_box1 (v := .ptr _ _) rfl rfl rfl rfl rfl ?_
 | refine W_skip rfl ?_)
 | (refine I_store ?_; first
 | refine W_store (cs' := [_, _, _, _]) rfl rfl rfl rfl (by first | exact Nat.zero_le _ | omega) rfl rfl rfl ?_
 | refine W_store (cs' := [_, _, _, _, _, _]) rfl rfl rfl rfl (by first | exact Nat.zero_le _ | omega) rfl rfl rfl ?_
 | refine W_store (cs' := [_, _, _, _, _, _, _, _]) rfl rfl rfl rfl (by first | exact Nat.zero_le _ | omega) rfl rfl rfl ?_
 | refine W_skip0 rfl ?_)
 | refine W_not rfl rfl rfl ?_
 | (refine W_eqlB rfl rfl rfl rfl ?_)
 | (refine W_neqB rfl rfl rfl rfl ?_)
 | refine W_lenS0 rfl rfl rfl ?_
 | refine W_lenM rfl rfl rfl ?_
 | refine W_lenS rfl rfl rfl ?_
 | refine W_lenR rfl rfl rfl ?_
 | refine W_faddr rfl rfl rfl ?_
 | refine W_faddrE rfl rfl rfl ?_
 | refine W_faddrM rfl rfl ?_
 | refine W_alloc rfl rfl ?_
 | refine W_skip rfl ?_
 | refine W_iaddr rfl rfl rfl rfl (by first | rfl | exact sz_of (by assumption) (by omega)) (by first | decide | (simp only [List.length_map]; omega)) ?_
 | refine W_iaddrRN rfl rfl rfl rfl rfl (by decide) ?_
 | refine W_iaddrR rfl rfl rfl rfl (by first | decide | omega) ?_
 | refine W_skip rfl ?_
 | refine WS_nil ?_)
 | refine WC_seq ?_
 | refine WC_opsS ?_
 | refine WC_drawS ?_
 | refine WC_skip ?_
 | refine WC_condT rfl ?_
 | refine WC_condF rfl ?_
 | refine WC_block ?_
 | refine WC_exit ?_
 | refine WC_ret ?_
 | refine okF_intro rfl ?_)
      exact fin_bool (.inr rfl) rfl rfl
    | true =>
      cases hrt : rt 0 l with
      | false =>
        rw [hrt] at hLR
        repeat' (first
 | (refine I_WS ?_; first
 | (refine I_mov ?_; first
 | refine W_skip rfl ?_
 | refine W_mov (v := .int _ _) rfl rfl rfl ?_
 | refine W_mov (v := .bool _) rfl rfl rfl ?_
 | refine W_mov (v := .slice _ _ _) rfl rfl rfl ?_
 | refine W_mov (v := .agg _) rfl rfl rfl ?_
 | refine W_mov (v := .ptr _ _) rfl rfl rfl ?_
 | refine W_mov (v := .func _ _) rfl rfl rfl ?_
 | refine W_mov (v := .eptr _ _ _ _) rfl rfl rfl ?_
 | refine W_mov (v := .rs _ _ _ _ _) rfl rfl rfl ?_
 | refine W_mov (v := .tuple _) rfl rfl rfl ?_
 | refine W_mov (v := .map _) rfl rfl rfl ?_
 | refine W_mov (v := .str _) rfl rfl rfl ?_
 | refine W_mov (v := .nilptr) rfl rfl rfl ?_)
 | (refine I_bin ?_; first
 | refine W_skip rfl ?_
 | refine W_lssT rfl rfl rfl rfl (by omega) ?_
 | refine W_lssF rfl rfl rfl rfl (by omega) ?_
 | (refine W_lss rfl rfl rfl rfl ?_ ?_ <;> intro _)
 | refine W_leqT rfl rfl rfl rfl (by omega) ?_
 | refine W_leqF rfl rfl rfl rfl (by omega) ?_
 | (refine W_leq rfl rfl rfl rfl ?_ ?_ <;> intro _)
 | refine W_gtrT rfl rfl rfl rfl (by omega) ?_
 | refine W_gtrF rfl rfl rfl rfl (by omega) ?_
 | (refine W_gtr rfl rfl rfl rfl ?_ ?_ <;> intro _)
 | refine W_eqlT rfl rfl rfl rfl (by omega) ?_
 | refine W_eqlF rfl rfl rfl rfl (by omega) ?_
 | (refine W_eql rfl rfl rfl rfl ?_ ?_ <;> intro _)
 | refine W_neqT rfl rfl rfl rfl (by omega) ?_
 | refine W_neqF rfl rfl rfl rfl (by omega) ?_
 | (refine W_neq rfl rfl rfl rfl ?_ ?_ <;> intro _)
 | refine W_add rfl rfl rfl rfl (by first | exact w64 (by omega) | rfl) ?_
 | refine W_sub rfl rfl rfl rfl (by first | exact w64 (by omega) | rfl) ?_)
 | (refine I_load ?_; first
 | refine W_skip rfl ?_
 | refine W_load (agg := false) (d := .int _ _) rfl rfl rfl rfl (by first | exact Nat.zero_le _ | omega) rfl ?_
 | refine W_load (agg := false) (d := .bool _) rfl rfl rfl rfl (by first | exact Nat.zero_le _ | omega) rfl ?_
 | refine W_load (agg := false) (d := .slice _ _ _) rfl rfl rfl rfl (by first | exact Nat.zero_le _ | omega) rfl ?_
 | refine W_load (agg := false) (d := .ptr _ _) rfl rfl rfl rfl (by first | exact Nat.zero_le _ | omega) rfl ?_
 | refine W_load (agg := false) (d := .func _ _) rfl rfl rfl rfl (by first | exact Nat.zero_le _ | omega) rfl ?_
 | refine W_load (agg := true) (d := .agg [_, _, _, _]) rfl rfl rfl rfl (by first | exact Nat.zero_le _ | omega) rfl ?_
 | refine W_load (agg := true) (d := .agg [_, _, _, _, _, _]) rfl rfl rfl rfl (by first | exact Nat.zero_le _ | omega) rfl ?_
 | refine W_load (agg := true) (d := .agg [_, _, _, _, _, _, _, _]) rfl rfl rfl rfl (by first | exact Nat.zero_le _ | omega) rfl ?_)
 | (refine I_call ?_; first
 | refine W_skip rfl ?_
 | refine W_call rfl rfl rfl s_small rfl rfl ?_
 | refine W_call rfl rfl rfl hFew rfl rfl ?_
 | refine W_call rfl rfl rfl hR rfl rfl ?_
 | refine W_call rfl rfl rfl hLR rfl rfl ?_)
 | (refine I_pick ?_; first
 | refine W_pick (v := .int _ _) rfl rfl rfl rfl ?_
 | refine W_pick (v := .bool _) rfl rfl rfl rfl ?_
 | refine W_pick (v := .slice _ _ _) rfl rfl rfl rfl ?_
 | refine W_pick (v := .agg _) rfl rfl rfl rfl ?_
 | refine W_skip rfl ?_)
 | (refine I_extract ?_; first
 | refine W_extract (d := .int _ _) rfl rfl rfl rfl ?_
 | refine W_extract (d := .bool _) rfl rfl rfl rfl ?_
 | refine W_extract (d := .slice _ _ _) rfl rfl rfl rfl ?_
 | refine W_extract (d := .agg _) rfl rfl rfl rfl ?_
 | refine W_extract (d := .ptr _ _) rfl rfl rfl rfl ?_
 | refine W_extract (d := .func _ _) rfl rfl rfl rfl ?_
 | refine W_skip rfl ?_)
 | (refine I_box ?_; first
 | refine W_boxA rfl rfl rfl rfl rfl ?_
 | refine W_box1 (v := .slice _ _ _) rfl rfl rfl rfl rfl ?_
 | refine W_box1 (v := .int _ _) rfl rfl rfl rfl rfl ?_
 | refine W_box1 (v := .bool _) rfl rfl rfl rfl rfl ?_
 | refine W_box1 (v := .ptr _ _) rfl rfl rfl rfl rfl ?_
 | refine W_skip rfl ?_)
 | (refine I_store ?_; first
 | refine W_store (cs' := [_, _, _, _]) rfl rfl rfl rfl (by first | exact Nat.zero_le _ | omega) rfl rfl rfl ?_
 | refine W_store (cs' := [_, _, _, _, _, _]) rfl rfl rfl rfl (by first | exact Nat.zero_le _ | omega) rfl rfl rfl ?_
 | refine W_store (cs' := [_, _, _, _, _, _, _, _]) rfl rfl rfl rfl (by first | exact Nat.zero_le _ | omega) rfl rfl rfl ?_
 | refine W_skip0 rfl ?_)
 | refine W_not rfl rfl rfl ?_
 | (refine W_eqlB rfl rfl rfl rfl ?_)
 | (refine W_neqB rfl rfl rfl rfl ?_)
 | refine W_lenS0 rfl rfl rfl ?_
 | refine W_lenM rfl rfl rfl ?_
 | refine W_lenS rfl rfl rfl ?_
 | refine W_lenR rfl rfl rfl ?_
 | refine W_faddr rfl rfl rfl ?_
 | refine W_faddrE rfl rfl rfl ?_
 | refine W_faddrM rfl rfl ?_
 | refine W_alloc rfl rfl ?_
 | refine W_skip rfl ?_
 | refine W_iaddr rfl rfl rfl rfl (by first | rfl | exact sz_of (by assumption) (by omega)) (by first | decide | (simp only [List.length_map]; omega)) ?_
 | refine W_iaddrRN rfl rfl rfl rfl rfl (by decide) ?_
 | refine W_iaddrR rfl rfl rfl rfl (by first | decide | omega) ?_
 | refine W_skip rfl ?_
 | refine WS_nil ?_)
 | refine WC_seq ?_
 | refine WC_opsS ?_
 | refine WC_drawS ?_
 | refine WC_skip ?_
 | refine WC_condT rfl ?_
 | refine WC_condF rfl ?_
 | refine WC_block ?_
 | refine WC_exit ?_
 | refine WC_ret ?_
 | refine okF_intro rfl ?_)
        exact fin_bool (.inr rfl) rfl rfl
      | true =>
        rw [hrt] at hLR
        obtain ⟨hG, hRK⟩ := hb rfl
        have hLd := rt_led hrt (by omega)
        have hA := s_All p hp hG.2 l hLd k .no 4 (.inl rfl)
        have hle := allE_le p l k
        have hcnt := count_has hG l k
        have hL1 := l_Right1 p hp (allE p l k) hle (fun x hx => by
          obtain ⟨c, _, he, hf⟩ := allE_mem hG.2 hx
          exact ⟨c, hf, egOf hLd (by omega) hRK he⟩) (allE_lt l k hG.2)
        have hL2 := l_Right2 p hp (allE p l k) hle (find_has hG l k)
        clear hLd hb hrt hRK hG
        generalize allE p l k = A at *
        generalize (p.cs.filter (hasO p)).length = m at *
        have hcnt' : (m : Int) = A.length := by omega
        repeat' (first
 | (refine I_WS ?_; first
 | refine W_lenM rfl rfl rfl ?_
 | (refine I_mov ?_; first
 | refine W_skip rfl ?_
 | refine W_mov (v := .int _ _) rfl rfl rfl ?_
 | refine W_mov (v := .bool _) rfl rfl rfl ?_
 | refine W_mov (v := .slice _ _ _) rfl rfl rfl ?_
 | refine W_mov (v := .agg _) rfl rfl rfl ?_
 | refine W_mov (v := .ptr _ _) rfl rfl rfl ?_
 | refine W_mov (v := .func _ _) rfl rfl rfl ?_
 | refine W_mov (v := .eptr _ _ _ _) rfl rfl rfl ?_
 | refine W_mov (v := .rs _ _ _ _ _) rfl rfl rfl ?_
 | refine W_mov (v := .tuple _) rfl rfl rfl ?_
 | refine W_mov (v := .map _) rfl rfl rfl ?_
 | refine W_mov (v := .str _) rfl rfl rfl ?_
 | refine W_mov (v := .nilptr) rfl rfl rfl ?_)
 | (refine I_bin ?_; first
 | refine W_skip rfl ?_
 | refine W_lssT rfl rfl rfl rfl (by omega) ?_
 | refine W_lssF rfl rfl rfl rfl (by omega) ?_
 | (refine W_lss rfl rfl rfl rfl ?_ ?_ <;> intro _)
 | refine W_leqT rfl rfl rfl rfl (by omega) ?_
 | refine W_leqF rfl rfl rfl rfl (by omega) ?_
 | (refine W_leq rfl rfl rfl rfl ?_ ?_ <;> intro _)
 | refine W_gtrT rfl rfl rfl rfl (by omega) ?_
 | refine W_gtrF rfl rfl rfl rfl (by omega) ?_
 | (refine W_gtr rfl rfl rfl rfl ?_ ?_ <;> intro _)
 | refine W_eqlT rfl rfl rfl rfl (by omega) ?_
 | refine W_eqlF rfl rfl rfl rfl (by omega) ?_
 | (refine W_eql rfl rfl rfl rfl ?_ ?_ <;> intro _)
 | refine W_neqT rfl rfl rfl rfl (by omega) ?_
 | refine W_neqF rfl rfl rfl rfl (by omega) ?_
 | (refine W_neq rfl rfl rfl rfl ?_ ?_ <;> intro _)
 | refine W_add rfl rfl rfl rfl (by first | exact w64 (by omega) | rfl) ?_
 | refine W_sub rfl rfl rfl rfl (by first | exact w64 (by omega) | rfl) ?_)
 | (refine I_load ?_; first
 | refine W_skip rfl ?_
 | refine W_load (agg := false) (d := .int _ _) rfl rfl rfl rfl (by first | exact Nat.zero_le _ | omega) rfl ?_
 | refine W_load (agg := false) (d := .bool _) rfl rfl rfl rfl (by first | exact Nat.zero_le _ | omega) rfl ?_
 | refine W_load (agg := false) (d := .slice _ _ _) rfl rfl rfl rfl (by first | exact Nat.zero_le _ | omega) rfl ?_
 | refine W_load (agg := false) (d := .ptr _ _) rfl rfl rfl rfl (by first | exact Nat.zero_le _ | omega) rfl ?_
 | refine W_load (agg := false) (d := .func _ _) rfl rfl rfl rfl (by first | exact Nat.zero_le _ | omega) rfl ?_
 | refine W_load (agg := true) (d := .agg [_, _, _, _]) rfl rfl rfl rfl (by first | exact Nat.zero_le _ | omega) rfl ?_
 | refine W_load (agg := true) (d := .agg [_, _, _, _, _, _]) rfl rfl rfl rfl (by first | exact Nat.zero_le _ | omega) rfl ?_
 | refine W_load (agg := true) (d := .agg [_, _, _, _, _, _, _, _]) rfl rfl rfl rfl (by first | exact Nat.zero_le _ | omega) rfl ?_)
 | (refine I_call ?_; first
 | refine W_skip rfl ?_
 | refine W_call rfl rfl rfl s_small rfl rfl ?_
 | refine W_call rfl rfl rfl hFew rfl rfl ?_
 | refine W_call rfl rfl rfl hR rfl rfl ?_
 | refine W_call rfl rfl rfl hLR rfl rfl ?_
 | (refine W_callN rfl rfl rfl hA rfl ?_ <;> intro ta sa s1 d1))
 | (refine I_pick ?_; first
 | refine W_pick (v := .int _ _) rfl rfl rfl rfl ?_
 | refine W_pick (v := .bool _) rfl rfl rfl rfl ?_
 | refine W_pick (v := .slice _ _ _) rfl rfl rfl rfl ?_
 | refine W_pick (v := .agg _) rfl rfl rfl rfl ?_
 | refine W_skip rfl ?_)
 | (refine I_extract ?_; first
 | refine W_extract (d := .int _ _) rfl rfl rfl rfl ?_
 | refine W_extract (d := .bool _) rfl rfl rfl rfl ?_
 | refine W_extract (d := .slice _ _ _) rfl rfl rfl rfl ?_
 | refine W_extract (d := .agg _) rfl rfl rfl rfl ?_
 | refine W_extract (d := .ptr _ _) rfl rfl rfl rfl ?_
 | refine W_extract (d := .func _ _) rfl rfl rfl rfl ?_
 | refine W_skip rfl ?_)
 | (refine I_box ?_; first
 | refine W_boxA rfl rfl rfl rfl rfl ?_
 | refine W_box1 (v := .slice _ _ _) rfl rfl rfl rfl rfl ?_
 | refine W_box1 (v := .int _ _) rfl rfl rfl rfl rfl ?_
 | refine W_box1 (v := .bool _) rfl rfl rfl rfl rfl ?_
 | refine W_box1 (v := .ptr _ _) rfl rfl rfl rfl rfl ?_
 | refine W_skip rfl ?_)
 | (refine I_store ?_; first
 | refine W_store (cs' := [_, _, _, _]) rfl rfl rfl rfl (by first | exact Nat.zero_le _ | omega) rfl rfl rfl ?_
 | refine W_store (cs' := [_, _, _, _, _, _]) rfl rfl rfl rfl (by first | exact Nat.zero_le _ | omega) rfl rfl rfl ?_
 | refine W_store (cs' := [_, _, _, _, _, _, _, _]) rfl rfl rfl rfl (by first | exact Nat.zero_le _ | omega) rfl rfl rfl ?_
 | refine W_skip0 rfl ?_)
 | refine W_not rfl rfl rfl ?_
 | (refine W_eqlB rfl rfl rfl rfl ?_)
 | (refine W_neqB rfl rfl rfl rfl ?_)
 | refine W_lenS0 rfl rfl rfl ?_
 | refine W_lenM rfl rfl rfl ?_
 | refine W_lenS rfl rfl rfl ?_
 | refine W_lenR rfl rfl rfl ?_
 | refine W_faddr rfl rfl rfl ?_
 | refine W_faddrE rfl rfl rfl ?_
 | refine W_faddrM rfl rfl ?_
 | refine W_alloc rfl rfl ?_
 | refine W_skip rfl ?_
 | refine W_iaddr rfl rfl rfl rfl (by first | rfl | exact sz_of (by assumption) (by omega)) (by first | decide | (simp only [List.length_map]; omega)) ?_
 | refine W_iaddrRN rfl rfl rfl rfl rfl (by decide) ?_
 | refine W_iaddrR rfl rfl rfl rfl (by first | decide | omega) ?_
 | refine W_skip rfl ?_
 | refine WS_nil ?_)
 | refine WC_seq ?_
 | refine WC_opsS ?_
 | refine WC_drawS ?_
 | refine WC_skip ?_
 | refine WC_condT rfl ?_
 | refine WC_condF rfl ?_
 | refine WC_block ?_
 | refine WC_exit ?_
 | refine WC_ret ?_
 | refine okF_intro rfl ?_)
        refine hL1 ta sa s1 A [] rfl _ _ ?_ ?_ ?_ ?_ ?_ ?_ ?_ _ (fun ρ' st' hlim hnx hb0 h3 h7 h9 => ?_)
        · exact Nat.le_refl _
        · exact Nat.succ_pos _
        · rfl
        · rfl
        · rfl
        · rfl
        · rfl
        rw [← upd_self h3, ← upd_self h7, ← upd_self h9]
        repeat' (first
 | (refine I_WS ?_; first
 | (refine I_mov ?_; first
 | refine W_skip rfl ?_
 | refine W_mov (v := .int _ _) rfl rfl rfl ?_
 | refine W_mov (v := .bool _) rfl rfl rfl ?_
 | refine W_mov (v := .slice _ _ _) rfl rfl rfl ?_
 | refine W_mov (v := .agg _) rfl rfl rfl ?_
 | refine W_mov (v := .ptr _ _) rfl rfl rfl ?_
 | refine W_mov (v := .func _ _) rfl rfl rfl ?_
 | refine W_mov (v := .eptr _ _ _ _) rfl rfl rfl ?_
 | refine W_mov (v := .rs _ _ _ _ _) rfl rfl rfl ?_
 | refine W_mov (v := .tuple _) rfl rfl rfl ?_
 | refine W_mov (v := .map _) rfl rfl rfl ?_
 | refine W_mov (v := .str _) rfl rfl rfl ?_
 | refine W_mov (v := .nilptr) rfl rfl rfl ?_)
 | (refine I_bin ?_; first
 | refine W_skip rfl ?_
 | refine W_lssT rfl rfl rfl rfl (by omega) ?_
 | refine W_lssF rfl rfl rfl rfl (by omega) ?_
 | (refine W_lss rfl rfl rfl rfl ?_ ?_ <;> intro _)
 | refine W_leqT rfl rfl rfl rfl (by omega) ?_
 | refine W_leqF rfl rfl rfl rfl (by omega) ?_
 | (refine W_leq rfl rfl rfl rfl ?_ ?_ <;> intro _)
 | refine W_gtrT rfl rfl rfl rfl (by omega) ?_
 | refine W_gtrF rfl rfl rfl rfl (by omega) ?_
 | (refine W_gtr rfl rfl rfl rfl ?_ ?_ <;> intro _)
 | refine W_eqlT rfl rfl rfl rfl (by omega) ?_
 | refine W_eqlF rfl rfl rfl rfl (by omega) ?_
 | (refine W_eql rfl rfl rfl rfl ?_ ?_ <;> intro _)
 | refine W_neqT rfl rfl rfl rfl (by omega) ?_
 | refine W_neqF rfl rfl rfl rfl (by omega) ?_
 | (refine W_neq rfl rfl rfl rfl ?_ ?_ <;> intro _)
 | refine W_add rfl rfl rfl rfl (by first | exact w64 (by omega) | rfl) ?_
 | refine W_sub rfl rfl rfl rfl (by first | exact w64 (by omega) | rfl) ?_)
 | (refine I_load ?_; first
 | refine W_skip rfl ?_
 | refine W_load (agg := false) (d := .int _ _) rfl rfl rfl rfl (by first | exact Nat.zero_le _ | omega) rfl ?_
 | refine W_load (agg := false) (d := .bool _) rfl rfl rfl rfl (by first | exact Nat.zero_le _ | omega) rfl ?_
 | refine W_load (agg := false) (d := .slice _ _ _) rfl rfl rfl rfl (by first | exact Nat.zero_le _ | omega) rfl ?_
 | refine W_load (agg := false) (d := .ptr _ _) rfl rfl rfl rfl (by first | exact Nat.zero_le _ | omega) rfl ?_
 | refine W_load (agg := false) (d := .func _ _) rfl rfl rfl rfl (by first | exact Nat.zero_le _ | omega) rfl ?_
 | refine W_load (agg := true) (d := .agg [_, _, _, _]) rfl rfl rfl rfl (by first | exact Nat.zero_le _ | omega) rfl ?_
 | refine W_load (agg := true) (d := .agg [_, _, _, _, _, _]) rfl rfl rfl rfl (by first | exact Nat.zero_le _ | omega) rfl ?_
 | refine W_load (agg := true) (d := .agg [_, _, _, _, _, _, _, _]) rfl rfl rfl rfl (by first | exact Nat.zero_le _ | omega) rfl ?_)
 | (refine I_call ?_; first
 | refine W_skip rfl ?_)
 | (refine I_pick ?_; first
 | refine W_pick (v := .int _ _) rfl rfl rfl rfl ?_
 | refine W_pick (v := .bool _) rfl rfl rfl rfl ?_
 | refine W_pick (v := .slice _ _ _) rfl rfl rfl rfl ?_
 | refine W_pick (v := .agg _) rfl rfl rfl rfl ?_
 | refine W_skip rfl ?_)
 | (refine I_extract ?_; first
 | refine W_extract (d := .int _ _) rfl rfl rfl rfl ?_
 | refine W_extract (d := .bool _) rfl rfl rfl rfl ?_
 | refine W_extract (d := .slice _ _ _) rfl rfl rfl rfl ?_
 | refine W_extract (d := .agg _) rfl rfl rfl rfl ?_
 | refine W_extract (d := .ptr _ _) rfl rfl rfl rfl ?_
 | refine W_extract (d := .func _ _) rfl rfl rfl rfl ?_
 | refine W_skip rfl ?_)
 | (refine I_box ?_; first
 | refine W_boxA rfl rfl rfl rfl rfl ?_
 | refine W_box1 (v := .slice _ _ _) rfl rfl rfl rfl rfl ?_
 | refine W_box1 (v := .int _ _) rfl rfl rfl rfl rfl ?_
 | refine W_box1 (v := .bool _) rfl rfl rfl rfl rfl ?_
 | refine W_box1 (v := .ptr _ _) rfl rfl rfl rfl rfl ?_
 | refine W_skip rfl ?_)
 | (refine I_store ?_; first
 | refine W_store (cs' := [_, _, _, _]) rfl rfl rfl rfl (by first | exact Nat.zero_le _ | omega) rfl rfl rfl ?_
 | refine W_store (cs' := [_, _, _, _, _, _]) rfl rfl rfl rfl (by first | exact Nat.zero_le _ | omega) rfl rfl rfl ?_
 | refine W_store (cs' := [_, _, _, _, _, _, _, _]) rfl rfl rfl rfl (by first | exact Nat.zero_le _ | omega) rfl rfl rfl ?_
 | refine W_skip0 rfl ?_)
 | refine W_not rfl rfl rfl ?_
 | (refine W_eqlB rfl rfl rfl rfl ?_)
 | (refine W_neqB rfl rfl rfl rfl ?_)
 | refine W_lenS0 rfl rfl rfl ?_
 | refine W_lenM rfl rfl rfl ?_
 | refine W_lenS rfl rfl rfl ?_
 | refine W_lenR rfl rfl rfl ?_
 | refine W_faddr rfl rfl rfl ?_
 | refine W_faddrE rfl rfl rfl ?_
 | refine W_faddrM rfl rfl ?_
 | refine W_alloc rfl rfl ?_
 | refine W_skip rfl ?_
 | refine W_iaddr rfl rfl rfl rfl (by first | rfl | exact sz_of (by assumption) (by omega)) (by first | decide | (simp only [List.length_map]; omega)) ?_
 | refine W_iaddrRN rfl rfl rfl rfl rfl (by decide) ?_
 | refine W_iaddrR rfl rfl rfl rfl (by first | decide | omega) ?_
 | refine W_skip rfl ?_
 | refine WS_nil ?_)
 | refine WC_seq ?_
 | refine WC_opsS ?_
 | refine WC_drawS ?_
 | refine WC_skip ?_
 | refine WC_condT rfl ?_
 | refine WC_condF rfl ?_
 | refine WC_block ?_
 | refine WC_exit ?_
 | refine WC_ret ?_
 | refine okF_intro rfl ?_)
        refine hL2 ta sa s1 p.cs [] rfl _ _ ?_ ?_ ?_ ?_ ?_ ?_ ?_ ?_ _ (fun ρ' st' h7 h9 h13 => ?_)
        · exact hlim
        · exact hnx
        · exact hb0
        · rfl
        · rfl
        · rfl
        · rfl
        · rfl
        rw [← upd_self h7, ← upd_self h9, ← upd_self h13]
        repeat' (first
 | (refine I_WS ?_; first
 | refine W_lenM rfl rfl rfl ?_
 | (refine I_mov ?_; first
 | refine W_skip rfl ?_
 | refine W_mov (v := .int _ _) rfl rfl rfl ?_
 | refine W_mov (v := .bool _) rfl rfl rfl ?_
 | refine W_mov (v := .slice _ _ _) rfl rfl rfl ?_
 | refine W_mov (v := .agg _) rfl rfl rfl ?_
 | refine W_mov (v := .ptr _ _) rfl rfl rfl ?_
 | refine W_mov (v := .func _ _) rfl rfl rfl ?_
 | refine W_mov (v := .eptr _ _ _ _) rfl rfl rfl ?_
 | refine W_mov (v := .rs _ _ _ _ _) rfl rfl rfl ?_
 | refine W_mov (v := .tuple _) rfl rfl rfl ?_
 | refine W_mov (v := .map _) rfl rfl rfl ?_
 | refine W_mov (v := .str _) rfl rfl rfl ?_
 | refine W_mov (v := .nilptr) rfl rfl rfl ?_)
 | (refine I_bin ?_; first
 | refine W_skip rfl ?_
 | refine W_lssT rfl rfl rfl rfl (by omega) ?_
 | refine W_lssF rfl rfl rfl rfl (by omega) ?_
 | (refine W_lss rfl rfl rfl rfl ?_ ?_ <;> intro _)
 | refine W_leqT rfl rfl rfl rfl (by omega) ?_
 | refine W_leqF rfl rfl rfl rfl (by omega) ?_
 | (refine W_leq rfl rfl rfl rfl ?_ ?_ <;> intro _)
 | refine W_gtrT rfl rfl rfl rfl (by omega) ?_
 | refine W_gtrF rfl rfl rfl rfl (by omega) ?_
 | (refine W_gtr rfl rfl rfl rfl ?_ ?_ <;> intro _)
 | refine W_eqlT rfl rfl rfl rfl (by omega) ?_
 | refine W_eqlF rfl rfl rfl rfl (by omega) ?_
 | (refine W_eql rfl rfl rfl rfl ?_ ?_ <;> intro _)
 | refine W_neqT rfl rfl rfl rfl (by omega) ?_
 | refine W_neqF rfl rfl rfl rfl (by omega) ?_
 | (refine W_neq rfl rfl rfl rfl ?_ ?_ <;> intro _)
 | refine W_add rfl rfl rfl rfl (by first | exact w64 (by omega) | rfl) ?_
 | refine W_sub rfl rfl rfl rfl (by first | exact w64 (by omega) | rfl) ?_)
 | (refine I_load ?_; first
 | refine W_skip rfl ?_
 | refine W_load (agg := false) (d := .int _ _) rfl rfl rfl rfl (by first | exact Nat.zero_le _ | omega) rfl ?_
 | refine W_load (agg := false) (d := .bool _) rfl rfl rfl rfl (by first | exact Nat.zero_le _ | omega) rfl ?_
 | refine W_load (agg := false) (d := .slice _ _ _) rfl rfl rfl rfl (by first | exact Nat.zero_le _ | omega) rfl ?_
 | refine W_load (agg := false) (d := .ptr _ _) rfl rfl rfl rfl (by first | exact Nat.zero_le _ | omega) rfl ?_
 | refine W_load (agg := false) (d := .func _ _) rfl rfl rfl rfl (by first | exact Nat.zero_le _ | omega) rfl ?_
 | refine W_load (agg := true) (d := .agg [_, _, _, _]) rfl rfl rfl rfl (by first | exact Nat.zero_le _ | omega) rfl ?_
 | refine W_load (agg := true) (d := .agg [_, _, _, _, _, _]) rfl rfl rfl rfl (by first | exact Nat.zero_le _ | omega) rfl ?_
 | refine W_load (agg := true) (d := .agg [_, _, _, _, _, _, _, _]) rfl rfl rfl rfl (by first | exact Nat.zero_le _ | omega) rfl ?_)
 | (refine I_call ?_; first
 | refine W_skip rfl ?_)
 | (refine I_pick ?_; first
 | refine W_pick (v := .int _ _) rfl rfl rfl rfl ?_
 | refine W_pick (v := .bool _) rfl rfl rfl rfl ?_
 | refine W_pick (v := .slice _ _ _) rfl rfl rfl rfl ?_
 | refine W_pick (v := .agg _) rfl rfl rfl rfl ?_
 | refine W_skip rfl ?_)
 | (refine I_extract ?_; first
 | refine W_extract (d := .int _ _) rfl rfl rfl rfl ?_
 | refine W_extract (d := .bool _) rfl rfl rfl rfl ?_
 | refine W_extract (d := .slice _ _ _) rfl rfl rfl rfl ?_
 | refine W_extract (d := .agg _) rfl rfl rfl rfl ?_
 | refine W_extract (d := .ptr _ _) rfl rfl rfl rfl ?_
 | refine W_extract (d := .func _ _) rfl rfl rfl rfl ?_
 | refine W_skip rfl ?_)
 | (refine I_box ?_; first
 | refine W_boxA rfl rfl rfl rfl rfl ?_
 | refine W_box1 (v := .slice _ _ _) rfl rfl rfl rfl rfl ?_
 | refine W_box1 (v := .int _ _) rfl rfl rfl rfl rfl ?_
 | refine W_box1 (v := .bool _) rfl rfl rfl rfl rfl ?_
 | refine W_box1 (v := .ptr _ _) rfl rfl rfl rfl rfl ?_
 | refine W_skip rfl ?_)
 | (refine I_store ?_; first
 | refine W_store (cs' := [_, _, _, _]) rfl rfl rfl rfl (by first | exact Nat.zero_le _ | omega) rfl rfl rfl ?_
 | refine W_store (cs' := [_, _, _, _, _, _]) rfl rfl rfl rfl (by first | exact Nat.zero_le _ | omega) rfl rfl rfl ?_
 | refine W_store (cs' := [_, _, _, _, _, _, _, _]) rfl rfl rfl rfl (by first | exact Nat.zero_le _ | omega) rfl rfl rfl ?_
 | refine W_skip0 rfl ?_)
 | refine W_not rfl rfl rfl ?_
 | (refine W_eqlB rfl rfl rfl rfl ?_)
 | (refine W_neqB rfl rfl rfl rfl ?_)
 | refine W_lenS0 rfl rfl rfl ?_
 | refine W_lenM rfl rfl rfl ?_
 | refine W_lenS rfl rfl rfl ?_
 | refine W_lenR rfl rfl rfl ?_
 | refine W_faddr rfl rfl rfl ?_
 | refine W_faddrE rfl rfl rfl ?_
 | refine W_faddrM rfl rfl ?_
 | refine W_alloc rfl rfl ?_
 | refine W_skip rfl ?_
 | refine W_iaddr rfl rfl rfl rfl (by first | rfl | exact sz_of (by assumption) (by omega)) (by first | decide | (simp only [List.length_map]; omega)) ?_
 | refine W_iaddrRN rfl rfl rfl rfl rfl (by decide) ?_
 | refine W_iaddrR rfl rfl rfl rfl (by first | decide | omega) ?_
 | refine W_skip rfl ?_
 | refine WS_nil ?_)
 | refine WC_seq ?_
 | refine WC_opsS ?_
 | refine WC_drawS ?_
 | refine WC_skip ?_
 | refine WC_condT rfl ?_
 | refine WC_condF rfl ?_
 | refine WC_block ?_
 | refine WC_exit ?_
 | refine WC_ret ?_
 | refine okF_intro rfl ?_)
        exact fin_bool (.inr rfl) rfl rfl
  · by_cases hf' : p.cs.length ≤ 50 ∧ p.rs.length ≤ 50
    · rw [decide_eq_true hf'] at hFew
      repeat' (first
 | (refine I_WS ?_; first
 | refine W_lenM rfl rfl rfl ?_
 | (refine I_mov ?_; first
 | refine W_skip rfl ?_
 | refine W_mov (v := .int _ _) rfl rfl rfl ?_
 | refine W_mov (v := .bool _) rfl rfl rfl ?_
 | refine W_mov (v := .slice _ _ _) rfl rfl rfl ?_
 | refine W_mov (v := .agg _) rfl rfl rfl ?_
 | refine W_mov (v := .ptr _ _) rfl rfl rfl ?_
 | refine W_mov (v := .func _ _) rfl rfl rfl ?_
 | refine W_mov (v := .eptr _ _ _ _) rfl rfl rfl ?_
 | refine W_mov (v := .rs _ _ _ _ _) rfl rfl rfl ?_
 | refine W_mov (v := .tuple _) rfl rfl rfl ?_
 | refine W_mov (v := .map _) rfl rfl rfl ?_
 | refine W_mov (v := .str _) rfl rfl rfl ?_
 | refine W_mov (v := .nilptr) rfl rfl rfl ?_)
 | (refine I_bin ?_; first
 | refine W_skip rfl ?_
 | refine W_lssT rfl rfl rfl rfl (by omega) ?_
 | refine W_lssF rfl rfl rfl rfl (by omega) ?_
 | (refine W_lss rfl rfl rfl rfl ?_ ?_ <;> intro _)
 | refine W_leqT rfl rfl rfl rfl (by omega) ?_
 | refine W_leqF rfl rfl rfl rfl (by omega) ?_
 | (refine W_leq rfl rfl rfl rfl ?_ ?_ <;> intro _)
 | refine W_gtrT rfl rfl rfl rfl (by omega) ?_
 | refine W_gtrF rfl rfl rfl rfl (by omega) ?_
 | (refine W_gtr rfl rfl rfl rfl ?_ ?_ <;> intro _)
 | refine W_eqlT rfl rfl rfl rfl (by omega) ?_
 | refine W_eqlF rfl rfl rfl rfl (by omega) ?_
 | (refine W_eql rfl rfl rfl rfl ?_ ?_ <;> intro _)
 | refine W_neqT rfl rfl rfl rfl (by omega) ?_
 | refine W_neqF rfl rfl rfl rfl (by omega) ?_
 | (refine W_neq rfl rfl rfl rfl ?_ ?_ <;> intro _)
 | refine W_add rfl rfl rfl rfl (by first | exact w64 (by omega) | rfl) ?_
 | refine W_sub rfl rfl rfl rfl (by first | exact w64 (by omega) | rfl) ?_)
 | (refine I_load ?_; first
 | refine W_skip rfl ?_
 | refine W_load (agg := false) (d := .int _ _) rfl rfl rfl rfl (by first | exact Nat.zero_le _ | omega) rfl ?_
 | refine W_load (agg := false) (d := .bool _) rfl rfl rfl rfl (by first | exact Nat.zero_le _ | omega) rfl ?_
 | refine W_load (agg := false) (d := .slice _ _ _) rfl rfl rfl rfl (by first | exact Nat.zero_le _ | omega) rfl ?_
 | refine W_load (agg := false) (d := .ptr _ _) rfl rfl rfl rfl (by first | exact Nat.zero_le _ | omega) rfl ?_
 | refine W_load (agg := false) (d := .func _ _) rfl rfl rfl rfl (by first | exact Nat.zero_le _ | omega) rfl ?_
 | refine W_load (agg := true) (d := .agg [_, _, _, _]) rfl rfl rfl rfl (by first | exact Nat.zero_le _ | omega) rfl ?_
 | refine W_load (agg := true) (d := .agg [_, _, _, _, _, _]) rfl rfl rfl rfl (by first | exact Nat.zero_le _ | omega) rfl ?_
 | refine W_load (agg := true) (d := .agg [_, _, _, _, _, _, _, _]) rfl rfl rfl rfl (by first | exact Nat.zero_le _ | omega) rfl ?_)
 | (refine I_call ?_; first
 | refine W_skip rfl ?_
 | refine W_call rfl rfl rfl s_small rfl rfl ?_
 | refine W_call rfl rfl rfl hFew rfl rfl ?_)
 | (refine I_pick ?_; first
 | refine W_pick (v := .int _ _) rfl rfl rfl rfl ?_
 | refine W_pick (v := .bool _) rfl rfl rfl rfl ?_
 | refine W_pick (v := .slice _ _ _) rfl rfl rfl rfl ?_
 | refine W_pick (v := .agg _) rfl rfl rfl rfl ?_
 | refine W_skip rfl ?_)
 | (refine I_extract ?_; first
 | refine W_extract (d := .int _ _) rfl rfl rfl rfl ?_
 | refine W_extract (d := .bool _) rfl rfl rfl rfl ?_
 | refine W_extract (d := .slice _ _ _) rfl rfl rfl rfl ?_
 | refine W_extract (d := .agg _) rfl rfl rfl rfl ?_
 | refine W_extract (d := .ptr _ _) rfl rfl rfl rfl ?_
 | refine W_extract (d := .func _ _) rfl rfl rfl rfl ?_
 | refine W_skip rfl ?_)
 | (refine I_box ?_; first
 | refine W_boxA rfl rfl rfl rfl rfl ?_
 | refine W_box1 (v := .slice _ _ _) rfl rfl rfl rfl rfl ?_
 | refine W_box1 (v := .int _ _) rfl rfl rfl rfl rfl ?_
 | refine W_box1 (v := .bool _) rfl rfl rfl rfl rfl ?_
 | refine W_box1 (v := .ptr _ _) rfl rfl rfl rfl rfl ?_
 | refine W_skip rfl ?_)
 | (refine I_store ?_; first
 | refine W_store (cs' := [_, _, _, _]) rfl rfl rfl rfl (by first | exact Nat.zero_le _ | omega) rfl rfl rfl ?_
 | refine W_store (cs' := [_, _, _, _, _, _]) rfl rfl rfl rfl (by first | exact Nat.zero_le _ | omega) rfl rfl rfl ?_
 | refine W_store (cs' := [_, _, _, _, _, _, _, _]) rfl rfl rfl rfl (by first | exact Nat.zero_le _ | omega) rfl rfl rfl ?_
 | refine W_skip0 rfl ?_)
 | refine W_not rfl rfl rfl ?_
 | (refine W_eqlB rfl rfl rfl rfl ?_)
 | (refine W_neqB rfl rfl rfl rfl ?_)
 | refine W_lenS0 rfl rfl rfl ?_
 | refine W_lenM rfl rfl rfl ?_
 | refine W_lenS rfl rfl rfl ?_
 | refine W_lenR rfl rfl rfl ?_
 | refine W_faddr rfl rfl rfl ?_
 | refine W_faddrE rfl rfl rfl ?_
 | refine W_faddrM rfl rfl ?_
 | refine W_alloc rfl rfl ?_
 | refine W_skip rfl ?_
 | refine W_iaddr rfl rfl rfl rfl (by first | rfl | exact sz_of (by assumption) (by omega)) (by first | decide | (simp only [List.length_map]; omega)) ?_
 | refine W_iaddrRN rfl rfl rfl rfl rfl (by decide) ?_
 | refine W_iaddrR rfl rfl rfl rfl (by first | decide | omega) ?_
 | refine W_skip rfl ?_
 | refine WS_nil ?_)
 | refine WC_seq ?_
 | refine WC_opsS ?_
 | refine WC_drawS ?_
 | refine WC_skip ?_
 | refine WC_condT rfl ?_
 | refine WC_condF rfl ?_
 | refine WC_block ?_
 | refine WC_exit ?_
 | refine WC_ret ?_
 | refine okF_intro rfl ?_)
      all_goals first | exact fin_bool (.inr rfl) rfl rfl | (exfalso; omega)
    · rw [decide_eq_false hf'] at hFew
      repeat' (first
 | (refine I_WS ?_; first
 | refine W_lenM rfl rfl rfl ?_
 | (refine I_mov ?_; first
 | refine W_skip rfl ?_
 | refine W_mov (v := .int _ _) rfl rfl rfl ?_
 | refine W_mov (v := .bool _) rfl rfl rfl ?_
 | refine W_mov (v := .slice _ _ _) rfl rfl rfl ?_
 | refine W_mov (v := .agg _) rfl rfl rfl ?_
 | refine W_mov (v := .ptr _ _) rfl rfl rfl ?_
 | refine W_mov (v := .func _ _) rfl rfl rfl ?_
 | refine W_mov (v := .eptr _ _ _ _) rfl rfl rfl ?_
 | refine W_mov (v := .rs _ _ _ _ _) rfl rfl rfl ?_
 | refine W_mov (v := .tuple _) rfl rfl rfl ?_
 | refine W_mov (v := .map _) rfl rfl rfl ?_
 | refine W_mov (v := .str _) rfl rfl rfl ?_
 | refine W_mov (v := .nilptr) rfl rfl rfl ?_)
 | (refine I_bin ?_; first
 | refine W_skip rfl ?_
 | refine W_lssT rfl rfl rfl rfl (by omega) ?_
 | refine W_lssF rfl rfl rfl rfl (by omega) ?_
 | (refine W_lss rfl rfl rfl rfl ?_ ?_ <;> intro _)
 | refine W_leqT rfl rfl rfl rfl (by omega) ?_
 | refine W_leqF rfl rfl rfl rfl (by omega) ?_
 | (refine W_leq rfl rfl rfl rfl ?_ ?_ <;> intro _)
 | refine W_gtrT rfl rfl rfl rfl (by omega) ?_
 | refine W_gtrF rfl rfl rfl rfl (by omega) ?_
 | (refine W_gtr rfl rfl rfl rfl ?_ ?_ <;> intro _)
 | refine W_eqlT rfl rfl rfl rfl (by omega) ?_
 | refine W_eqlF rfl rfl rfl rfl (by omega) ?_
 | (refine W_eql rfl rfl rfl rfl ?_ ?_ <;> intro _)
 | refine W_neqT rfl rfl rfl rfl (by omega) ?_
 | refine W_neqF rfl rfl rfl rfl (by omega) ?_
 | (refine W_neq rfl rfl rfl rfl ?_ ?_ <;> intro _)
 | refine W_add rfl rfl rfl rfl (by first | exact w64 (by omega) | rfl) ?_
 | refine W_sub rfl rfl rfl rfl (by first | exact w64 (by omega) | rfl) ?_)
 | (refine I_load ?_; first
 | refine W_skip rfl ?_
 | refine W_load (agg := false) (d := .int _ _) rfl rfl rfl rfl (by first | exact Nat.zero_le _ | omega) rfl ?_
 | refine W_load (agg := false) (d := .bool _) rfl rfl rfl rfl (by first | exact Nat.zero_le _ | omega) rfl ?_
 | refine W_load (agg := false) (d := .slice _ _ _) rfl rfl rfl rfl (by first | exact Nat.zero_le _ | omega) rfl ?_
 | refine W_load (agg := false) (d := .ptr _ _) rfl rfl rfl rfl (by first | exact Nat.zero_le _ | omega) rfl ?_
 | refine W_load (agg := false) (d := .func _ _) rfl rfl rfl rfl (by first | exact Nat.zero_le _ | omega) rfl ?_
 | refine W_load (agg := true) (d := .agg [_, _, _, _]) rfl rfl rfl rfl (by first | exact Nat.zero_le _ | omega) rfl ?_
 | refine W_load (agg := true) (d := .agg [_, _, _, _, _, _]) rfl rfl rfl rfl (by first | exact Nat.zero_le _ | omega) rfl ?_
 | refine W_load (agg := true) (d := .agg [_, _, _, _, _, _, _, _]) rfl rfl rfl rfl (by first | exact Nat.zero_le _ | omega) rfl ?_)
 | (refine I_call ?_; first
 | refine W_skip rfl ?_
 | refine W_call rfl rfl rfl s_small rfl rfl ?_
 | refine W_call rfl rfl rfl hFew rfl rfl ?_)
 | (refine I_pick ?_; first
 | refine W_pick (v := .int _ _) rfl rfl rfl rfl ?_
 | refine W_pick (v := .bool _) rfl rfl rfl rfl ?_
 | refine W_pick (v := .slice _ _ _) rfl rfl rfl rfl ?_
 | refine W_pick (v := .agg _) rfl rfl rfl rfl ?_
 | refine W_skip rfl ?_)
 | (refine I_extract ?_; first
 | refine W_extract (d := .int _ _) rfl rfl rfl rfl ?_
 | refine W_extract (d := .bool _) rfl rfl rfl rfl ?_
 | refine W_extract (d := .slice _ _ _) rfl rfl rfl rfl ?_
 | refine W_extract (d := .agg _) rfl rfl rfl rfl ?_
 | refine W_extract (d := .ptr _ _) rfl rfl rfl rfl ?_
 | refine W_extract (d := .func _ _) rfl rfl rfl rfl ?_
 | refine W_skip rfl ?_)
 | (refine I_box ?_; first
 | refine W_boxA rfl rfl rfl rfl rfl ?_
 | refine W_box1 (v := .slice _ _ _) rfl rfl rfl rfl rfl ?_
 | refine W_box1 (v := .int _ _) rfl rfl rfl rfl rfl ?_
 | refine W_box1 (v := .bool _) rfl rfl rfl rfl rfl ?_
 | refine W_box1 (v := .ptr _ _) rfl rfl rfl rfl rfl ?_
 | refine W_skip rfl ?_)
 | (refine I_store ?_; first
 | refine W_store (cs' := [_, _, _, _]) rfl rfl rfl rfl (by first | exact Nat.zero_le _ | omega) rfl rfl rfl ?_
 | refine W_store (cs' := [_, _, _, _, _, _]) rfl rfl rfl rfl (by first | exact Nat.zero_le _ | omega) rfl rfl rfl ?_
 | refine W_store (cs' := [_, _, _, _, _, _, _, _]) rfl rfl rfl rfl (by first | exact Nat.zero_le _ | omega) rfl rfl rfl ?_
 | refine W_skip0 rfl ?_)
 | refine W_not rfl rfl rfl ?_
 | (refine W_eqlB rfl rfl rfl rfl ?_)
 | (refine W_neqB rfl rfl rfl rfl ?_)
 | refine W_lenS0 rfl rfl rfl ?_
 | refine W_lenM rfl rfl rfl ?_
 | refine W_lenS rfl rfl rfl ?_
 | refine W_lenR rfl rfl rfl ?_
 | refine W_faddr rfl rfl rfl ?_
 | refine W_faddrE rfl rfl rfl ?_
 | refine W_faddrM rfl rfl ?_
 | refine W_alloc rfl rfl ?_
 | refine W_skip rfl ?_
 | refine W_iaddr rfl rfl rfl rfl (by first | rfl | exact sz_of (by assumption) (by omega)) (by first | decide | (simp only [List.length_map]; omega)) ?_
 | refine W_iaddrRN rfl rfl rfl rfl rfl (by decide) ?_
 | refine W_iaddrR rfl rfl rfl rfl (by first | decide | omega) ?_
 | refine W_skip rfl ?_
 | refine WS_nil ?_)
 | refine WC_seq ?_
 | refine WC_opsS ?_
 | refine WC_drawS ?_
 | refine WC_skip ?_
 | refine WC_condT rfl ?_
 | refine WC_condF rfl ?_
 | refine WC_block ?_
 | refine WC_exit ?_
 | refine WC_ret ?_
 | refine okF_intro rfl ?_)
      all_goals first | exact fin_bool (.inr rfl) rfl rfl
end Go.Vie
