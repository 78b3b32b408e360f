/-
  What the heap's functions come to: one more is laid; the first one is taken.
-/
import Derived.Test.YtbmhgigljbikhaaHeaHeaU
set_option linter.unusedVariables false
set_option linter.unusedSimpArgs false
set_option linter.unnecessarySimpa false
namespace Go.Hea
open Go.Ev
set_option linter.unusedVariables false
set_option linter.unusedSimpArgs false
theorem quo2 (k : Nat) (h : k ≤ 1073741824) : IntKind.i64.wrap ((k : Int).tdiv 2) = ((k / 2 : Nat) : Int) := by
  have e : (k : Int).tdiv 2 = ((k / 2 : Nat) : Int) := rfl
  rw [e]
  exact w64 (by omega)
theorem l_up (h : Nat) (o : Option Nat) (Q : X → (Nat → D) → Store → Prop) : ∀ (m k : Nat) (xs : List Rd) (st : Store) (ρ : Nat → D), k ≤ m → k < xs.length → xs.length ≤ 1073741824 → HW st h o xs → hpu k xs → ρ 0 = .ptr h 0 → ρ 4 = .int .i64 k →
    (∀ ρ' st' ys, HW st' h o ys → hp ys → ys.Perm xs → Fr st st' h o o → Q .normal ρ' st') →
    WC Γ c_heap_Heap_Push_r0 ρ st (fun x ρ1 st1 => match x with | .goto l' => l' = 0 ∧ WC Γ (.again 0 c_heap_Heap_Push_r0) ρ1 st1 Q | x => Q x ρ1 st1) := by
  intro m
  induction m with
  | zero =>
    intro k xs st ρ hm hk hx hH hU h0 h4 hQ
    have hk0 : k = 0 := by omega
    subst hk0
    have h4' : ρ 4 = .int .i64 0 := h4
    rw [← upd_self h0, ← upd_self h4']
    unfold c_heap_Heap_Push_r0
    repeat' (first
    | (refine I_WS ?_; first
      | (refine I_mov ?_; first
          | refine W_skip rfl ?_
          | refine W_mov (v := .int _ _) rfl rfl rfl ?_
          | refine W_mov (v := .bool _) rfl rfl rfl ?_
          | refine W_mov (v := .slice _ _ _) rfl rfl rfl ?_
          | refine W_mov (v := .agg _) rfl rfl rfl ?_
          | refine W_mov (v := .ptr _ _) rfl rfl rfl ?_
          | refine W_mov (v := .func _ _) rfl rfl rfl ?_
          | refine W_mov (v := .eptr _ _ _ _) rfl rfl rfl ?_
          | refine W_mov (v := .rs _ _ _ _ _) rfl rfl rfl ?_
          | refine W_mov (v := .tuple _) rfl rfl rfl ?_
          | refine W_mov (v := .map _) rfl rfl rfl ?_
          | refine W_mov (v := .str _) rfl rfl rfl ?_
          | refine W_mov (v := .nilptr) rfl rfl rfl ?_)
      | (refine I_bin ?_; first
          | refine W_skip rfl ?_
          | refine W_gtrT rfl rfl rfl rfl (by omega) ?_
          | refine W_gtrF rfl rfl rfl rfl (by omega) ?_
          | (refine W_gtr rfl rfl rfl rfl ?_ ?_ <;> intro _)
          | refine W_sub rfl rfl rfl rfl (by first | exact w64 (by omega) | rfl) ?_
          | refine W_quo rfl rfl rfl rfl (by omega) rfl ?_)
      | (refine I_load ?_; first
          | refine W_skip rfl ?_
          | refine W_load (agg := false) (d := .int _ _) rfl rfl rfl rfl (by first | exact Nat.zero_le _ | omega) rfl ?_
          | refine W_load (agg := false) (d := .bool _) rfl rfl rfl rfl (by first | exact Nat.zero_le _ | omega) rfl ?_
          | refine W_load (agg := false) (d := .slice _ _ _) rfl rfl rfl rfl (by first | exact Nat.zero_le _ | omega) rfl ?_
          | refine W_load (agg := false) (d := .ptr _ _) rfl rfl rfl rfl (by first | exact Nat.zero_le _ | omega) rfl ?_
          | refine W_load (agg := false) (d := .func _ _) rfl rfl rfl rfl (by first | exact Nat.zero_le _ | omega) rfl ?_
          | refine W_load (agg := true) (d := .agg [_, _]) rfl rfl rfl rfl (by first | exact Nat.zero_le _ | omega) rfl ?_)
      | (refine I_call ?_; first
          | refine W_skip rfl ?_)
      | (refine I_pick ?_; first
          | refine W_pick (v := .int _ _) rfl rfl rfl rfl ?_
          | refine W_pick (v := .bool _) rfl rfl rfl rfl ?_
          | refine W_pick (v := .slice _ _ _) rfl rfl rfl rfl ?_
          | refine W_pick (v := .agg _) rfl rfl rfl rfl ?_
          | refine W_skip rfl ?_)
      | (refine I_box ?_; first
          | refine W_boxA rfl rfl rfl rfl rfl ?_
          | refine W_box1 (v := .slice _ _ _) rfl rfl rfl rfl rfl ?_
          | refine W_box1 (v := .int _ _) rfl rfl rfl rfl rfl ?_
          | refine W_box1 (v := .bool _) rfl rfl rfl rfl rfl ?_
          | refine W_box1 (v := .ptr _ _) rfl rfl rfl rfl rfl ?_
          | refine W_skip rfl ?_)
      | (refine I_store ?_; first
          | refine W_store (cs' := [_, _]) rfl rfl rfl rfl (by first | exact Nat.zero_le _ | omega) rfl rfl rfl ?_
          | refine W_skip0 rfl ?_)
      | refine W_lenS0 rfl rfl rfl ?_
      | refine W_lenM rfl rfl rfl ?_
      | refine W_lenS rfl rfl rfl ?_
      | refine W_lenR rfl rfl rfl ?_
      | refine W_faddr rfl rfl rfl ?_
      | refine W_faddrE rfl rfl rfl ?_
      | refine W_nilCheckM rfl rfl ?_
      | refine W_nilCheckE rfl rfl rfl ?_
      | refine W_nilCheckF rfl rfl rfl ?_
      | refine W_faddrM rfl rfl ?_
      | refine W_bsliceS (ds := [.slice _ _ _]) (ys := [.slice _ _ _]) rfl rfl rfl rfl (by decide) rfl ?_
      | refine W_bsliceS (ds := [.slice _ _ _, .slice _ _ _]) (ys := [.slice _ _ _, .slice _ _ _]) rfl rfl rfl rfl (by decide) rfl ?_
      | refine W_bsliceS (ds := [.slice _ _ _, .slice _ _ _, .slice _ _ _]) (ys := [.slice _ _ _, .slice _ _ _, .slice _ _ _]) rfl rfl rfl rfl (by decide) rfl ?_
      | refine W_bslice (ys := []) rfl rfl rfl (by decide) rfl ?_
      | refine W_bslice (ys := [_]) rfl rfl rfl (by decide) rfl ?_
      | refine W_bslice (ys := [_, _]) rfl rfl rfl (by decide) rfl ?_
      | refine W_bslice (ys := [_, _, _]) rfl rfl rfl (by decide) rfl ?_
      | refine W_skip rfl ?_
      | refine WS_nil ?_)
    | refine WC_seq ?_
    | refine WC_opsS ?_
    | refine WC_drawS ?_
    | refine WC_skip ?_
    | refine WC_condT rfl ?_
    | refine WC_condF rfl ?_
    | refine WC_ret ?_
    | refine WC_goto ?_
    | refine okF_intro rfl ?_)
    exact hQ _ _ xs hH (up_same hU (.inl rfl)) (List.Perm.refl _) (Fr.refl _ _ _)
  | succ m ih =>
    intro k xs st ρ hm hk hx hH hU h0 h4 hQ
    cases k with
    | zero =>
      have h4' : ρ 4 = .int .i64 0 := h4
      rw [← upd_self h0, ← upd_self h4']
      unfold c_heap_Heap_Push_r0
      repeat' (first
    | (refine I_WS ?_; first
      | (refine I_mov ?_; first
          | refine W_skip rfl ?_
          | refine W_mov (v := .int _ _) rfl rfl rfl ?_
          | refine W_mov (v := .bool _) rfl rfl rfl ?_
          | refine W_mov (v := .slice _ _ _) rfl rfl rfl ?_
          | refine W_mov (v := .agg _) rfl rfl rfl ?_
          | refine W_mov (v := .ptr _ _) rfl rfl rfl ?_
          | refine W_mov (v := .func _ _) rfl rfl rfl ?_
          | refine W_mov (v := .eptr _ _ _ _) rfl rfl rfl ?_
          | refine W_mov (v := .rs _ _ _ _ _) rfl rfl rfl ?_
          | refine W_mov (v := .tuple _) rfl rfl rfl ?_
          | refine W_mov (v := .map _) rfl rfl rfl ?_
          | refine W_mov (v := .str _) rfl rfl rfl ?_
          | refine W_mov (v := .nilptr) rfl rfl rfl ?_)
      | (refine I_bin ?_; first
          | refine W_skip rfl ?_
          | refine W_gtrT rfl rfl rfl rfl (by omega) ?_
          | refine W_gtrF rfl rfl rfl rfl (by omega) ?_
          | (refine W_gtr rfl rfl rfl rfl ?_ ?_ <;> intro _)
          | refine W_sub rfl rfl rfl rfl (by first | exact w64 (by omega) | rfl) ?_
          | refine W_quo rfl rfl rfl rfl (by omega) rfl ?_)
      | (refine I_load ?_; first
          | refine W_skip rfl ?_
          | refine W_load (agg := false) (d := .int _ _) rfl rfl rfl rfl (by first | exact Nat.zero_le _ | omega) rfl ?_
          | refine W_load (agg := false) (d := .bool _) rfl rfl rfl rfl (by first | exact Nat.zero_le _ | omega) rfl ?_
          | refine W_load (agg := false) (d := .slice _ _ _) rfl rfl rfl rfl (by first | exact Nat.zero_le _ | omega) rfl ?_
          | refine W_load (agg := false) (d := .ptr _ _) rfl rfl rfl rfl (by first | exact Nat.zero_le _ | omega) rfl ?_
          | refine W_load (agg := false) (d := .func _ _) rfl rfl rfl rfl (by first | exact Nat.zero_le _ | omega) rfl ?_
          | refine W_load (agg := true) (d := .agg [_, _]) rfl rfl rfl rfl (by first | exact Nat.zero_le _ | omega) rfl ?_)
      | (refine I_call ?_; first
          | refine W_skip rfl ?_)
      | (refine I_pick ?_; first
          | refine W_pick (v := .int _ _) rfl rfl rfl rfl ?_
          | refine W_pick (v := .bool _) rfl rfl rfl rfl ?_
          | refine W_pick (v := .slice _ _ _) rfl rfl rfl rfl ?_
          | refine W_pick (v := .agg _) rfl rfl rfl rfl ?_
          | refine W_skip rfl ?_)
      | (refine I_box ?_; first
          | refine W_boxA rfl rfl rfl rfl rfl ?_
          | refine W_box1 (v := .slice _ _ _) rfl rfl rfl rfl rfl ?_
          | refine W_box1 (v := .int _ _) rfl rfl rfl rfl rfl ?_
          | refine W_box1 (v := .bool _) rfl rfl rfl rfl rfl ?_
          | refine W_box1 (v := .ptr _ _) rfl rfl rfl rfl rfl ?_
          | refine W_skip rfl ?_)
      | (refine I_store ?_; first
          | refine W_store (cs' := [_, _]) rfl rfl rfl rfl (by first | exact Nat.zero_le _ | omega) rfl rfl rfl ?_
          | refine W_skip0 rfl ?_)
      | refine W_lenS0 rfl rfl rfl ?_
      | refine W_lenM rfl rfl rfl ?_
      | refine W_lenS rfl rfl rfl ?_
      | refine W_lenR rfl rfl rfl ?_
      | refine W_faddr rfl rfl rfl ?_
      | refine W_faddrE rfl rfl rfl ?_
      | refine W_nilCheckM rfl rfl ?_
      | refine W_nilCheckE rfl rfl rfl ?_
      | refine W_nilCheckF rfl rfl rfl ?_
      | refine W_faddrM rfl rfl ?_
      | refine W_bsliceS (ds := [.slice _ _ _]) (ys := [.slice _ _ _]) rfl rfl rfl rfl (by decide) rfl ?_
      | refine W_bsliceS (ds := [.slice _ _ _, .slice _ _ _]) (ys := [.slice _ _ _, .slice _ _ _]) rfl rfl rfl rfl (by decide) rfl ?_
      | refine W_bsliceS (ds := [.slice _ _ _, .slice _ _ _, .slice _ _ _]) (ys := [.slice _ _ _, .slice _ _ _, .slice _ _ _]) rfl rfl rfl rfl (by decide) rfl ?_
      | refine W_bslice (ys := []) rfl rfl rfl (by decide) rfl ?_
      | refine W_bslice (ys := [_]) rfl rfl rfl (by decide) rfl ?_
      | refine W_bslice (ys := [_, _]) rfl rfl rfl (by decide) rfl ?_
      | refine W_bslice (ys := [_, _, _]) rfl rfl rfl (by decide) rfl ?_
      | refine W_skip rfl ?_
      | refine WS_nil ?_)
    | refine WC_seq ?_
    | refine WC_opsS ?_
    | refine WC_drawS ?_
    | refine WC_skip ?_
    | refine WC_condT rfl ?_
    | refine WC_condF rfl ?_
    | refine WC_ret ?_
    | refine WC_goto ?_
    | refine okF_intro rfl ?_)
      exact hQ _ _ xs hH (up_same hU (.inl rfl)) (List.Perm.refl _) (Fr.refl _ _ _)
    | succ k =>
      have hak : k / 2 < xs.length := by omega
      have ha := s_ahead' hH hx hk hak
      have h4' : ρ 4 = .int .i64 ((k : Int) + 1) := h4
      have hsub : IntKind.i64.wrap ((k : Int) + 1 - 1) = (k : Int) := by rw [Int.add_sub_cancel]; exact w64 (by omega)
      have hpar : (k + 1 - 1) / 2 = k / 2 := by omega
      rw [← upd_self h0, ← upd_self h4']
      unfold c_heap_Heap_Push_r0
      by_cases hlt : (atR xs (k + 1)).lt (atR xs (k / 2))
      · have hsw := swp_hw hx hH hk hak
        have hU' := up_step hU hk (by omega) (by rw [hpar]; exact hlt)
        rw [hpar] at hU'
        rw [decide_eq_true hlt] at ha
        repeat' (first
    | (refine I_WS ?_; first
      | refine W_sub rfl rfl rfl rfl hsub ?_
      | refine W_quo rfl rfl rfl rfl (by omega) (quo2 k (by omega)) ?_
      | (refine I_mov ?_; first
          | refine W_skip rfl ?_
          | refine W_mov (v := .int _ _) rfl rfl rfl ?_
          | refine W_mov (v := .bool _) rfl rfl rfl ?_
          | refine W_mov (v := .slice _ _ _) rfl rfl rfl ?_
          | refine W_mov (v := .agg _) rfl rfl rfl ?_
          | refine W_mov (v := .ptr _ _) rfl rfl rfl ?_
          | refine W_mov (v := .func _ _) rfl rfl rfl ?_
          | refine W_mov (v := .eptr _ _ _ _) rfl rfl rfl ?_
          | refine W_mov (v := .rs _ _ _ _ _) rfl rfl rfl ?_
          | refine W_mov (v := .tuple _) rfl rfl rfl ?_
          | refine W_mov (v := .map _) rfl rfl rfl ?_
          | refine W_mov (v := .str _) rfl rfl rfl ?_
          | refine W_mov (v := .nilptr) rfl rfl rfl ?_)
      | (refine I_bin ?_; first
          | refine W_skip rfl ?_
          | refine W_gtrT rfl rfl rfl rfl (by omega) ?_
          | refine W_gtrF rfl rfl rfl rfl (by omega) ?_
          | (refine W_gtr rfl rfl rfl rfl ?_ ?_ <;> intro _)
          | refine W_sub rfl rfl rfl rfl (by first | exact w64 (by omega) | rfl) ?_
          | refine W_quo rfl rfl rfl rfl (by omega) rfl ?_)
      | (refine I_load ?_; first
          | refine W_skip rfl ?_
          | refine W_load (agg := false) (d := .int _ _) rfl rfl rfl rfl (by first | exact Nat.zero_le _ | omega) rfl ?_
          | refine W_load (agg := false) (d := .bool _) rfl rfl rfl rfl (by first | exact Nat.zero_le _ | omega) rfl ?_
          | refine W_load (agg := false) (d := .slice _ _ _) rfl rfl rfl rfl (by first | exact Nat.zero_le _ | omega) rfl ?_
          | refine W_load (agg := false) (d := .ptr _ _) rfl rfl rfl rfl (by first | exact Nat.zero_le _ | omega) rfl ?_
          | refine W_load (agg := false) (d := .func _ _) rfl rfl rfl rfl (by first | exact Nat.zero_le _ | omega) rfl ?_
          | refine W_load (agg := true) (d := .agg [_, _]) rfl rfl rfl rfl (by first | exact Nat.zero_le _ | omega) rfl ?_)
      | (refine I_call ?_; first
          | refine W_skip rfl ?_
          | refine W_callRO rfl rfl rfl ha rfl rfl ?_
          | (refine W_callRWX rfl rfl rfl hsw ?_ <;> intro r1 st1 hp1))
      | (refine I_pick ?_; first
          | refine W_pick (v := .int _ _) rfl rfl rfl rfl ?_
          | refine W_pick (v := .bool _) rfl rfl rfl rfl ?_
          | refine W_pick (v := .slice _ _ _) rfl rfl rfl rfl ?_
          | refine W_pick (v := .agg _) rfl rfl rfl rfl ?_
          | refine W_skip rfl ?_)
      | (refine I_box ?_; first
          | refine W_boxA rfl rfl rfl rfl rfl ?_
          | refine W_box1 (v := .slice _ _ _) rfl rfl rfl rfl rfl ?_
          | refine W_box1 (v := .int _ _) rfl rfl rfl rfl rfl ?_
          | refine W_box1 (v := .bool _) rfl rfl rfl rfl rfl ?_
          | refine W_box1 (v := .ptr _ _) rfl rfl rfl rfl rfl ?_
          | refine W_skip rfl ?_)
      | (refine I_store ?_; first
          | refine W_store (cs' := [_, _]) rfl rfl rfl rfl (by first | exact Nat.zero_le _ | omega) rfl rfl rfl ?_
          | refine W_skip0 rfl ?_)
      | refine W_lenS0 rfl rfl rfl ?_
      | refine W_lenM rfl rfl rfl ?_
      | refine W_lenS rfl rfl rfl ?_
      | refine W_lenR rfl rfl rfl ?_
      | refine W_faddr rfl rfl rfl ?_
      | refine W_faddrE rfl rfl rfl ?_
      | refine W_nilCheckM rfl rfl ?_
      | refine W_nilCheckE rfl rfl rfl ?_
      | refine W_nilCheckF rfl rfl rfl ?_
      | refine W_faddrM rfl rfl ?_
      | refine W_bsliceS (ds := [.slice _ _ _]) (ys := [.slice _ _ _]) rfl rfl rfl rfl (by decide) rfl ?_
      | refine W_bsliceS (ds := [.slice _ _ _, .slice _ _ _]) (ys := [.slice _ _ _, .slice _ _ _]) rfl rfl rfl rfl (by decide) rfl ?_
      | refine W_bsliceS (ds := [.slice _ _ _, .slice _ _ _, .slice _ _ _]) (ys := [.slice _ _ _, .slice _ _ _, .slice _ _ _]) rfl rfl rfl rfl (by decide) rfl ?_
      | refine W_bslice (ys := []) rfl rfl rfl (by decide) rfl ?_
      | refine W_bslice (ys := [_]) rfl rfl rfl (by decide) rfl ?_
      | refine W_bslice (ys := [_, _]) rfl rfl rfl (by decide) rfl ?_
      | refine W_bslice (ys := [_, _, _]) rfl rfl rfl (by decide) rfl ?_
      | refine W_skip rfl ?_
      | refine WS_nil ?_)
    | refine WC_seq ?_
    | refine WC_opsS ?_
    | refine WC_drawS ?_
    | refine WC_skip ?_
    | refine WC_condT rfl ?_
    | refine WC_condF rfl ?_
    | refine WC_ret ?_
    | refine WC_goto ?_
    | refine okF_intro rfl ?_)
        obtain ⟨rfl, hH1, hF1⟩ := hp1
        repeat' (first
    | (refine I_WS ?_; first
      | (refine I_mov ?_; first
          | refine W_skip rfl ?_
          | refine W_mov (v := .int _ _) rfl rfl rfl ?_
          | refine W_mov (v := .bool _) rfl rfl rfl ?_
          | refine W_mov (v := .slice _ _ _) rfl rfl rfl ?_
          | refine W_mov (v := .agg _) rfl rfl rfl ?_
          | refine W_mov (v := .ptr _ _) rfl rfl rfl ?_
          | refine W_mov (v := .func _ _) rfl rfl rfl ?_
          | refine W_mov (v := .eptr _ _ _ _) rfl rfl rfl ?_
          | refine W_mov (v := .rs _ _ _ _ _) rfl rfl rfl ?_
          | refine W_mov (v := .tuple _) rfl rfl rfl ?_
          | refine W_mov (v := .map _) rfl rfl rfl ?_
          | refine W_mov (v := .str _) rfl rfl rfl ?_
          | refine W_mov (v := .nilptr) rfl rfl rfl ?_)
      | (refine I_bin ?_; first
          | refine W_skip rfl ?_
          | refine W_gtrT rfl rfl rfl rfl (by omega) ?_
          | refine W_gtrF rfl rfl rfl rfl (by omega) ?_
          | (refine W_gtr rfl rfl rfl rfl ?_ ?_ <;> intro _)
          | refine W_sub rfl rfl rfl rfl (by first | exact w64 (by omega) | rfl) ?_
          | refine W_quo rfl rfl rfl rfl (by omega) rfl ?_)
      | (refine I_load ?_; first
          | refine W_skip rfl ?_
          | refine W_load (agg := false) (d := .int _ _) rfl rfl rfl rfl (by first | exact Nat.zero_le _ | omega) rfl ?_
          | refine W_load (agg := false) (d := .bool _) rfl rfl rfl rfl (by first | exact Nat.zero_le _ | omega) rfl ?_
          | refine W_load (agg := false) (d := .slice _ _ _) rfl rfl rfl rfl (by first | exact Nat.zero_le _ | omega) rfl ?_
          | refine W_load (agg := false) (d := .ptr _ _) rfl rfl rfl rfl (by first | exact Nat.zero_le _ | omega) rfl ?_
          | refine W_load (agg := false) (d := .func _ _) rfl rfl rfl rfl (by first | exact Nat.zero_le _ | omega) rfl ?_
          | refine W_load (agg := true) (d := .agg [_, _]) rfl rfl rfl rfl (by first | exact Nat.zero_le _ | omega) rfl ?_)
      | (refine I_call ?_; first
          | refine W_skip rfl ?_)
      | (refine I_pick ?_; first
          | refine W_pick (v := .int _ _) rfl rfl rfl rfl ?_
          | refine W_pick (v := .bool _) rfl rfl rfl rfl ?_
          | refine W_pick (v := .slice _ _ _) rfl rfl rfl rfl ?_
          | refine W_pick (v := .agg _) rfl rfl rfl rfl ?_
          | refine W_skip rfl ?_)
      | (refine I_box ?_; first
          | refine W_boxA rfl rfl rfl rfl rfl ?_
          | refine W_box1 (v := .slice _ _ _) rfl rfl rfl rfl rfl ?_
          | refine W_box1 (v := .int _ _) rfl rfl rfl rfl rfl ?_
          | refine W_box1 (v := .bool _) rfl rfl rfl rfl rfl ?_
          | refine W_box1 (v := .ptr _ _) rfl rfl rfl rfl rfl ?_
          | refine W_skip rfl ?_)
      | (refine I_store ?_; first
          | refine W_store (cs' := [_, _]) rfl rfl rfl rfl (by first | exact Nat.zero_le _ | omega) rfl rfl rfl ?_
          | refine W_skip0 rfl ?_)
      | refine W_lenS0 rfl rfl rfl ?_
      | refine W_lenM rfl rfl rfl ?_
      | refine W_lenS rfl rfl rfl ?_
      | refine W_lenR rfl rfl rfl ?_
      | refine W_faddr rfl rfl rfl ?_
      | refine W_faddrE rfl rfl rfl ?_
      | refine W_nilCheckM rfl rfl ?_
      | refine W_nilCheckE rfl rfl rfl ?_
      | refine W_nilCheckF rfl rfl rfl ?_
      | refine W_faddrM rfl rfl ?_
      | refine W_bsliceS (ds := [.slice _ _ _]) (ys := [.slice _ _ _]) rfl rfl rfl rfl (by decide) rfl ?_
      | refine W_bsliceS (ds := [.slice _ _ _, .slice _ _ _]) (ys := [.slice _ _ _, .slice _ _ _]) rfl rfl rfl rfl (by decide) rfl ?_
      | refine W_bsliceS (ds := [.slice _ _ _, .slice _ _ _, .slice _ _ _]) (ys := [.slice _ _ _, .slice _ _ _, .slice _ _ _]) rfl rfl rfl rfl (by decide) rfl ?_
      | refine W_bslice (ys := []) rfl rfl rfl (by decide) rfl ?_
      | refine W_bslice (ys := [_]) rfl rfl rfl (by decide) rfl ?_
      | refine W_bslice (ys := [_, _]) rfl rfl rfl (by decide) rfl ?_
      | refine W_bslice (ys := [_, _, _]) rfl rfl rfl (by decide) rfl ?_
      | refine W_skip rfl ?_
      | refine WS_nil ?_)
    | refine WC_seq ?_
    | refine WC_opsS ?_
    | refine WC_drawS ?_
    | refine WC_skip ?_
    | refine WC_condT rfl ?_
    | refine WC_condF rfl ?_
    | refine WC_ret ?_
    | refine WC_goto ?_
    | refine okF_intro rfl ?_)
        refine ⟨rfl, WC_again ?_⟩
        refine ih (k / 2) _ st1 _ (by omega) (by rw [swp_len]; omega) (by rw [swp_len]; exact hx) hH1 hU' rfl rfl (fun ρ' st' ys a b c d => ?_)
        exact hQ ρ' st' ys a b (c.trans (swp_perm hk hak)) (hF1.trans d)
      · rw [decide_eq_false hlt] at ha
        repeat' (first
    | (refine I_WS ?_; first
      | refine W_sub rfl rfl rfl rfl hsub ?_
      | refine W_quo rfl rfl rfl rfl (by omega) (quo2 k (by omega)) ?_
      | (refine I_mov ?_; first
          | refine W_skip rfl ?_
          | refine W_mov (v := .int _ _) rfl rfl rfl ?_
          | refine W_mov (v := .bool _) rfl rfl rfl ?_
          | refine W_mov (v := .slice _ _ _) rfl rfl rfl ?_
          | refine W_mov (v := .agg _) rfl rfl rfl ?_
          | refine W_mov (v := .ptr _ _) rfl rfl rfl ?_
          | refine W_mov (v := .func _ _) rfl rfl rfl ?_
          | refine W_mov (v := .eptr _ _ _ _) rfl rfl rfl ?_
          | refine W_mov (v := .rs _ _ _ _ _) rfl rfl rfl ?_
          | refine W_mov (v := .tuple _) rfl rfl rfl ?_
          | refine W_mov (v := .map _) rfl rfl rfl ?_
          | refine W_mov (v := .str _) rfl rfl rfl ?_
          | refine W_mov (v := .nilptr) rfl rfl rfl ?_)
      | (refine I_bin ?_; first
          | refine W_skip rfl ?_
          | refine W_gtrT rfl rfl rfl rfl (by omega) ?_
          | refine W_gtrF rfl rfl rfl rfl (by omega) ?_
          | (refine W_gtr rfl rfl rfl rfl ?_ ?_ <;> intro _)
          | refine W_sub rfl rfl rfl rfl (by first | exact w64 (by omega) | rfl) ?_
          | refine W_quo rfl rfl rfl rfl (by omega) rfl ?_)
      | (refine I_load ?_; first
          | refine W_skip rfl ?_
          | refine W_load (agg := false) (d := .int _ _) rfl rfl rfl rfl (by first | exact Nat.zero_le _ | omega) rfl ?_
          | refine W_load (agg := false) (d := .bool _) rfl rfl rfl rfl (by first | exact Nat.zero_le _ | omega) rfl ?_
          | refine W_load (agg := false) (d := .slice _ _ _) rfl rfl rfl rfl (by first | exact Nat.zero_le _ | omega) rfl ?_
          | refine W_load (agg := false) (d := .ptr _ _) rfl rfl rfl rfl (by first | exact Nat.zero_le _ | omega) rfl ?_
          | refine W_load (agg := false) (d := .func _ _) rfl rfl rfl rfl (by first | exact Nat.zero_le _ | omega) rfl ?_
          | refine W_load (agg := true) (d := .agg [_, _]) rfl rfl rfl rfl (by first | exact Nat.zero_le _ | omega) rfl ?_)
      | (refine I_call ?_; first
          | refine W_skip rfl ?_
          | refine W_callRO rfl rfl rfl ha rfl rfl ?_)
      | (refine I_pick ?_; first
          | refine W_pick (v := .int _ _) rfl rfl rfl rfl ?_
          | refine W_pick (v := .bool _) rfl rfl rfl rfl ?_
          | refine W_pick (v := .slice _ _ _) rfl rfl rfl rfl ?_
          | refine W_pick (v := .agg _) rfl rfl rfl rfl ?_
          | refine W_skip rfl ?_)
      | (refine I_box ?_; first
          | refine W_boxA rfl rfl rfl rfl rfl ?_
          | refine W_box1 (v := .slice _ _ _) rfl rfl rfl rfl rfl ?_
          | refine W_box1 (v := .int _ _) rfl rfl rfl rfl rfl ?_
          | refine W_box1 (v := .bool _) rfl rfl rfl rfl rfl ?_
          | refine W_box1 (v := .ptr _ _) rfl rfl rfl rfl rfl ?_
          | refine W_skip rfl ?_)
      | (refine I_store ?_; first
          | refine W_store (cs' := [_, _]) rfl rfl rfl rfl (by first | exact Nat.zero_le _ | omega) rfl rfl rfl ?_
          | refine W_skip0 rfl ?_)
      | refine W_lenS0 rfl rfl rfl ?_
      | refine W_lenM rfl rfl rfl ?_
      | refine W_lenS rfl rfl rfl ?_
      | refine W_lenR rfl rfl rfl ?_
      | refine W_faddr rfl rfl rfl ?_
      | refine W_faddrE rfl rfl rfl ?_
      | refine W_nilCheckM rfl rfl ?_
      | refine W_nilCheckE rfl rfl rfl ?_
      | refine W_nilCheckF rfl rfl rfl ?_
      | refine W_faddrM rfl rfl ?_
      | refine W_bsliceS (ds := [.slice _ _ _]) (ys := [.slice _ _ _]) rfl rfl rfl rfl (by decide) rfl ?_
      | refine W_bsliceS (ds := [.slice _ _ _, .slice _ _ _]) (ys := [.slice _ _ _, .slice _ _ _]) rfl rfl rfl rfl (by decide) rfl ?_
      | refine W_bsliceS (ds := [.slice _ _ _, .slice _ _ _, .slice _ _ _]) (ys := [.slice _ _ _, .slice _ _ _, .slice _ _ _]) rfl rfl rfl rfl (by decide) rfl ?_
      | refine W_bslice (ys := []) rfl rfl rfl (by decide) rfl ?_
      | refine W_bslice (ys := [_]) rfl rfl rfl (by decide) rfl ?_
      | refine W_bslice (ys := [_, _]) rfl rfl rfl (by decide) rfl ?_
      | refine W_bslice (ys := [_, _, _]) rfl rfl rfl (by decide) rfl ?_
      | refine W_skip rfl ?_
      | refine WS_nil ?_)
    | refine WC_seq ?_
    | refine WC_opsS ?_
    | refine WC_drawS ?_
    | refine WC_skip ?_
    | refine WC_condT rfl ?_
    | refine WC_condF rfl ?_
    | refine WC_ret ?_
    | refine WC_goto ?_
    | refine okF_intro rfl ?_)
        exact hQ _ _ xs hH (up_same hU (.inr (by rw [hpar]; exact hlt))) (List.Perm.refl _) (Fr.refl _ _ _)
def PQ (st : Store) (h : Nat) (o : Option Nat) (a : Rd) (xs : List Rd) : X → (Nat → D) → Store → Prop := fun x ρ1 st1 => (x = .normal ∨ x = .ret) ∧ ∃ r, resAll ρ1 st1 c_heap_Heap_Push.res = some r ∧ (r.strip = .tuple [] ∧ ∃ ys o', HW st1 h o' ys ∧ hp ys ∧ ys.Perm (a :: xs) ∧ Fr st st1 h o o')
theorem s_Push (xs : List Rd) (hx : xs.length ≤ 1073741823) (st : Store) (h : Nat) (o : Option Nat) (a : Rd) (hH : HW st h o xs) (hX : hp xs) :
    EvRWX Γ 16 [.ptr h 0, a.e] st (fun r st' => r = .tuple [] ∧ ∃ ys o', HW st' h o' ys ∧ hp ys ∧ ys.Perm (a :: xs) ∧ Fr st st' h o o') := by
  have hlim := hH.lim
  have hnx := hH.nx
  have hne : h ≠ st.next := Nat.ne_of_lt hnx
  have hel : ∀ d ∈ [a.e], Elem 2 d := by intro d hd; rw [List.mem_singleton.mp hd]; exact ⟨rfl, rfl⟩
  -- what comes behind the row
  have hfin : ∀ (ρ : Nat → D) (st1 : Store) (o' : Option Nat), HW st1 h o' (xs ++ [a]) → Fr st st1 h o o' → ρ 0 = .ptr h 0 → ρ 4 = .int .i64 xs.length →
      WC Γ c_heap_Heap_Push_r0 ρ st1 (fun x ρ1 st1 => match x with | .goto l' => l' = 0 ∧ WC Γ (.again 0 c_heap_Heap_Push_r0) ρ1 st1 (PQ st h o a xs) | x => PQ st h o a xs x ρ1 st1) := by
    intro ρ st1 o' hH1 hF1 e0 e4
    refine l_up h o' _ xs.length xs.length (xs ++ [a]) st1 ρ (Nat.le_refl _) (by simp) (by simp; omega) hH1 (hpu_push a hX) e0 e4 (fun ρ' st' ys q1 q2 q3 q4 => ?_)
    refine ⟨.inl rfl, _, rfl, rfl, ys, o', q1, q2, q3.trans (List.perm_append_comm (l₁ := xs) (l₂ := [a])), hF1.trans q4⟩
  obtain ⟨_, _, ⟨rfl, rfl, hb⟩ | ⟨r, c, rfl, hrh, hb, hR, hcap⟩⟩ := hH
  · refine EvRWX_code rfl rfl ?_
    repeat' (first
    | (refine I_WS ?_; first
      | (refine I_mov ?_; first
          | refine W_skip rfl ?_
          | refine W_mov (v := .int _ _) rfl rfl rfl ?_
          | refine W_mov (v := .bool _) rfl rfl rfl ?_
          | refine W_mov (v := .slice _ _ _) rfl rfl rfl ?_
          | refine W_mov (v := .agg _) rfl rfl rfl ?_
          | refine W_mov (v := .ptr _ _) rfl rfl rfl ?_
          | refine W_mov (v := .func _ _) rfl rfl rfl ?_
          | refine W_mov (v := .eptr _ _ _ _) rfl rfl rfl ?_
          | refine W_mov (v := .rs _ _ _ _ _) rfl rfl rfl ?_
          | refine W_mov (v := .tuple _) rfl rfl rfl ?_
          | refine W_mov (v := .map _) rfl rfl rfl ?_
          | refine W_mov (v := .str _) rfl rfl rfl ?_
          | refine W_mov (v := .nilptr) rfl rfl rfl ?_)
      | (refine I_bin ?_; first
          | refine W_skip rfl ?_
          | refine W_gtrT rfl rfl rfl rfl (by omega) ?_
          | refine W_gtrF rfl rfl rfl rfl (by omega) ?_
          | (refine W_gtr rfl rfl rfl rfl ?_ ?_ <;> intro _)
          | refine W_sub rfl rfl rfl rfl (by first | exact w64 (by omega) | rfl) ?_
          | refine W_quo rfl rfl rfl rfl (by omega) rfl ?_)
      | (refine I_load ?_; first
          | refine W_skip rfl ?_
          | refine W_load (agg := false) (d := .int _ _) rfl rfl rfl rfl (by first | exact Nat.zero_le _ | omega) rfl ?_
          | refine W_load (agg := false) (d := .bool _) rfl rfl rfl rfl (by first | exact Nat.zero_le _ | omega) rfl ?_
          | refine W_load (agg := false) (d := .slice _ _ _) rfl rfl rfl rfl (by first | exact Nat.zero_le _ | omega) rfl ?_
          | refine W_load (agg := false) (d := .ptr _ _) rfl rfl rfl rfl (by first | exact Nat.zero_le _ | omega) rfl ?_
          | refine W_load (agg := false) (d := .func _ _) rfl rfl rfl rfl (by first | exact Nat.zero_le _ | omega) rfl ?_
          | refine W_load (agg := true) (d := .agg [_, _]) rfl rfl rfl rfl (by first | exact Nat.zero_le _ | omega) rfl ?_)
      | (refine I_call ?_; first
          | refine W_skip rfl ?_)
      | (refine I_pick ?_; first
          | refine W_pick (v := .int _ _) rfl rfl rfl rfl ?_
          | refine W_pick (v := .bool _) rfl rfl rfl rfl ?_
          | refine W_pick (v := .slice _ _ _) rfl rfl rfl rfl ?_
          | refine W_pick (v := .agg _) rfl rfl rfl rfl ?_
          | refine W_skip rfl ?_)
      | (refine I_box ?_; first
          | refine W_boxA rfl rfl rfl rfl rfl ?_
          | refine W_box1 (v := .slice _ _ _) rfl rfl rfl rfl rfl ?_
          | refine W_box1 (v := .int _ _) rfl rfl rfl rfl rfl ?_
          | refine W_box1 (v := .bool _) rfl rfl rfl rfl rfl ?_
          | refine W_box1 (v := .ptr _ _) rfl rfl rfl rfl rfl ?_
          | refine W_skip rfl ?_)
      | (refine I_store ?_; first
          | refine W_store (cs' := [_, _]) rfl rfl rfl rfl (by first | exact Nat.zero_le _ | omega) rfl rfl rfl ?_
          | refine W_skip0 rfl ?_)
      | refine W_lenS0 rfl rfl rfl ?_
      | refine W_lenM rfl rfl rfl ?_
      | refine W_lenS rfl rfl rfl ?_
      | refine W_lenR rfl rfl rfl ?_
      | refine W_faddr rfl rfl rfl ?_
      | refine W_faddrE rfl rfl rfl ?_
      | refine W_nilCheckM rfl rfl ?_
      | refine W_nilCheckE rfl rfl rfl ?_
      | refine W_nilCheckF rfl rfl rfl ?_
      | refine W_faddrM rfl rfl ?_
      | refine W_bsliceS (ds := [.slice _ _ _]) (ys := [.slice _ _ _]) rfl rfl rfl rfl (by decide) rfl ?_
      | refine W_bsliceS (ds := [.slice _ _ _, .slice _ _ _]) (ys := [.slice _ _ _, .slice _ _ _]) rfl rfl rfl rfl (by decide) rfl ?_
      | refine W_bsliceS (ds := [.slice _ _ _, .slice _ _ _, .slice _ _ _]) (ys := [.slice _ _ _, .slice _ _ _, .slice _ _ _]) rfl rfl rfl rfl (by decide) rfl ?_
      | refine W_bslice (ys := []) rfl rfl rfl (by decide) rfl ?_
      | refine W_bslice (ys := [_]) rfl rfl rfl (by decide) rfl ?_
      | refine W_bslice (ys := [_, _]) rfl rfl rfl (by decide) rfl ?_
      | refine W_bslice (ys := [_, _, _]) rfl rfl rfl (by decide) rfl ?_
      | refine W_skip rfl ?_
      | refine WS_nil ?_)
    | refine WC_seq ?_
    | refine WC_opsS ?_
    | refine WC_drawS ?_
    | refine WC_skip ?_
    | refine WC_condT rfl ?_
    | refine WC_condF rfl ?_
    | refine WC_ret ?_
    | refine WC_goto ?_
    | refine okF_intro rfl ?_)
    refine WC_scope ?_
    have hb1 : ∀ {x : Option Box}, (upd st.boxes st.next x h).bind Box.cs = some [.slice .isnil 0 []] := fun {x} => by rw [upd_ne _ _ hne, hb]; rfl
    have hl2 : st.lim ≤ st.next := Nat.le_trans hlim (Nat.le_of_lt hnx)
    repeat' (first
    | (refine I_WS ?_; first
      | refine W_bsliceM (ys := [a.e]) rfl rfl rfl rfl (by decide) ?_
      | (refine W_appNew (xs := []) (ys := [a.e]) rfl rfl (.inr rfl) (.inr rfl) rfl rfl (.inl rfl) (by simp) (by simp) hel (by simp) (Nat.le_succ_of_le hl2) ?_ <;> intro st1 e1 e2 e3 e4 hR1 hb2 e5)
      | (refine I_mov ?_; first
          | refine W_skip rfl ?_
          | refine W_mov (v := .int _ _) rfl rfl rfl ?_
          | refine W_mov (v := .bool _) rfl rfl rfl ?_
          | refine W_mov (v := .slice _ _ _) rfl rfl rfl ?_
          | refine W_mov (v := .agg _) rfl rfl rfl ?_
          | refine W_mov (v := .ptr _ _) rfl rfl rfl ?_
          | refine W_mov (v := .func _ _) rfl rfl rfl ?_
          | refine W_mov (v := .eptr _ _ _ _) rfl rfl rfl ?_
          | refine W_mov (v := .rs _ _ _ _ _) rfl rfl rfl ?_
          | refine W_mov (v := .tuple _) rfl rfl rfl ?_
          | refine W_mov (v := .map _) rfl rfl rfl ?_
          | refine W_mov (v := .str _) rfl rfl rfl ?_
          | refine W_mov (v := .nilptr) rfl rfl rfl ?_)
      | (refine I_bin ?_; first
          | refine W_skip rfl ?_
          | refine W_gtrT rfl rfl rfl rfl (by omega) ?_
          | refine W_gtrF rfl rfl rfl rfl (by omega) ?_
          | (refine W_gtr rfl rfl rfl rfl ?_ ?_ <;> intro _)
          | refine W_sub rfl rfl rfl rfl (by first | exact w64 (by omega) | rfl) ?_
          | refine W_quo rfl rfl rfl rfl (by omega) rfl ?_)
      | (refine I_load ?_; first
          | refine W_skip rfl ?_
          | refine W_loadM (agg := false) (d := .slice .isnil 0 []) rfl rfl hb1 hlim rfl ?_
          | refine W_loadM (agg := true) (d := .agg [_, _]) rfl rfl (bxc rfl) hl2 rfl ?_
          | refine W_load (agg := false) (d := .int _ _) rfl rfl rfl rfl (by first | exact Nat.zero_le _ | omega) rfl ?_
          | refine W_load (agg := false) (d := .bool _) rfl rfl rfl rfl (by first | exact Nat.zero_le _ | omega) rfl ?_
          | refine W_load (agg := false) (d := .slice _ _ _) rfl rfl rfl rfl (by first | exact Nat.zero_le _ | omega) rfl ?_
          | refine W_load (agg := false) (d := .ptr _ _) rfl rfl rfl rfl (by first | exact Nat.zero_le _ | omega) rfl ?_
          | refine W_load (agg := false) (d := .func _ _) rfl rfl rfl rfl (by first | exact Nat.zero_le _ | omega) rfl ?_
          | refine W_load (agg := true) (d := .agg [_, _]) rfl rfl rfl rfl (by first | exact Nat.zero_le _ | omega) rfl ?_)
      | (refine I_call ?_; first
          | refine W_skip rfl ?_)
      | (refine I_pick ?_; first
          | refine W_pick (v := .int _ _) rfl rfl rfl rfl ?_
          | refine W_pick (v := .bool _) rfl rfl rfl rfl ?_
          | refine W_pick (v := .slice _ _ _) rfl rfl rfl rfl ?_
          | refine W_pick (v := .agg _) rfl rfl rfl rfl ?_
          | refine W_skip rfl ?_)
      | (refine I_box ?_; first
          | refine W_boxA rfl rfl rfl rfl rfl ?_
          | refine W_box1 (v := .slice _ _ _) rfl rfl rfl rfl rfl ?_
          | refine W_box1 (v := .int _ _) rfl rfl rfl rfl rfl ?_
          | refine W_box1 (v := .bool _) rfl rfl rfl rfl rfl ?_
          | refine W_box1 (v := .ptr _ _) rfl rfl rfl rfl rfl ?_
          | refine W_skip rfl ?_)
      | (refine I_store ?_; first
          | refine W_store (cs' := [_, _]) rfl rfl rfl rfl (by first | exact Nat.zero_le _ | omega) rfl rfl rfl ?_
          | refine W_skip0 rfl ?_)
      | refine W_lenS0 rfl rfl rfl ?_
      | refine W_lenM rfl rfl rfl ?_
      | refine W_lenS rfl rfl rfl ?_
      | refine W_lenR rfl rfl rfl ?_
      | refine W_faddr rfl rfl rfl ?_
      | refine W_faddrE rfl rfl rfl ?_
      | refine W_nilCheckM rfl rfl ?_
      | refine W_nilCheckE rfl rfl rfl ?_
      | refine W_nilCheckF rfl rfl rfl ?_
      | refine W_faddrM rfl rfl ?_
      | refine W_bsliceS (ds := [.slice _ _ _]) (ys := [.slice _ _ _]) rfl rfl rfl rfl (by decide) rfl ?_
      | refine W_bsliceS (ds := [.slice _ _ _, .slice _ _ _]) (ys := [.slice _ _ _, .slice _ _ _]) rfl rfl rfl rfl (by decide) rfl ?_
      | refine W_bsliceS (ds := [.slice _ _ _, .slice _ _ _, .slice _ _ _]) (ys := [.slice _ _ _, .slice _ _ _, .slice _ _ _]) rfl rfl rfl rfl (by decide) rfl ?_
      | refine W_bslice (ys := []) rfl rfl rfl (by decide) rfl ?_
      | refine W_bslice (ys := [_]) rfl rfl rfl (by decide) rfl ?_
      | refine W_bslice (ys := [_, _]) rfl rfl rfl (by decide) rfl ?_
      | refine W_bslice (ys := [_, _, _]) rfl rfl rfl (by decide) rfl ?_
      | refine W_skip rfl ?_
      | refine WS_nil ?_)
    | refine WC_seq ?_
    | refine WC_opsS ?_
    | refine WC_drawS ?_
    | refine WC_skip ?_
    | refine WC_condT rfl ?_
    | refine WC_condF rfl ?_
    | refine WC_ret ?_
    | refine WC_goto ?_
    | refine okF_intro rfl ?_)
    have hb3 : st1.boxes h = some (.cells [.slice .isnil 0 []]) := by
      rw [hb2 h (Nat.lt_succ_of_lt hnx)]
      show upd st.boxes st.next _ h = _
      rw [upd_ne _ _ hne, hb]
    have hne3 : h ≠ st.next + 1 := by omega
    repeat' (first
    | (refine I_WS ?_; first
      | refine W_store (cs' := [.rs (st.next + 1) 0 2 1 1]) rfl rfl hb3 rfl (by rw [e1]; exact hlim) rfl rfl rfl ?_
      | (refine I_mov ?_; first
          | refine W_skip rfl ?_
          | refine W_mov (v := .int _ _) rfl rfl rfl ?_
          | refine W_mov (v := .bool _) rfl rfl rfl ?_
          | refine W_mov (v := .slice _ _ _) rfl rfl rfl ?_
          | refine W_mov (v := .agg _) rfl rfl rfl ?_
          | refine W_mov (v := .ptr _ _) rfl rfl rfl ?_
          | refine W_mov (v := .func _ _) rfl rfl rfl ?_
          | refine W_mov (v := .eptr _ _ _ _) rfl rfl rfl ?_
          | refine W_mov (v := .rs _ _ _ _ _) rfl rfl rfl ?_
          | refine W_mov (v := .tuple _) rfl rfl rfl ?_
          | refine W_mov (v := .map _) rfl rfl rfl ?_
          | refine W_mov (v := .str _) rfl rfl rfl ?_
          | refine W_mov (v := .nilptr) rfl rfl rfl ?_)
      | (refine I_bin ?_; first
          | refine W_skip rfl ?_
          | refine W_gtrT rfl rfl rfl rfl (by omega) ?_
          | refine W_gtrF rfl rfl rfl rfl (by omega) ?_
          | (refine W_gtr rfl rfl rfl rfl ?_ ?_ <;> intro _)
          | refine W_sub rfl rfl rfl rfl (by first | exact w64 (by omega) | rfl) ?_
          | refine W_quo rfl rfl rfl rfl (by omega) rfl ?_)
      | (refine I_load ?_; first
          | refine W_skip rfl ?_
          | refine W_load (agg := false) (d := .rs (st.next + 1) 0 2 1 1) rfl rfl rfl (bxc rfl) (by show st1.lim ≤ h; rw [e1]; exact hlim) rfl ?_
          | refine W_load (agg := false) (d := .int _ _) rfl rfl rfl rfl (by first | exact Nat.zero_le _ | omega) rfl ?_
          | refine W_load (agg := false) (d := .bool _) rfl rfl rfl rfl (by first | exact Nat.zero_le _ | omega) rfl ?_
          | refine W_load (agg := false) (d := .slice _ _ _) rfl rfl rfl rfl (by first | exact Nat.zero_le _ | omega) rfl ?_
          | refine W_load (agg := false) (d := .ptr _ _) rfl rfl rfl rfl (by first | exact Nat.zero_le _ | omega) rfl ?_
          | refine W_load (agg := false) (d := .func _ _) rfl rfl rfl rfl (by first | exact Nat.zero_le _ | omega) rfl ?_
          | refine W_load (agg := true) (d := .agg [_, _]) rfl rfl rfl rfl (by first | exact Nat.zero_le _ | omega) rfl ?_)
      | (refine I_call ?_; first
          | refine W_skip rfl ?_)
      | (refine I_pick ?_; first
          | refine W_pick (v := .int _ _) rfl rfl rfl rfl ?_
          | refine W_pick (v := .bool _) rfl rfl rfl rfl ?_
          | refine W_pick (v := .slice _ _ _) rfl rfl rfl rfl ?_
          | refine W_pick (v := .agg _) rfl rfl rfl rfl ?_
          | refine W_skip rfl ?_)
      | (refine I_box ?_; first
          | refine W_boxA rfl rfl rfl rfl rfl ?_
          | refine W_box1 (v := .slice _ _ _) rfl rfl rfl rfl rfl ?_
          | refine W_box1 (v := .int _ _) rfl rfl rfl rfl rfl ?_
          | refine W_box1 (v := .bool _) rfl rfl rfl rfl rfl ?_
          | refine W_box1 (v := .ptr _ _) rfl rfl rfl rfl rfl ?_
          | refine W_skip rfl ?_)
      | (refine I_store ?_; first
          | refine W_store (cs' := [_, _]) rfl rfl rfl rfl (by first | exact Nat.zero_le _ | omega) rfl rfl rfl ?_
          | refine W_skip0 rfl ?_)
      | refine W_lenS0 rfl rfl rfl ?_
      | refine W_lenM rfl rfl rfl ?_
      | refine W_lenS rfl rfl rfl ?_
      | refine W_lenR rfl rfl rfl ?_
      | refine W_faddr rfl rfl rfl ?_
      | refine W_faddrE rfl rfl rfl ?_
      | refine W_nilCheckM rfl rfl ?_
      | refine W_nilCheckE rfl rfl rfl ?_
      | refine W_nilCheckF rfl rfl rfl ?_
      | refine W_faddrM rfl rfl ?_
      | refine W_bsliceS (ds := [.slice _ _ _]) (ys := [.slice _ _ _]) rfl rfl rfl rfl (by decide) rfl ?_
      | refine W_bsliceS (ds := [.slice _ _ _, .slice _ _ _]) (ys := [.slice _ _ _, .slice _ _ _]) rfl rfl rfl rfl (by decide) rfl ?_
      | refine W_bsliceS (ds := [.slice _ _ _, .slice _ _ _, .slice _ _ _]) (ys := [.slice _ _ _, .slice _ _ _, .slice _ _ _]) rfl rfl rfl rfl (by decide) rfl ?_
      | refine W_bslice (ys := []) rfl rfl rfl (by decide) rfl ?_
      | refine W_bslice (ys := [_]) rfl rfl rfl (by decide) rfl ?_
      | refine W_bslice (ys := [_, _]) rfl rfl rfl (by decide) rfl ?_
      | refine W_bslice (ys := [_, _, _]) rfl rfl rfl (by decide) rfl ?_
      | refine W_skip rfl ?_
      | refine WS_nil ?_)
    | refine hfin _ _ (some (st.next + 1)) ?_ ?_ ?_ ?_
    | refine WC_seq ?_
    | refine WC_opsS ?_
    | refine WC_drawS ?_
    | refine WC_skip ?_
    | refine WC_condT rfl ?_
    | refine WC_condF rfl ?_
    | refine WC_ret ?_
    | refine WC_goto ?_
    | refine okF_intro rfl ?_)
    · refine ⟨by show st1.lim ≤ h; rw [e1]; exact hlim, by show h < st1.next; rw [e5]; exact Nat.lt_succ_of_lt (Nat.lt_succ_of_lt hnx), .inr ⟨st.next + 1, 1, rfl, Ne.symm hne3, upd_same _ _ _, ?_, Nat.le_refl _⟩⟩
      exact hR1.of (by show st1.lim ≤ _; rw [e1]; exact Nat.le_succ_of_le hl2) (by show _ < st1.next; rw [e5]; exact Nat.lt_succ_self _) (upd_ne _ _ (Ne.symm hne3))
    · refine ⟨e1, e2, e3, e4, by show st.next ≤ st1.next; rw [e5]; exact Nat.le_succ_of_le (Nat.le_succ _), fun q hq h1 _ => ?_, .inr ⟨_, rfl, Nat.le_succ _⟩⟩
      show upd st1.boxes h _ q = _
      rw [upd_ne _ _ h1, hb2 q (Nat.lt_succ_of_lt hq)]
      exact upd_ne _ _ (Nat.ne_of_lt hq)
    · rfl
    · rfl
  · refine EvRWX_code rfl rfl ?_
    repeat' (first
    | (refine I_WS ?_; first
      | (refine I_mov ?_; first
          | refine W_skip rfl ?_
          | refine W_mov (v := .int _ _) rfl rfl rfl ?_
          | refine W_mov (v := .bool _) rfl rfl rfl ?_
          | refine W_mov (v := .slice _ _ _) rfl rfl rfl ?_
          | refine W_mov (v := .agg _) rfl rfl rfl ?_
          | refine W_mov (v := .ptr _ _) rfl rfl rfl ?_
          | refine W_mov (v := .func _ _) rfl rfl rfl ?_
          | refine W_mov (v := .eptr _ _ _ _) rfl rfl rfl ?_
          | refine W_mov (v := .rs _ _ _ _ _) rfl rfl rfl ?_
          | refine W_mov (v := .tuple _) rfl rfl rfl ?_
          | refine W_mov (v := .map _) rfl rfl rfl ?_
          | refine W_mov (v := .str _) rfl rfl rfl ?_
          | refine W_mov (v := .nilptr) rfl rfl rfl ?_)
      | (refine I_bin ?_; first
          | refine W_skip rfl ?_
          | refine W_gtrT rfl rfl rfl rfl (by omega) ?_
          | refine W_gtrF rfl rfl rfl rfl (by omega) ?_
          | (refine W_gtr rfl rfl rfl rfl ?_ ?_ <;> intro _)
          | refine W_sub rfl rfl rfl rfl (by first | exact w64 (by omega) | rfl) ?_
          | refine W_quo rfl rfl rfl rfl (by omega) rfl ?_)
      | (refine I_load ?_; first
          | refine W_skip rfl ?_
          | refine W_load (agg := false) (d := .int _ _) rfl rfl rfl rfl (by first | exact Nat.zero_le _ | omega) rfl ?_
          | refine W_load (agg := false) (d := .bool _) rfl rfl rfl rfl (by first | exact Nat.zero_le _ | omega) rfl ?_
          | refine W_load (agg := false) (d := .slice _ _ _) rfl rfl rfl rfl (by first | exact Nat.zero_le _ | omega) rfl ?_
          | refine W_load (agg := false) (d := .ptr _ _) rfl rfl rfl rfl (by first | exact Nat.zero_le _ | omega) rfl ?_
          | refine W_load (agg := false) (d := .func _ _) rfl rfl rfl rfl (by first | exact Nat.zero_le _ | omega) rfl ?_
          | refine W_load (agg := true) (d := .agg [_, _]) rfl rfl rfl rfl (by first | exact Nat.zero_le _ | omega) rfl ?_)
      | (refine I_call ?_; first
          | refine W_skip rfl ?_)
      | (refine I_pick ?_; first
          | refine W_pick (v := .int _ _) rfl rfl rfl rfl ?_
          | refine W_pick (v := .bool _) rfl rfl rfl rfl ?_
          | refine W_pick (v := .slice _ _ _) rfl rfl rfl rfl ?_
          | refine W_pick (v := .agg _) rfl rfl rfl rfl ?_
          | refine W_skip rfl ?_)
      | (refine I_box ?_; first
          | refine W_boxA rfl rfl rfl rfl rfl ?_
          | refine W_box1 (v := .slice _ _ _) rfl rfl rfl rfl rfl ?_
          | refine W_box1 (v := .int _ _) rfl rfl rfl rfl rfl ?_
          | refine W_box1 (v := .bool _) rfl rfl rfl rfl rfl ?_
          | refine W_box1 (v := .ptr _ _) rfl rfl rfl rfl rfl ?_
          | refine W_skip rfl ?_)
      | (refine I_store ?_; first
          | refine W_store (cs' := [_, _]) rfl rfl rfl rfl (by first | exact Nat.zero_le _ | omega) rfl rfl rfl ?_
          | refine W_skip0 rfl ?_)
      | refine W_lenS0 rfl rfl rfl ?_
      | refine W_lenM rfl rfl rfl ?_
      | refine W_lenS rfl rfl rfl ?_
      | refine W_lenR rfl rfl rfl ?_
      | refine W_faddr rfl rfl rfl ?_
      | refine W_faddrE rfl rfl rfl ?_
      | refine W_nilCheckM rfl rfl ?_
      | refine W_nilCheckE rfl rfl rfl ?_
      | refine W_nilCheckF rfl rfl rfl ?_
      | refine W_faddrM rfl rfl ?_
      | refine W_bsliceS (ds := [.slice _ _ _]) (ys := [.slice _ _ _]) rfl rfl rfl rfl (by decide) rfl ?_
      | refine W_bsliceS (ds := [.slice _ _ _, .slice _ _ _]) (ys := [.slice _ _ _, .slice _ _ _]) rfl rfl rfl rfl (by decide) rfl ?_
      | refine W_bsliceS (ds := [.slice _ _ _, .slice _ _ _, .slice _ _ _]) (ys := [.slice _ _ _, .slice _ _ _, .slice _ _ _]) rfl rfl rfl rfl (by decide) rfl ?_
      | refine W_bslice (ys := []) rfl rfl rfl (by decide) rfl ?_
      | refine W_bslice (ys := [_]) rfl rfl rfl (by decide) rfl ?_
      | refine W_bslice (ys := [_, _]) rfl rfl rfl (by decide) rfl ?_
      | refine W_bslice (ys := [_, _, _]) rfl rfl rfl (by decide) rfl ?_
      | refine W_skip rfl ?_
      | refine WS_nil ?_)
    | refine WC_seq ?_
    | refine WC_opsS ?_
    | refine WC_drawS ?_
    | refine WC_skip ?_
    | refine WC_condT rfl ?_
    | refine WC_condF rfl ?_
    | refine WC_ret ?_
    | refine WC_goto ?_
    | refine okF_intro rfl ?_)
    refine WC_scope ?_
    have hb1 : ∀ {x : Option Box}, (upd st.boxes st.next x h).bind Box.cs = some [.rs r 0 2 xs.length c] := fun {x} => by rw [upd_ne _ _ hne, hb]; rfl
    have hl2 : st.lim ≤ st.next := Nat.le_trans hlim (Nat.le_of_lt hnx)
    have hrn : r ≠ st.next := Nat.ne_of_lt hR.2.1
    have hR' : ∀ {x : Option Box}, RowIs { st with boxes := upd st.boxes st.next x, next := st.next + 1 } r 2 (xs.map Rd.e) := fun {x} => hR.of hR.1 (Nat.lt_succ_of_lt hR.2.1) (upd_ne _ _ hrn)
    repeat' (first
    | (refine I_WS ?_; first
      | refine W_bsliceM (ys := [a.e]) rfl rfl rfl rfl (by decide) ?_
      | (refine W_appRow2 (xs := xs.map Rd.e) (ys := [a.e]) rfl rfl rfl hR' (List.length_map _).symm (.inl rfl) rd_cells hel (by simp; omega) ?_ <;> intro p' c' st1 e1 e2 e3 e4 hR1 hb2 e5 e6 e7)
      | (refine I_mov ?_; first
          | refine W_skip rfl ?_
          | refine W_mov (v := .int _ _) rfl rfl rfl ?_
          | refine W_mov (v := .bool _) rfl rfl rfl ?_
          | refine W_mov (v := .slice _ _ _) rfl rfl rfl ?_
          | refine W_mov (v := .agg _) rfl rfl rfl ?_
          | refine W_mov (v := .ptr _ _) rfl rfl rfl ?_
          | refine W_mov (v := .func _ _) rfl rfl rfl ?_
          | refine W_mov (v := .eptr _ _ _ _) rfl rfl rfl ?_
          | refine W_mov (v := .rs _ _ _ _ _) rfl rfl rfl ?_
          | refine W_mov (v := .tuple _) rfl rfl rfl ?_
          | refine W_mov (v := .map _) rfl rfl rfl ?_
          | refine W_mov (v := .str _) rfl rfl rfl ?_
          | refine W_mov (v := .nilptr) rfl rfl rfl ?_)
      | (refine I_bin ?_; first
          | refine W_skip rfl ?_
          | refine W_gtrT rfl rfl rfl rfl (by omega) ?_
          | refine W_gtrF rfl rfl rfl rfl (by omega) ?_
          | (refine W_gtr rfl rfl rfl rfl ?_ ?_ <;> intro _)
          | refine W_sub rfl rfl rfl rfl (by first | exact w64 (by omega) | rfl) ?_
          | refine W_quo rfl rfl rfl rfl (by omega) rfl ?_)
      | (refine I_load ?_; first
          | refine W_skip rfl ?_
          | refine W_loadM (agg := false) (d := .rs r 0 2 xs.length c) rfl rfl hb1 hlim rfl ?_
          | refine W_loadM (agg := true) (d := .agg [_, _]) rfl rfl (bxc rfl) hl2 rfl ?_
          | refine W_load (agg := false) (d := .int _ _) rfl rfl rfl rfl (by first | exact Nat.zero_le _ | omega) rfl ?_
          | refine W_load (agg := false) (d := .bool _) rfl rfl rfl rfl (by first | exact Nat.zero_le _ | omega) rfl ?_
          | refine W_load (agg := false) (d := .slice _ _ _) rfl rfl rfl rfl (by first | exact Nat.zero_le _ | omega) rfl ?_
          | refine W_load (agg := false) (d := .ptr _ _) rfl rfl rfl rfl (by first | exact Nat.zero_le _ | omega) rfl ?_
          | refine W_load (agg := false) (d := .func _ _) rfl rfl rfl rfl (by first | exact Nat.zero_le _ | omega) rfl ?_
          | refine W_load (agg := true) (d := .agg [_, _]) rfl rfl rfl rfl (by first | exact Nat.zero_le _ | omega) rfl ?_)
      | (refine I_call ?_; first
          | refine W_skip rfl ?_)
      | (refine I_pick ?_; first
          | refine W_pick (v := .int _ _) rfl rfl rfl rfl ?_
          | refine W_pick (v := .bool _) rfl rfl rfl rfl ?_
          | refine W_pick (v := .slice _ _ _) rfl rfl rfl rfl ?_
          | refine W_pick (v := .agg _) rfl rfl rfl rfl ?_
          | refine W_skip rfl ?_)
      | (refine I_box ?_; first
          | refine W_boxA rfl rfl rfl rfl rfl ?_
          | refine W_box1 (v := .slice _ _ _) rfl rfl rfl rfl rfl ?_
          | refine W_box1 (v := .int _ _) rfl rfl rfl rfl rfl ?_
          | refine W_box1 (v := .bool _) rfl rfl rfl rfl rfl ?_
          | refine W_box1 (v := .ptr _ _) rfl rfl rfl rfl rfl ?_
          | refine W_skip rfl ?_)
      | (refine I_store ?_; first
          | refine W_store (cs' := [_, _]) rfl rfl rfl rfl (by first | exact Nat.zero_le _ | omega) rfl rfl rfl ?_
          | refine W_skip0 rfl ?_)
      | refine W_lenS0 rfl rfl rfl ?_
      | refine W_lenM rfl rfl rfl ?_
      | refine W_lenS rfl rfl rfl ?_
      | refine W_lenR rfl rfl rfl ?_
      | refine W_faddr rfl rfl rfl ?_
      | refine W_faddrE rfl rfl rfl ?_
      | refine W_nilCheckM rfl rfl ?_
      | refine W_nilCheckE rfl rfl rfl ?_
      | refine W_nilCheckF rfl rfl rfl ?_
      | refine W_faddrM rfl rfl ?_
      | refine W_bsliceS (ds := [.slice _ _ _]) (ys := [.slice _ _ _]) rfl rfl rfl rfl (by decide) rfl ?_
      | refine W_bsliceS (ds := [.slice _ _ _, .slice _ _ _]) (ys := [.slice _ _ _, .slice _ _ _]) rfl rfl rfl rfl (by decide) rfl ?_
      | refine W_bsliceS (ds := [.slice _ _ _, .slice _ _ _, .slice _ _ _]) (ys := [.slice _ _ _, .slice _ _ _, .slice _ _ _]) rfl rfl rfl rfl (by decide) rfl ?_
      | refine W_bslice (ys := []) rfl rfl rfl (by decide) rfl ?_
      | refine W_bslice (ys := [_]) rfl rfl rfl (by decide) rfl ?_
      | refine W_bslice (ys := [_, _]) rfl rfl rfl (by decide) rfl ?_
      | refine W_bslice (ys := [_, _, _]) rfl rfl rfl (by decide) rfl ?_
      | refine W_skip rfl ?_
      | refine WS_nil ?_)
    | refine WC_seq ?_
    | refine WC_opsS ?_
    | refine WC_drawS ?_
    | refine WC_skip ?_
    | refine WC_condT rfl ?_
    | refine WC_condF rfl ?_
    | refine WC_ret ?_
    | refine WC_goto ?_
    | refine okF_intro rfl ?_)
    have hb3 : st1.boxes h = some (.cells [.rs r 0 2 xs.length c]) := by
      rw [hb2 h (Ne.symm hrh) (Nat.lt_succ_of_lt hnx)]
      show upd st.boxes st.next _ h = _
      rw [upd_ne _ _ hne, hb]
    have e5' : st.next + 1 ≤ st1.next := e5
    have hp' : p' ≠ h := by
      rcases e6 with rfl | e6
      · exact hrh
      · have e6 : st.next + 1 ≤ p' := e6
        omega
    have hlen1 : xs.length + [a.e].length - 1 = xs.length := by simp
    repeat' (first
    | (refine I_WS ?_; first
      | refine W_store (cs' := [.rs p' 0 2 (xs.length + 1) c']) rfl rfl hb3 rfl (by rw [e1]; exact hlim) rfl rfl rfl ?_
      | refine W_sub rfl rfl rfl rfl (s := (xs.length : Int)) (by rw [show ((xs.length + 1 : Nat) : Int) - 1 = (xs.length : Int) by omega]; exact w64 (by omega)) ?_
      | (refine I_mov ?_; first
          | refine W_skip rfl ?_
          | refine W_mov (v := .int _ _) rfl rfl rfl ?_
          | refine W_mov (v := .bool _) rfl rfl rfl ?_
          | refine W_mov (v := .slice _ _ _) rfl rfl rfl ?_
          | refine W_mov (v := .agg _) rfl rfl rfl ?_
          | refine W_mov (v := .ptr _ _) rfl rfl rfl ?_
          | refine W_mov (v := .func _ _) rfl rfl rfl ?_
          | refine W_mov (v := .eptr _ _ _ _) rfl rfl rfl ?_
          | refine W_mov (v := .rs _ _ _ _ _) rfl rfl rfl ?_
          | refine W_mov (v := .tuple _) rfl rfl rfl ?_
          | refine W_mov (v := .map _) rfl rfl rfl ?_
          | refine W_mov (v := .str _) rfl rfl rfl ?_
          | refine W_mov (v := .nilptr) rfl rfl rfl ?_)
      | (refine I_bin ?_; first
          | refine W_skip rfl ?_
          | refine W_gtrT rfl rfl rfl rfl (by omega) ?_
          | refine W_gtrF rfl rfl rfl rfl (by omega) ?_
          | (refine W_gtr rfl rfl rfl rfl ?_ ?_ <;> intro _)
          | refine W_sub rfl rfl rfl rfl (by first | exact w64 (by omega) | rfl) ?_
          | refine W_quo rfl rfl rfl rfl (by omega) rfl ?_)
      | (refine I_load ?_; first
          | refine W_skip rfl ?_
          | refine W_load (agg := false) (d := .rs p' 0 2 (xs.length + 1) c') rfl rfl rfl (bxc rfl) (by show st1.lim ≤ h; rw [e1]; exact hlim) rfl ?_
          | refine W_load (agg := false) (d := .int _ _) rfl rfl rfl rfl (by first | exact Nat.zero_le _ | omega) rfl ?_
          | refine W_load (agg := false) (d := .bool _) rfl rfl rfl rfl (by first | exact Nat.zero_le _ | omega) rfl ?_
          | refine W_load (agg := false) (d := .slice _ _ _) rfl rfl rfl rfl (by first | exact Nat.zero_le _ | omega) rfl ?_
          | refine W_load (agg := false) (d := .ptr _ _) rfl rfl rfl rfl (by first | exact Nat.zero_le _ | omega) rfl ?_
          | refine W_load (agg := false) (d := .func _ _) rfl rfl rfl rfl (by first | exact Nat.zero_le _ | omega) rfl ?_
          | refine W_load (agg := true) (d := .agg [_, _]) rfl rfl rfl rfl (by first | exact Nat.zero_le _ | omega) rfl ?_)
      | (refine I_call ?_; first
          | refine W_skip rfl ?_)
      | (refine I_pick ?_; first
          | refine W_pick (v := .int _ _) rfl rfl rfl rfl ?_
          | refine W_pick (v := .bool _) rfl rfl rfl rfl ?_
          | refine W_pick (v := .slice _ _ _) rfl rfl rfl rfl ?_
          | refine W_pick (v := .agg _) rfl rfl rfl rfl ?_
          | refine W_skip rfl ?_)
      | (refine I_box ?_; first
          | refine W_boxA rfl rfl rfl rfl rfl ?_
          | refine W_box1 (v := .slice _ _ _) rfl rfl rfl rfl rfl ?_
          | refine W_box1 (v := .int _ _) rfl rfl rfl rfl rfl ?_
          | refine W_box1 (v := .bool _) rfl rfl rfl rfl rfl ?_
          | refine W_box1 (v := .ptr _ _) rfl rfl rfl rfl rfl ?_
          | refine W_skip rfl ?_)
      | (refine I_store ?_; first
          | refine W_store (cs' := [_, _]) rfl rfl rfl rfl (by first | exact Nat.zero_le _ | omega) rfl rfl rfl ?_
          | refine W_skip0 rfl ?_)
      | refine W_lenS0 rfl rfl rfl ?_
      | refine W_lenM rfl rfl rfl ?_
      | refine W_lenS rfl rfl rfl ?_
      | refine W_lenR rfl rfl rfl ?_
      | refine W_faddr rfl rfl rfl ?_
      | refine W_faddrE rfl rfl rfl ?_
      | refine W_nilCheckM rfl rfl ?_
      | refine W_nilCheckE rfl rfl rfl ?_
      | refine W_nilCheckF rfl rfl rfl ?_
      | refine W_faddrM rfl rfl ?_
      | refine W_bsliceS (ds := [.slice _ _ _]) (ys := [.slice _ _ _]) rfl rfl rfl rfl (by decide) rfl ?_
      | refine W_bsliceS (ds := [.slice _ _ _, .slice _ _ _]) (ys := [.slice _ _ _, .slice _ _ _]) rfl rfl rfl rfl (by decide) rfl ?_
      | refine W_bsliceS (ds := [.slice _ _ _, .slice _ _ _, .slice _ _ _]) (ys := [.slice _ _ _, .slice _ _ _, .slice _ _ _]) rfl rfl rfl rfl (by decide) rfl ?_
      | refine W_bslice (ys := []) rfl rfl rfl (by decide) rfl ?_
      | refine W_bslice (ys := [_]) rfl rfl rfl (by decide) rfl ?_
      | refine W_bslice (ys := [_, _]) rfl rfl rfl (by decide) rfl ?_
      | refine W_bslice (ys := [_, _, _]) rfl rfl rfl (by decide) rfl ?_
      | refine W_skip rfl ?_
      | refine WS_nil ?_)
    | refine hfin _ _ (some p') ?_ ?_ ?_ ?_
    | refine WC_seq ?_
    | refine WC_opsS ?_
    | refine WC_drawS ?_
    | refine WC_skip ?_
    | refine WC_condT rfl ?_
    | refine WC_condF rfl ?_
    | refine WC_ret ?_
    | refine WC_goto ?_
    | refine okF_intro rfl ?_)
    · refine ⟨by show st1.lim ≤ h; rw [e1]; exact hlim, by show h < st1.next; omega, .inr ⟨p', c', rfl, hp', ?_, ?_, ?_⟩⟩
      · show upd st1.boxes h _ h = _
        rw [upd_same]
        simp [Box.set]
      · have : RowIs st1 p' 2 ((xs ++ [a]).map Rd.e) := by simpa using hR1
        exact this.of this.1 this.2.1 (upd_ne _ _ hp')
      · simpa using e7
    · refine ⟨e1, e2, e3, e4, by show st.next ≤ st1.next; omega, fun q hq h1 h2 => ?_, ?_⟩
      · show upd st1.boxes h _ q = _
        rw [upd_ne _ _ h1, hb2 q (fun e => h2 (by rw [e])) (Nat.lt_succ_of_lt hq)]
        exact upd_ne _ _ (Nat.ne_of_lt hq)
      · rcases e6 with rfl | e6
        · exact .inl rfl
        · have e6 : st.next + 1 ≤ p' := e6
          exact .inr ⟨p', rfl, by omega⟩
    · rfl
    · rfl
end Go.Hea
