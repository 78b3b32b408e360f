/-
  HeapTells, as the evaluator runs it.
-/
import Derived.Test.YtbmhgigljbikhaaHeaHeaQ
set_option linter.unusedVariables false
set_option linter.unusedSimpArgs false
set_option linter.unnecessarySimpa false
namespace Go.Hea
open Go.Ev
set_option linter.unusedVariables false
set_option linter.unusedSimpArgs false
theorem l_gnew (st0 : Store) (g : Nat) (hg : st0.next ≤ g) (l : List Rd) (hll : l.length ≤ 1000) : ∀ (post pre : List Rd), l = pre ++ post →
    ∀ (ρ : Nat → D) (st : Store), RHp st g (sortL pre) → st.lim = st0.lim → st.tlim = st0.tlim → st0.next ≤ st.next → (∀ q, q < st0.next → st.boxes q = st0.boxes q) → ρ 0 = .slice .no 2 (l.map Rd.e) → ρ 3 = .ptr g 0 → ρ 4 = .int .i64 pre.length → ∀ (Q : X → (Nat → D) → Store → Prop),
    (∀ ρ' st', RHp st' g (sortL l) → st'.lim = st0.lim → st'.tlim = st0.tlim → st0.next ≤ st'.next → (∀ q, q < st0.next → st'.boxes q = st0.boxes q) → ρ' 3 = .ptr g 0 → Q (.exit 0) ρ' st') → WC Γ (.loop c_feluccaref14_New_l0) ρ st Q := by
  intro post
  induction post with
  | nil =>
    intro pre hp ρ st H n1 n2 n3 n4 h0 h3 h4 Q hQ
    rw [List.append_nil] at hp
    subst hp
    rw [← upd_self h0, ← upd_self h3, ← upd_self h4]
    refine WC_loop ?_
    repeat' (first
    | (refine I_WS ?_; first
      | (refine I_mov ?_; first
          | refine W_skip rfl ?_
          | refine W_mov (v := .int _ _) rfl rfl rfl ?_
          | refine W_mov (v := .bool _) rfl rfl rfl ?_
          | refine W_mov (v := .slice _ _ _) rfl rfl rfl ?_
          | refine W_mov (v := .agg _) rfl rfl rfl ?_
          | refine W_mov (v := .ptr _ _) rfl rfl rfl ?_
          | refine W_mov (v := .func _ _) rfl rfl rfl ?_
          | refine W_mov (v := .eptr _ _ _ _) rfl rfl rfl ?_
          | refine W_mov (v := .rs _ _ _ _ _) rfl rfl rfl ?_
          | refine W_mov (v := .tuple _) rfl rfl rfl ?_
          | refine W_mov (v := .map _) rfl rfl rfl ?_
          | refine W_mov (v := .str _) rfl rfl rfl ?_
          | refine W_mov (v := .nilptr) rfl rfl rfl ?_)
      | (refine I_bin ?_; first
          | refine W_skip rfl ?_
          | refine W_lssT rfl rfl rfl rfl (by omega) ?_
          | refine W_lssF rfl rfl rfl rfl (by omega) ?_
          | (refine W_lss rfl rfl rfl rfl ?_ ?_ <;> intro _)
          | refine W_add rfl rfl rfl rfl (by first | exact w64 (by omega) | rfl) ?_)
      | (refine I_load ?_; first
          | refine W_skip rfl ?_
          | refine W_load (agg := false) (d := .int _ _) rfl rfl rfl (bxc rfl) (by first | exact Nat.zero_le _ | assumption | exact Nat.le_trans hlim (Nat.zero_le _) | omega) rfl ?_
          | refine W_load (agg := false) (d := .bool _) rfl rfl rfl (bxc rfl) (by first | exact Nat.zero_le _ | assumption | exact Nat.le_trans hlim (Nat.zero_le _) | omega) rfl ?_
          | refine W_load (agg := false) (d := .slice _ _ _) rfl rfl rfl (bxc rfl) (by first | exact Nat.zero_le _ | assumption | exact Nat.le_trans hlim (Nat.zero_le _) | omega) rfl ?_
          | refine W_load (agg := false) (d := .ptr _ _) rfl rfl rfl (bxc rfl) (by first | exact Nat.zero_le _ | assumption | exact Nat.le_trans hlim (Nat.zero_le _) | omega) rfl ?_
          | refine W_load (agg := false) (d := .func _ _) rfl rfl rfl (bxc rfl) (by first | exact Nat.zero_le _ | assumption | exact Nat.le_trans hlim (Nat.zero_le _) | omega) rfl ?_
          | refine W_load (agg := true) (d := .agg [_]) rfl rfl rfl (bxc rfl) (by first | exact Nat.zero_le _ | assumption | exact Nat.le_trans hlim (Nat.zero_le _) | omega) rfl ?_
          | refine W_load (agg := true) (d := .agg [_, _]) rfl rfl rfl (bxc rfl) (by first | exact Nat.zero_le _ | assumption | exact Nat.le_trans hlim (Nat.zero_le _) | omega) rfl ?_
          | refine W_load (agg := false) (d := .int _ _) rfl rfl rfl (bxs (by omega) (bxc rfl)) (by first | exact Nat.zero_le _ | assumption | exact Nat.le_trans hlim (Nat.zero_le _) | omega) rfl ?_
          | refine W_load (agg := false) (d := .bool _) rfl rfl rfl (bxs (by omega) (bxc rfl)) (by first | exact Nat.zero_le _ | assumption | exact Nat.le_trans hlim (Nat.zero_le _) | omega) rfl ?_
          | refine W_load (agg := false) (d := .slice _ _ _) rfl rfl rfl (bxs (by omega) (bxc rfl)) (by first | exact Nat.zero_le _ | assumption | exact Nat.le_trans hlim (Nat.zero_le _) | omega) rfl ?_
          | refine W_load (agg := false) (d := .ptr _ _) rfl rfl rfl (bxs (by omega) (bxc rfl)) (by first | exact Nat.zero_le _ | assumption | exact Nat.le_trans hlim (Nat.zero_le _) | omega) rfl ?_
          | refine W_load (agg := false) (d := .func _ _) rfl rfl rfl (bxs (by omega) (bxc rfl)) (by first | exact Nat.zero_le _ | assumption | exact Nat.le_trans hlim (Nat.zero_le _) | omega) rfl ?_
          | refine W_load (agg := true) (d := .agg [_]) rfl rfl rfl (bxs (by omega) (bxc rfl)) (by first | exact Nat.zero_le _ | assumption | exact Nat.le_trans hlim (Nat.zero_le _) | omega) rfl ?_
          | refine W_load (agg := true) (d := .agg [_, _]) rfl rfl rfl (bxs (by omega) (bxc rfl)) (by first | exact Nat.zero_le _ | assumption | exact Nat.le_trans hlim (Nat.zero_le _) | omega) rfl ?_
          | refine W_load (agg := false) (d := .int _ _) rfl rfl rfl rfl (by first | exact Nat.zero_le _ | omega) rfl ?_
          | refine W_load (agg := false) (d := .bool _) rfl rfl rfl rfl (by first | exact Nat.zero_le _ | omega) rfl ?_
          | refine W_load (agg := false) (d := .slice _ _ _) rfl rfl rfl rfl (by first | exact Nat.zero_le _ | omega) rfl ?_
          | refine W_load (agg := false) (d := .ptr _ _) rfl rfl rfl rfl (by first | exact Nat.zero_le _ | omega) rfl ?_
          | refine W_load (agg := false) (d := .func _ _) rfl rfl rfl rfl (by first | exact Nat.zero_le _ | omega) rfl ?_
          | refine W_load (agg := true) (d := .agg [_]) rfl rfl rfl rfl (by first | exact Nat.zero_le _ | omega) rfl ?_
          | refine W_load (agg := true) (d := .agg [_, _]) rfl rfl rfl rfl (by first | exact Nat.zero_le _ | omega) rfl ?_)
      | (refine I_call ?_; first
          | refine W_skip rfl ?_)
      | (refine I_build ?_; first
          | refine W_build (cs := [_]) rfl rfl rfl ?_
          | refine W_build (cs := [_, _]) rfl rfl rfl ?_
          | refine W_skip rfl ?_)
      | (refine I_box ?_; first
          | refine W_boxA rfl rfl rfl rfl rfl ?_
          | refine W_box1 (v := .slice _ _ _) rfl rfl rfl rfl rfl ?_
          | refine W_box1 (v := .int _ _) rfl rfl rfl rfl rfl ?_
          | refine W_box1 (v := .bool _) rfl rfl rfl rfl rfl ?_
          | refine W_box1 (v := .ptr _ _) rfl rfl rfl rfl rfl ?_
          | refine W_skip rfl ?_)
      | refine W_lenS0 rfl rfl rfl ?_
      | refine W_lenM rfl rfl rfl ?_
      | refine W_lenS rfl rfl rfl ?_
      | refine W_lenR rfl rfl rfl ?_
      | refine W_skip rfl ?_
      | refine W_iaddr rfl rfl rfl rfl (by first | rfl | exact sz_of (by assumption) (by omega)) (by first | decide | (simp only [List.length_map]; omega)) ?_
      | refine W_iaddrRN rfl rfl rfl rfl rfl (by decide) ?_
      | refine W_iaddrR rfl rfl rfl rfl (by first | decide | omega) ?_
      | (refine W_sliceLoN rfl rfl (by first | exact .inl rfl | assumption) rfl (by first | omega | (simp; omega)) rfl ?_ <;> intro _)
      | (refine W_sliceHiN rfl rfl (by first | exact .inl rfl | assumption) rfl (by first | omega | (simp; omega)) rfl ?_ <;> intro _)
      | (refine W_sliceLo rfl rfl (by first | exact .inl rfl | assumption) rfl (by first | omega | (simp; omega)) rfl ?_ <;> intro _)
      | (refine W_sliceHi rfl rfl (by first | exact .inl rfl | assumption) rfl (by first | omega | (simp; omega)) rfl ?_ <;> intro _)
      | refine W_skip rfl ?_
      | refine WS_nil ?_)
    | refine WC_seq ?_
    | refine WC_opsS ?_
    | refine WC_skip ?_
    | refine WC_condT rfl ?_
    | refine WC_condF rfl ?_
    | refine WC_block ?_
    | refine WC_exit ?_
    | refine WC_ret ?_)
    exact hQ _ _ H n1 n2 n3 n4 rfl
  | cons x post ih =>
    intro pre hp ρ st H n1 n2 n3 n4 h0 h3 h4 Q hQ
    have hv := at_mid' hp
    have hlen : l.length = pre.length + (post.length + 1) := by rw [hp]; simp
    have hsl : (sortL pre).length = pre.length := (sort_perm pre).length_eq
    have hps := g_Push H (by omega) x
    rw [← upd_self h0, ← upd_self h3, ← upd_self h4]
    refine WC_loop ?_
    repeat' (first
    | (refine I_WS ?_; first
      | (refine I_mov ?_; first
          | refine W_skip rfl ?_
          | refine W_mov (v := .int _ _) rfl rfl rfl ?_
          | refine W_mov (v := .bool _) rfl rfl rfl ?_
          | refine W_mov (v := .slice _ _ _) rfl rfl rfl ?_
          | refine W_mov (v := .agg _) rfl rfl rfl ?_
          | refine W_mov (v := .ptr _ _) rfl rfl rfl ?_
          | refine W_mov (v := .func _ _) rfl rfl rfl ?_
          | refine W_mov (v := .eptr _ _ _ _) rfl rfl rfl ?_
          | refine W_mov (v := .rs _ _ _ _ _) rfl rfl rfl ?_
          | refine W_mov (v := .tuple _) rfl rfl rfl ?_
          | refine W_mov (v := .map _) rfl rfl rfl ?_
          | refine W_mov (v := .str _) rfl rfl rfl ?_
          | refine W_mov (v := .nilptr) rfl rfl rfl ?_)
      | (refine I_bin ?_; first
          | refine W_skip rfl ?_
          | refine W_lssT rfl rfl rfl rfl (by omega) ?_
          | refine W_lssF rfl rfl rfl rfl (by omega) ?_
          | (refine W_lss rfl rfl rfl rfl ?_ ?_ <;> intro _)
          | refine W_add rfl rfl rfl rfl (by first | exact w64 (by omega) | rfl) ?_)
      | (refine I_load ?_; first
          | refine W_skip rfl ?_
          | refine W_loadE (agg := true) (d := .agg [_, _]) rfl rfl rfl hv rfl ?_
          | refine W_load (agg := false) (d := .int _ _) rfl rfl rfl (bxc rfl) (by first | exact Nat.zero_le _ | assumption | exact Nat.le_trans hlim (Nat.zero_le _) | omega) rfl ?_
          | refine W_load (agg := false) (d := .bool _) rfl rfl rfl (bxc rfl) (by first | exact Nat.zero_le _ | assumption | exact Nat.le_trans hlim (Nat.zero_le _) | omega) rfl ?_
          | refine W_load (agg := false) (d := .slice _ _ _) rfl rfl rfl (bxc rfl) (by first | exact Nat.zero_le _ | assumption | exact Nat.le_trans hlim (Nat.zero_le _) | omega) rfl ?_
          | refine W_load (agg := false) (d := .ptr _ _) rfl rfl rfl (bxc rfl) (by first | exact Nat.zero_le _ | assumption | exact Nat.le_trans hlim (Nat.zero_le _) | omega) rfl ?_
          | refine W_load (agg := false) (d := .func _ _) rfl rfl rfl (bxc rfl) (by first | exact Nat.zero_le _ | assumption | exact Nat.le_trans hlim (Nat.zero_le _) | omega) rfl ?_
          | refine W_load (agg := true) (d := .agg [_]) rfl rfl rfl (bxc rfl) (by first | exact Nat.zero_le _ | assumption | exact Nat.le_trans hlim (Nat.zero_le _) | omega) rfl ?_
          | refine W_load (agg := true) (d := .agg [_, _]) rfl rfl rfl (bxc rfl) (by first | exact Nat.zero_le _ | assumption | exact Nat.le_trans hlim (Nat.zero_le _) | omega) rfl ?_
          | refine W_load (agg := false) (d := .int _ _) rfl rfl rfl (bxs (by omega) (bxc rfl)) (by first | exact Nat.zero_le _ | assumption | exact Nat.le_trans hlim (Nat.zero_le _) | omega) rfl ?_
          | refine W_load (agg := false) (d := .bool _) rfl rfl rfl (bxs (by omega) (bxc rfl)) (by first | exact Nat.zero_le _ | assumption | exact Nat.le_trans hlim (Nat.zero_le _) | omega) rfl ?_
          | refine W_load (agg := false) (d := .slice _ _ _) rfl rfl rfl (bxs (by omega) (bxc rfl)) (by first | exact Nat.zero_le _ | assumption | exact Nat.le_trans hlim (Nat.zero_le _) | omega) rfl ?_
          | refine W_load (agg := false) (d := .ptr _ _) rfl rfl rfl (bxs (by omega) (bxc rfl)) (by first | exact Nat.zero_le _ | assumption | exact Nat.le_trans hlim (Nat.zero_le _) | omega) rfl ?_
          | refine W_load (agg := false) (d := .func _ _) rfl rfl rfl (bxs (by omega) (bxc rfl)) (by first | exact Nat.zero_le _ | assumption | exact Nat.le_trans hlim (Nat.zero_le _) | omega) rfl ?_
          | refine W_load (agg := true) (d := .agg [_]) rfl rfl rfl (bxs (by omega) (bxc rfl)) (by first | exact Nat.zero_le _ | assumption | exact Nat.le_trans hlim (Nat.zero_le _) | omega) rfl ?_
          | refine W_load (agg := true) (d := .agg [_, _]) rfl rfl rfl (bxs (by omega) (bxc rfl)) (by first | exact Nat.zero_le _ | assumption | exact Nat.le_trans hlim (Nat.zero_le _) | omega) rfl ?_
          | refine W_load (agg := false) (d := .int _ _) rfl rfl rfl rfl (by first | exact Nat.zero_le _ | omega) rfl ?_
          | refine W_load (agg := false) (d := .bool _) rfl rfl rfl rfl (by first | exact Nat.zero_le _ | omega) rfl ?_
          | refine W_load (agg := false) (d := .slice _ _ _) rfl rfl rfl rfl (by first | exact Nat.zero_le _ | omega) rfl ?_
          | refine W_load (agg := false) (d := .ptr _ _) rfl rfl rfl rfl (by first | exact Nat.zero_le _ | omega) rfl ?_
          | refine W_load (agg := false) (d := .func _ _) rfl rfl rfl rfl (by first | exact Nat.zero_le _ | omega) rfl ?_
          | refine W_load (agg := true) (d := .agg [_]) rfl rfl rfl rfl (by first | exact Nat.zero_le _ | omega) rfl ?_
          | refine W_load (agg := true) (d := .agg [_, _]) rfl rfl rfl rfl (by first | exact Nat.zero_le _ | omega) rfl ?_)
      | (refine I_call ?_; first
          | refine W_skip rfl ?_
          | (refine W_callRWX rfl rfl rfl hps ?_ <;> intro r1 st1 hp1))
      | (refine I_build ?_; first
          | refine W_build (cs := [_]) rfl rfl rfl ?_
          | refine W_build (cs := [_, _]) rfl rfl rfl ?_
          | refine W_skip rfl ?_)
      | (refine I_box ?_; first
          | refine W_boxA rfl rfl rfl rfl rfl ?_
          | refine W_box1 (v := .slice _ _ _) rfl rfl rfl rfl rfl ?_
          | refine W_box1 (v := .int _ _) rfl rfl rfl rfl rfl ?_
          | refine W_box1 (v := .bool _) rfl rfl rfl rfl rfl ?_
          | refine W_box1 (v := .ptr _ _) rfl rfl rfl rfl rfl ?_
          | refine W_skip rfl ?_)
      | refine W_lenS0 rfl rfl rfl ?_
      | refine W_lenM rfl rfl rfl ?_
      | refine W_lenS rfl rfl rfl ?_
      | refine W_lenR rfl rfl rfl ?_
      | refine W_skip rfl ?_
      | refine W_iaddr rfl rfl rfl rfl (by first | rfl | exact sz_of (by assumption) (by omega)) (by first | decide | (simp only [List.length_map]; omega)) ?_
      | refine W_iaddrRN rfl rfl rfl rfl rfl (by decide) ?_
      | refine W_iaddrR rfl rfl rfl rfl (by first | decide | omega) ?_
      | (refine W_sliceLoN rfl rfl (by first | exact .inl rfl | assumption) rfl (by first | omega | (simp; omega)) rfl ?_ <;> intro _)
      | (refine W_sliceHiN rfl rfl (by first | exact .inl rfl | assumption) rfl (by first | omega | (simp; omega)) rfl ?_ <;> intro _)
      | (refine W_sliceLo rfl rfl (by first | exact .inl rfl | assumption) rfl (by first | omega | (simp; omega)) rfl ?_ <;> intro _)
      | (refine W_sliceHi rfl rfl (by first | exact .inl rfl | assumption) rfl (by first | omega | (simp; omega)) rfl ?_ <;> intro _)
      | refine W_skip rfl ?_
      | refine WS_nil ?_)
    | refine WC_seq ?_
    | refine WC_opsS ?_
    | refine WC_skip ?_
    | refine WC_condT rfl ?_
    | refine WC_condF rfl ?_
    | refine WC_block ?_
    | refine WC_exit ?_
    | refine WC_ret ?_)
    obtain ⟨rfl, H1, F1⟩ := hp1
    repeat' (first
    | (refine I_WS ?_; first
      | (refine I_mov ?_; first
          | refine W_skip rfl ?_
          | refine W_mov (v := .int _ _) rfl rfl rfl ?_
          | refine W_mov (v := .bool _) rfl rfl rfl ?_
          | refine W_mov (v := .slice _ _ _) rfl rfl rfl ?_
          | refine W_mov (v := .agg _) rfl rfl rfl ?_
          | refine W_mov (v := .ptr _ _) rfl rfl rfl ?_
          | refine W_mov (v := .func _ _) rfl rfl rfl ?_
          | refine W_mov (v := .eptr _ _ _ _) rfl rfl rfl ?_
          | refine W_mov (v := .rs _ _ _ _ _) rfl rfl rfl ?_
          | refine W_mov (v := .tuple _) rfl rfl rfl ?_
          | refine W_mov (v := .map _) rfl rfl rfl ?_
          | refine W_mov (v := .str _) rfl rfl rfl ?_
          | refine W_mov (v := .nilptr) rfl rfl rfl ?_)
      | (refine I_bin ?_; first
          | refine W_skip rfl ?_
          | refine W_lssT rfl rfl rfl rfl (by omega) ?_
          | refine W_lssF rfl rfl rfl rfl (by omega) ?_
          | (refine W_lss rfl rfl rfl rfl ?_ ?_ <;> intro _)
          | refine W_add rfl rfl rfl rfl (by first | exact w64 (by omega) | rfl) ?_)
      | (refine I_load ?_; first
          | refine W_skip rfl ?_
          | refine W_load (agg := false) (d := .int _ _) rfl rfl rfl (bxc rfl) (by first | exact Nat.zero_le _ | assumption | exact Nat.le_trans hlim (Nat.zero_le _) | omega) rfl ?_
          | refine W_load (agg := false) (d := .bool _) rfl rfl rfl (bxc rfl) (by first | exact Nat.zero_le _ | assumption | exact Nat.le_trans hlim (Nat.zero_le _) | omega) rfl ?_
          | refine W_load (agg := false) (d := .slice _ _ _) rfl rfl rfl (bxc rfl) (by first | exact Nat.zero_le _ | assumption | exact Nat.le_trans hlim (Nat.zero_le _) | omega) rfl ?_
          | refine W_load (agg := false) (d := .ptr _ _) rfl rfl rfl (bxc rfl) (by first | exact Nat.zero_le _ | assumption | exact Nat.le_trans hlim (Nat.zero_le _) | omega) rfl ?_
          | refine W_load (agg := false) (d := .func _ _) rfl rfl rfl (bxc rfl) (by first | exact Nat.zero_le _ | assumption | exact Nat.le_trans hlim (Nat.zero_le _) | omega) rfl ?_
          | refine W_load (agg := true) (d := .agg [_]) rfl rfl rfl (bxc rfl) (by first | exact Nat.zero_le _ | assumption | exact Nat.le_trans hlim (Nat.zero_le _) | omega) rfl ?_
          | refine W_load (agg := true) (d := .agg [_, _]) rfl rfl rfl (bxc rfl) (by first | exact Nat.zero_le _ | assumption | exact Nat.le_trans hlim (Nat.zero_le _) | omega) rfl ?_
          | refine W_load (agg := false) (d := .int _ _) rfl rfl rfl (bxs (by omega) (bxc rfl)) (by first | exact Nat.zero_le _ | assumption | exact Nat.le_trans hlim (Nat.zero_le _) | omega) rfl ?_
          | refine W_load (agg := false) (d := .bool _) rfl rfl rfl (bxs (by omega) (bxc rfl)) (by first | exact Nat.zero_le _ | assumption | exact Nat.le_trans hlim (Nat.zero_le _) | omega) rfl ?_
          | refine W_load (agg := false) (d := .slice _ _ _) rfl rfl rfl (bxs (by omega) (bxc rfl)) (by first | exact Nat.zero_le _ | assumption | exact Nat.le_trans hlim (Nat.zero_le _) | omega) rfl ?_
          | refine W_load (agg := false) (d := .ptr _ _) rfl rfl rfl (bxs (by omega) (bxc rfl)) (by first | exact Nat.zero_le _ | assumption | exact Nat.le_trans hlim (Nat.zero_le _) | omega) rfl ?_
          | refine W_load (agg := false) (d := .func _ _) rfl rfl rfl (bxs (by omega) (bxc rfl)) (by first | exact Nat.zero_le _ | assumption | exact Nat.le_trans hlim (Nat.zero_le _) | omega) rfl ?_
          | refine W_load (agg := true) (d := .agg [_]) rfl rfl rfl (bxs (by omega) (bxc rfl)) (by first | exact Nat.zero_le _ | assumption | exact Nat.le_trans hlim (Nat.zero_le _) | omega) rfl ?_
          | refine W_load (agg := true) (d := .agg [_, _]) rfl rfl rfl (bxs (by omega) (bxc rfl)) (by first | exact Nat.zero_le _ | assumption | exact Nat.le_trans hlim (Nat.zero_le _) | omega) rfl ?_
          | refine W_load (agg := false) (d := .int _ _) rfl rfl rfl rfl (by first | exact Nat.zero_le _ | omega) rfl ?_
          | refine W_load (agg := false) (d := .bool _) rfl rfl rfl rfl (by first | exact Nat.zero_le _ | omega) rfl ?_
          | refine W_load (agg := false) (d := .slice _ _ _) rfl rfl rfl rfl (by first | exact Nat.zero_le _ | omega) rfl ?_
          | refine W_load (agg := false) (d := .ptr _ _) rfl rfl rfl rfl (by first | exact Nat.zero_le _ | omega) rfl ?_
          | refine W_load (agg := false) (d := .func _ _) rfl rfl rfl rfl (by first | exact Nat.zero_le _ | omega) rfl ?_
          | refine W_load (agg := true) (d := .agg [_]) rfl rfl rfl rfl (by first | exact Nat.zero_le _ | omega) rfl ?_
          | refine W_load (agg := true) (d := .agg [_, _]) rfl rfl rfl rfl (by first | exact Nat.zero_le _ | omega) rfl ?_)
      | (refine I_call ?_; first
          | refine W_skip rfl ?_)
      | (refine I_build ?_; first
          | refine W_build (cs := [_]) rfl rfl rfl ?_
          | refine W_build (cs := [_, _]) rfl rfl rfl ?_
          | refine W_skip rfl ?_)
      | (refine I_box ?_; first
          | refine W_boxA rfl rfl rfl rfl rfl ?_
          | refine W_box1 (v := .slice _ _ _) rfl rfl rfl rfl rfl ?_
          | refine W_box1 (v := .int _ _) rfl rfl rfl rfl rfl ?_
          | refine W_box1 (v := .bool _) rfl rfl rfl rfl rfl ?_
          | refine W_box1 (v := .ptr _ _) rfl rfl rfl rfl rfl ?_
          | refine W_skip rfl ?_)
      | refine W_lenS0 rfl rfl rfl ?_
      | refine W_lenM rfl rfl rfl ?_
      | refine W_lenS rfl rfl rfl ?_
      | refine W_lenR rfl rfl rfl ?_
      | refine W_skip rfl ?_
      | refine W_iaddr rfl rfl rfl rfl (by first | rfl | exact sz_of (by assumption) (by omega)) (by first | decide | (simp only [List.length_map]; omega)) ?_
      | refine W_iaddrRN rfl rfl rfl rfl rfl (by decide) ?_
      | refine W_iaddrR rfl rfl rfl rfl (by first | decide | omega) ?_
      | (refine W_sliceLoN rfl rfl (by first | exact .inl rfl | assumption) rfl (by first | omega | (simp; omega)) rfl ?_ <;> intro _)
      | (refine W_sliceHiN rfl rfl (by first | exact .inl rfl | assumption) rfl (by first | omega | (simp; omega)) rfl ?_ <;> intro _)
      | (refine W_sliceLo rfl rfl (by first | exact .inl rfl | assumption) rfl (by first | omega | (simp; omega)) rfl ?_ <;> intro _)
      | (refine W_sliceHi rfl rfl (by first | exact .inl rfl | assumption) rfl (by first | omega | (simp; omega)) rfl ?_ <;> intro _)
      | refine W_skip rfl ?_
      | refine WS_nil ?_)
    | refine WC_seq ?_
    | refine WC_opsS ?_
    | refine WC_skip ?_
    | refine WC_condT rfl ?_
    | refine WC_condF rfl ?_
    | refine WC_block ?_
    | refine WC_exit ?_
    | refine WC_ret ?_)
    refine ih (pre ++ [x]) (by simp [hp]) _ st1 (by rw [show sortL (pre ++ [x]) = ins x (sortL pre) by simp [sortL]]; exact H1) (F1.lim.trans n1) (F1.tlim.trans n2) (Nat.le_trans n3 F1.next) (fun q hq => ?_) ?_ ?_ ?_ Q hQ
    · rw [F1.box q (Nat.lt_of_lt_of_le hq n3) (by omega)]
      exact n4 q hq
    · rfl
    · rfl
    · rw [List.length_append]; rfl
theorem g_New (l : List Rd) (hll : l.length ≤ 1000) (st : Store) (hl : st.lim ≤ st.next) (ht : st.tlim ≤ st.ntok) :
    EvRWX Γ 15 [.slice .no 2 (l.map Rd.e)] st (fun r st' => ∃ g, r = .ptr g 0 ∧ st.next ≤ g ∧ RHp st' g (sortL l) ∧ st'.lim = st.lim ∧ st'.tlim = st.tlim ∧ st.next ≤ st'.next ∧ ∀ q, q < st.next → st'.boxes q = st.boxes q) := by
  refine EvRWX_code rfl rfl ?_
  repeat' (first
    | (refine I_WS ?_; first
      | (refine I_mov ?_; first
          | refine W_skip rfl ?_
          | refine W_mov (v := .int _ _) rfl rfl rfl ?_
          | refine W_mov (v := .bool _) rfl rfl rfl ?_
          | refine W_mov (v := .slice _ _ _) rfl rfl rfl ?_
          | refine W_mov (v := .agg _) rfl rfl rfl ?_
          | refine W_mov (v := .ptr _ _) rfl rfl rfl ?_
          | refine W_mov (v := .func _ _) rfl rfl rfl ?_
          | refine W_mov (v := .eptr _ _ _ _) rfl rfl rfl ?_
          | refine W_mov (v := .rs _ _ _ _ _) rfl rfl rfl ?_
          | refine W_mov (v := .tuple _) rfl rfl rfl ?_
          | refine W_mov (v := .map _) rfl rfl rfl ?_
          | refine W_mov (v := .str _) rfl rfl rfl ?_
          | refine W_mov (v := .nilptr) rfl rfl rfl ?_)
      | (refine I_bin ?_; first
          | refine W_skip rfl ?_
          | refine W_lssT rfl rfl rfl rfl (by omega) ?_
          | refine W_lssF rfl rfl rfl rfl (by omega) ?_
          | (refine W_lss rfl rfl rfl rfl ?_ ?_ <;> intro _)
          | refine W_add rfl rfl rfl rfl (by first | exact w64 (by omega) | rfl) ?_)
      | (refine I_load ?_; first
          | refine W_skip rfl ?_
          | refine W_load (agg := false) (d := .int _ _) rfl rfl rfl (bxc rfl) (by first | exact Nat.zero_le _ | assumption | exact Nat.le_trans hlim (Nat.zero_le _) | omega) rfl ?_
          | refine W_load (agg := false) (d := .bool _) rfl rfl rfl (bxc rfl) (by first | exact Nat.zero_le _ | assumption | exact Nat.le_trans hlim (Nat.zero_le _) | omega) rfl ?_
          | refine W_load (agg := false) (d := .slice _ _ _) rfl rfl rfl (bxc rfl) (by first | exact Nat.zero_le _ | assumption | exact Nat.le_trans hlim (Nat.zero_le _) | omega) rfl ?_
          | refine W_load (agg := false) (d := .ptr _ _) rfl rfl rfl (bxc rfl) (by first | exact Nat.zero_le _ | assumption | exact Nat.le_trans hlim (Nat.zero_le _) | omega) rfl ?_
          | refine W_load (agg := false) (d := .func _ _) rfl rfl rfl (bxc rfl) (by first | exact Nat.zero_le _ | assumption | exact Nat.le_trans hlim (Nat.zero_le _) | omega) rfl ?_
          | refine W_load (agg := true) (d := .agg [_]) rfl rfl rfl (bxc rfl) (by first | exact Nat.zero_le _ | assumption | exact Nat.le_trans hlim (Nat.zero_le _) | omega) rfl ?_
          | refine W_load (agg := true) (d := .agg [_, _]) rfl rfl rfl (bxc rfl) (by first | exact Nat.zero_le _ | assumption | exact Nat.le_trans hlim (Nat.zero_le _) | omega) rfl ?_
          | refine W_load (agg := false) (d := .int _ _) rfl rfl rfl (bxs (by omega) (bxc rfl)) (by first | exact Nat.zero_le _ | assumption | exact Nat.le_trans hlim (Nat.zero_le _) | omega) rfl ?_
          | refine W_load (agg := false) (d := .bool _) rfl rfl rfl (bxs (by omega) (bxc rfl)) (by first | exact Nat.zero_le _ | assumption | exact Nat.le_trans hlim (Nat.zero_le _) | omega) rfl ?_
          | refine W_load (agg := false) (d := .slice _ _ _) rfl rfl rfl (bxs (by omega) (bxc rfl)) (by first | exact Nat.zero_le _ | assumption | exact Nat.le_trans hlim (Nat.zero_le _) | omega) rfl ?_
          | refine W_load (agg := false) (d := .ptr _ _) rfl rfl rfl (bxs (by omega) (bxc rfl)) (by first | exact Nat.zero_le _ | assumption | exact Nat.le_trans hlim (Nat.zero_le _) | omega) rfl ?_
          | refine W_load (agg := false) (d := .func _ _) rfl rfl rfl (bxs (by omega) (bxc rfl)) (by first | exact Nat.zero_le _ | assumption | exact Nat.le_trans hlim (Nat.zero_le _) | omega) rfl ?_
          | refine W_load (agg := true) (d := .agg [_]) rfl rfl rfl (bxs (by omega) (bxc rfl)) (by first | exact Nat.zero_le _ | assumption | exact Nat.le_trans hlim (Nat.zero_le _) | omega) rfl ?_
          | refine W_load (agg := true) (d := .agg [_, _]) rfl rfl rfl (bxs (by omega) (bxc rfl)) (by first | exact Nat.zero_le _ | assumption | exact Nat.le_trans hlim (Nat.zero_le _) | omega) rfl ?_
          | refine W_load (agg := false) (d := .int _ _) rfl rfl rfl rfl (by first | exact Nat.zero_le _ | omega) rfl ?_
          | refine W_load (agg := false) (d := .bool _) rfl rfl rfl rfl (by first | exact Nat.zero_le _ | omega) rfl ?_
          | refine W_load (agg := false) (d := .slice _ _ _) rfl rfl rfl rfl (by first | exact Nat.zero_le _ | omega) rfl ?_
          | refine W_load (agg := false) (d := .ptr _ _) rfl rfl rfl rfl (by first | exact Nat.zero_le _ | omega) rfl ?_
          | refine W_load (agg := false) (d := .func _ _) rfl rfl rfl rfl (by first | exact Nat.zero_le _ | omega) rfl ?_
          | refine W_load (agg := true) (d := .agg [_]) rfl rfl rfl rfl (by first | exact Nat.zero_le _ | omega) rfl ?_
          | refine W_load (agg := true) (d := .agg [_, _]) rfl rfl rfl rfl (by first | exact Nat.zero_le _ | omega) rfl ?_)
      | (refine I_call ?_; first
          | refine W_skip rfl ?_)
      | (refine I_build ?_; first
          | refine W_build (cs := [_]) rfl rfl rfl ?_
          | refine W_build (cs := [_, _]) rfl rfl rfl ?_
          | refine W_skip rfl ?_)
      | (refine I_box ?_; first
          | refine W_boxA rfl rfl rfl rfl rfl ?_
          | refine W_box1 (v := .slice _ _ _) rfl rfl rfl rfl rfl ?_
          | refine W_box1 (v := .int _ _) rfl rfl rfl rfl rfl ?_
          | refine W_box1 (v := .bool _) rfl rfl rfl rfl rfl ?_
          | refine W_box1 (v := .ptr _ _) rfl rfl rfl rfl rfl ?_
          | refine W_skip rfl ?_)
      | refine W_lenS0 rfl rfl rfl ?_
      | refine W_lenM rfl rfl rfl ?_
      | refine W_lenS rfl rfl rfl ?_
      | refine W_lenR rfl rfl rfl ?_
      | refine W_skip rfl ?_
      | refine W_iaddr rfl rfl rfl rfl (by first | rfl | exact sz_of (by assumption) (by omega)) (by first | decide | (simp only [List.length_map]; omega)) ?_
      | refine W_iaddrRN rfl rfl rfl rfl rfl (by decide) ?_
      | refine W_iaddrR rfl rfl rfl rfl (by first | decide | omega) ?_
      | (refine W_sliceLoN rfl rfl (by first | exact .inl rfl | assumption) rfl (by first | omega | (simp; omega)) rfl ?_ <;> intro _)
      | (refine W_sliceHiN rfl rfl (by first | exact .inl rfl | assumption) rfl (by first | omega | (simp; omega)) rfl ?_ <;> intro _)
      | (refine W_sliceLo rfl rfl (by first | exact .inl rfl | assumption) rfl (by first | omega | (simp; omega)) rfl ?_ <;> intro _)
      | (refine W_sliceHi rfl rfl (by first | exact .inl rfl | assumption) rfl (by first | omega | (simp; omega)) rfl ?_ <;> intro _)
      | refine W_skip rfl ?_
      | refine WS_nil ?_)
    | refine WC_seq ?_
    | refine WC_opsS ?_
    | refine WC_skip ?_
    | refine WC_condT rfl ?_
    | refine WC_condF rfl ?_
    | refine WC_block ?_
    | refine WC_exit ?_
    | refine WC_ret ?_)
  refine l_gnew st st.next (Nat.le_refl _) l hll l [] rfl _ _ ?_ ?_ ?_ ?_ (fun q hq => ?_) ?_ ?_ ?_ _ (fun ρ' st' H a b c d h3 => ?_)
  · exact ⟨hl, Nat.lt_succ_self _, ht, .isnil, 0, upd_same _ _ _, .inr rfl⟩
  · rfl
  · rfl
  · exact Nat.le_succ _
  · exact upd_ne _ _ (Nat.ne_of_lt hq)
  · rfl
  · rfl
  · rfl
  · rw [← upd_self h3]
    repeat' (first
    | (refine I_WS ?_; first
      | (refine I_mov ?_; first
          | refine W_skip rfl ?_
          | refine W_mov (v := .int _ _) rfl rfl rfl ?_
          | refine W_mov (v := .bool _) rfl rfl rfl ?_
          | refine W_mov (v := .slice _ _ _) rfl rfl rfl ?_
          | refine W_mov (v := .agg _) rfl rfl rfl ?_
          | refine W_mov (v := .ptr _ _) rfl rfl rfl ?_
          | refine W_mov (v := .func _ _) rfl rfl rfl ?_
          | refine W_mov (v := .eptr _ _ _ _) rfl rfl rfl ?_
          | refine W_mov (v := .rs _ _ _ _ _) rfl rfl rfl ?_
          | refine W_mov (v := .tuple _) rfl rfl rfl ?_
          | refine W_mov (v := .map _) rfl rfl rfl ?_
          | refine W_mov (v := .str _) rfl rfl rfl ?_
          | refine W_mov (v := .nilptr) rfl rfl rfl ?_)
      | (refine I_bin ?_; first
          | refine W_skip rfl ?_
          | refine W_lssT rfl rfl rfl rfl (by omega) ?_
          | refine W_lssF rfl rfl rfl rfl (by omega) ?_
          | (refine W_lss rfl rfl rfl rfl ?_ ?_ <;> intro _)
          | refine W_add rfl rfl rfl rfl (by first | exact w64 (by omega) | rfl) ?_)
      | (refine I_load ?_; first
          | refine W_skip rfl ?_
          | refine W_load (agg := false) (d := .int _ _) rfl rfl rfl (bxc rfl) (by first | exact Nat.zero_le _ | assumption | exact Nat.le_trans hlim (Nat.zero_le _) | omega) rfl ?_
          | refine W_load (agg := false) (d := .bool _) rfl rfl rfl (bxc rfl) (by first | exact Nat.zero_le _ | assumption | exact Nat.le_trans hlim (Nat.zero_le _) | omega) rfl ?_
          | refine W_load (agg := false) (d := .slice _ _ _) rfl rfl rfl (bxc rfl) (by first | exact Nat.zero_le _ | assumption | exact Nat.le_trans hlim (Nat.zero_le _) | omega) rfl ?_
          | refine W_load (agg := false) (d := .ptr _ _) rfl rfl rfl (bxc rfl) (by first | exact Nat.zero_le _ | assumption | exact Nat.le_trans hlim (Nat.zero_le _) | omega) rfl ?_
          | refine W_load (agg := false) (d := .func _ _) rfl rfl rfl (bxc rfl) (by first | exact Nat.zero_le _ | assumption | exact Nat.le_trans hlim (Nat.zero_le _) | omega) rfl ?_
          | refine W_load (agg := true) (d := .agg [_]) rfl rfl rfl (bxc rfl) (by first | exact Nat.zero_le _ | assumption | exact Nat.le_trans hlim (Nat.zero_le _) | omega) rfl ?_
          | refine W_load (agg := true) (d := .agg [_, _]) rfl rfl rfl (bxc rfl) (by first | exact Nat.zero_le _ | assumption | exact Nat.le_trans hlim (Nat.zero_le _) | omega) rfl ?_
          | refine W_load (agg := false) (d := .int _ _) rfl rfl rfl (bxs (by omega) (bxc rfl)) (by first | exact Nat.zero_le _ | assumption | exact Nat.le_trans hlim (Nat.zero_le _) | omega) rfl ?_
          | refine W_load (agg := false) (d := .bool _) rfl rfl rfl (bxs (by omega) (bxc rfl)) (by first | exact Nat.zero_le _ | assumption | exact Nat.le_trans hlim (Nat.zero_le _) | omega) rfl ?_
          | refine W_load (agg := false) (d := .slice _ _ _) rfl rfl rfl (bxs (by omega) (bxc rfl)) (by first | exact Nat.zero_le _ | assumption | exact Nat.le_trans hlim (Nat.zero_le _) | omega) rfl ?_
          | refine W_load (agg := false) (d := .ptr _ _) rfl rfl rfl (bxs (by omega) (bxc rfl)) (by first | exact Nat.zero_le _ | assumption | exact Nat.le_trans hlim (Nat.zero_le _) | omega) rfl ?_
          | refine W_load (agg := false) (d := .func _ _) rfl rfl rfl (bxs (by omega) (bxc rfl)) (by first | exact Nat.zero_le _ | assumption | exact Nat.le_trans hlim (Nat.zero_le _) | omega) rfl ?_
          | refine W_load (agg := true) (d := .agg [_]) rfl rfl rfl (bxs (by omega) (bxc rfl)) (by first | exact Nat.zero_le _ | assumption | exact Nat.le_trans hlim (Nat.zero_le _) | omega) rfl ?_
          | refine W_load (agg := true) (d := .agg [_, _]) rfl rfl rfl (bxs (by omega) (bxc rfl)) (by first | exact Nat.zero_le _ | assumption | exact Nat.le_trans hlim (Nat.zero_le _) | omega) rfl ?_
          | refine W_load (agg := false) (d := .int _ _) rfl rfl rfl rfl (by first | exact Nat.zero_le _ | omega) rfl ?_
          | refine W_load (agg := false) (d := .bool _) rfl rfl rfl rfl (by first | exact Nat.zero_le _ | omega) rfl ?_
          | refine W_load (agg := false) (d := .slice _ _ _) rfl rfl rfl rfl (by first | exact Nat.zero_le _ | omega) rfl ?_
          | refine W_load (agg := false) (d := .ptr _ _) rfl rfl rfl rfl (by first | exact Nat.zero_le _ | omega) rfl ?_
          | refine W_load (agg := false) (d := .func _ _) rfl rfl rfl rfl (by first | exact Nat.zero_le _ | omega) rfl ?_
          | refine W_load (agg := true) (d := .agg [_]) rfl rfl rfl rfl (by first | exact Nat.zero_le _ | omega) rfl ?_
          | refine W_load (agg := true) (d := .agg [_, _]) rfl rfl rfl rfl (by first | exact Nat.zero_le _ | omega) rfl ?_)
      | (refine I_call ?_; first
          | refine W_skip rfl ?_)
      | (refine I_build ?_; first
          | refine W_build (cs := [_]) rfl rfl rfl ?_
          | refine W_build (cs := [_, _]) rfl rfl rfl ?_
          | refine W_skip rfl ?_)
      | (refine I_box ?_; first
          | refine W_boxA rfl rfl rfl rfl rfl ?_
          | refine W_box1 (v := .slice _ _ _) rfl rfl rfl rfl rfl ?_
          | refine W_box1 (v := .int _ _) rfl rfl rfl rfl rfl ?_
          | refine W_box1 (v := .bool _) rfl rfl rfl rfl rfl ?_
          | refine W_box1 (v := .ptr _ _) rfl rfl rfl rfl rfl ?_
          | refine W_skip rfl ?_)
      | refine W_lenS0 rfl rfl rfl ?_
      | refine W_lenM rfl rfl rfl ?_
      | refine W_lenS rfl rfl rfl ?_
      | refine W_lenR rfl rfl rfl ?_
      | refine W_skip rfl ?_
      | refine W_iaddr rfl rfl rfl rfl (by first | rfl | exact sz_of (by assumption) (by omega)) (by first | decide | (simp only [List.length_map]; omega)) ?_
      | refine W_iaddrRN rfl rfl rfl rfl rfl (by decide) ?_
      | refine W_iaddrR rfl rfl rfl rfl (by first | decide | omega) ?_
      | (refine W_sliceLoN rfl rfl (by first | exact .inl rfl | assumption) rfl (by first | omega | (simp; omega)) rfl ?_ <;> intro _)
      | (refine W_sliceHiN rfl rfl (by first | exact .inl rfl | assumption) rfl (by first | omega | (simp; omega)) rfl ?_ <;> intro _)
      | (refine W_sliceLo rfl rfl (by first | exact .inl rfl | assumption) rfl (by first | omega | (simp; omega)) rfl ?_ <;> intro _)
      | (refine W_sliceHi rfl rfl (by first | exact .inl rfl | assumption) rfl (by first | omega | (simp; omega)) rfl ?_ <;> intro _)
      | refine W_skip rfl ?_
      | refine WS_nil ?_)
    | refine WC_seq ?_
    | refine WC_opsS ?_
    | refine WC_skip ?_
    | refine WC_condT rfl ?_
    | refine WC_condF rfl ?_
    | refine WC_block ?_
    | refine WC_exit ?_
    | refine WC_ret ?_)
    exact ⟨.inr rfl, _, rfl, _, rfl, Nat.le_refl _, H, a, b, c, d⟩
/-- A call. -/
structure Ct where
  do' : Int
  r : Rd
def Ct.e (a : Ct) : D := .agg [.int .i64 a.do', .int .i64 a.r.node, .int .i64 a.r.at']
theorem ct_at {acts pre post : List Ct} {a : Ct} (h : acts = pre ++ a :: post) : acts[pre.length]? = some a := by rw [h]; simp
theorem ins_tail_len (r : Rd) (s : List Rd) : (ins r s).length = s.length + 1 := by
  have := (ins_perm r s).length_eq
  simpa using this
set_option maxHeartbeats 4000000 in
theorem l_tells (h g : Nat) (hg : g ≠ h) (acts : List Ct) (h200 : acts.length ≤ 200) : ∀ (post pre : List Ct), acts = pre ++ post → ∀ (ρ : Nat → D) (st : Store) (o : Option Nat) (s : List Rd), AH st h o s → RHp st g s → some g ≠ o → s.length ≤ 100 + pre.length →
    ρ 1 = .slice .no 3 (acts.map Ct.e) → ρ 5 = .bool true → ρ 6 = .ptr h 0 → ρ 7 = .ptr g 0 → ρ 8 = .int .i64 pre.length → ∀ (Q : X → (Nat → D) → Store → Prop),
    (∀ ρ' st', ρ' 5 = .bool true → Q (.exit 0) ρ' st') → WC Γ (.loop c_feluccalaw14_HeapTells_l0) ρ st Q := by
  intro post
  induction post with
  | nil =>
    intro pre hp ρ st o s H G ho hs h1 h5 h6 h7 h8 Q hQ
    rw [List.append_nil] at hp
    subst hp
    rw [← upd_self h1, ← upd_self h5, ← upd_self h6, ← upd_self h7, ← upd_self h8]
    refine WC_loop ?_
    repeat' (first
    | (refine I_WS ?_; first
      | (refine I_mov ?_; first
          | refine W_skip rfl ?_
          | refine W_mov (v := .int _ _) rfl rfl rfl ?_
          | refine W_mov (v := .bool _) rfl rfl rfl ?_
          | refine W_mov (v := .slice _ _ _) rfl rfl rfl ?_
          | refine W_mov (v := .agg _) rfl rfl rfl ?_
          | refine W_mov (v := .ptr _ _) rfl rfl rfl ?_
          | refine W_mov (v := .func _ _) rfl rfl rfl ?_
          | refine W_mov (v := .eptr _ _ _ _) rfl rfl rfl ?_
          | refine W_mov (v := .rs _ _ _ _ _) rfl rfl rfl ?_
          | refine W_mov (v := .tuple _) rfl rfl rfl ?_
          | refine W_mov (v := .map _) rfl rfl rfl ?_
          | refine W_mov (v := .str _) rfl rfl rfl ?_
          | refine W_mov (v := .nilptr) rfl rfl rfl ?_)
      | (refine I_bin ?_; first
          | refine W_skip rfl ?_
          | refine W_lssT rfl rfl rfl rfl (by omega) ?_
          | refine W_lssF rfl rfl rfl rfl (by omega) ?_
          | (refine W_lss rfl rfl rfl rfl ?_ ?_ <;> intro _)
          | refine W_gtrT rfl rfl rfl rfl (by omega) ?_
          | refine W_gtrF rfl rfl rfl rfl (by omega) ?_
          | (refine W_gtr rfl rfl rfl rfl ?_ ?_ <;> intro _)
          | refine W_eqlT rfl rfl rfl rfl (by omega) ?_
          | refine W_eqlF rfl rfl rfl rfl (by omega) ?_
          | (refine W_eql rfl rfl rfl rfl ?_ ?_ <;> intro _)
          | refine W_neqT rfl rfl rfl rfl (by omega) ?_
          | refine W_neqF rfl rfl rfl rfl (by omega) ?_
          | (refine W_neq rfl rfl rfl rfl ?_ ?_ <;> intro _)
          | refine W_add rfl rfl rfl rfl (by first | exact w64 (by omega) | rfl) ?_)
      | (refine I_load ?_; first
          | refine W_skip rfl ?_
          | refine W_load (agg := false) (d := .int _ _) rfl rfl rfl (bxc rfl) (by first | exact Nat.zero_le _ | assumption | exact Nat.le_trans hlim (Nat.zero_le _) | omega) rfl ?_
          | refine W_load (agg := false) (d := .bool _) rfl rfl rfl (bxc rfl) (by first | exact Nat.zero_le _ | assumption | exact Nat.le_trans hlim (Nat.zero_le _) | omega) rfl ?_
          | refine W_load (agg := false) (d := .slice _ _ _) rfl rfl rfl (bxc rfl) (by first | exact Nat.zero_le _ | assumption | exact Nat.le_trans hlim (Nat.zero_le _) | omega) rfl ?_
          | refine W_load (agg := false) (d := .ptr _ _) rfl rfl rfl (bxc rfl) (by first | exact Nat.zero_le _ | assumption | exact Nat.le_trans hlim (Nat.zero_le _) | omega) rfl ?_
          | refine W_load (agg := false) (d := .func _ _) rfl rfl rfl (bxc rfl) (by first | exact Nat.zero_le _ | assumption | exact Nat.le_trans hlim (Nat.zero_le _) | omega) rfl ?_
          | refine W_load (agg := true) (d := .agg [_, _]) rfl rfl rfl (bxc rfl) (by first | exact Nat.zero_le _ | assumption | exact Nat.le_trans hlim (Nat.zero_le _) | omega) rfl ?_
          | refine W_load (agg := false) (d := .int _ _) rfl rfl rfl (bxs (by omega) (bxc rfl)) (by first | exact Nat.zero_le _ | assumption | exact Nat.le_trans hlim (Nat.zero_le _) | omega) rfl ?_
          | refine W_load (agg := false) (d := .bool _) rfl rfl rfl (bxs (by omega) (bxc rfl)) (by first | exact Nat.zero_le _ | assumption | exact Nat.le_trans hlim (Nat.zero_le _) | omega) rfl ?_
          | refine W_load (agg := false) (d := .slice _ _ _) rfl rfl rfl (bxs (by omega) (bxc rfl)) (by first | exact Nat.zero_le _ | assumption | exact Nat.le_trans hlim (Nat.zero_le _) | omega) rfl ?_
          | refine W_load (agg := false) (d := .ptr _ _) rfl rfl rfl (bxs (by omega) (bxc rfl)) (by first | exact Nat.zero_le _ | assumption | exact Nat.le_trans hlim (Nat.zero_le _) | omega) rfl ?_
          | refine W_load (agg := false) (d := .func _ _) rfl rfl rfl (bxs (by omega) (bxc rfl)) (by first | exact Nat.zero_le _ | assumption | exact Nat.le_trans hlim (Nat.zero_le _) | omega) rfl ?_
          | refine W_load (agg := true) (d := .agg [_, _]) rfl rfl rfl (bxs (by omega) (bxc rfl)) (by first | exact Nat.zero_le _ | assumption | exact Nat.le_trans hlim (Nat.zero_le _) | omega) rfl ?_
          | refine W_load (agg := false) (d := .int _ _) rfl rfl rfl rfl (by first | exact Nat.zero_le _ | omega) rfl ?_
          | refine W_load (agg := false) (d := .bool _) rfl rfl rfl rfl (by first | exact Nat.zero_le _ | omega) rfl ?_
          | refine W_load (agg := false) (d := .slice _ _ _) rfl rfl rfl rfl (by first | exact Nat.zero_le _ | omega) rfl ?_
          | refine W_load (agg := false) (d := .ptr _ _) rfl rfl rfl rfl (by first | exact Nat.zero_le _ | omega) rfl ?_
          | refine W_load (agg := false) (d := .func _ _) rfl rfl rfl rfl (by first | exact Nat.zero_le _ | omega) rfl ?_
          | refine W_load (agg := true) (d := .agg [_, _]) rfl rfl rfl rfl (by first | exact Nat.zero_le _ | omega) rfl ?_)
      | (refine I_call ?_; first
          | refine W_skip rfl ?_)
      | (refine I_pick ?_; first
          | refine W_pick (v := .int _ _) rfl rfl rfl rfl ?_
          | refine W_pick (v := .bool _) rfl rfl rfl rfl ?_
          | refine W_pick (v := .slice _ _ _) rfl rfl rfl rfl ?_
          | refine W_pick (v := .agg _) rfl rfl rfl rfl ?_
          | refine W_skip rfl ?_)
      | (refine I_extract ?_; first
          | refine W_extract (d := .int _ _) rfl rfl rfl rfl ?_
          | refine W_extract (d := .bool _) rfl rfl rfl rfl ?_
          | refine W_extract (d := .slice _ _ _) rfl rfl rfl rfl ?_
          | refine W_extract (d := .agg _) rfl rfl rfl rfl ?_
          | refine W_extract (d := .ptr _ _) rfl rfl rfl rfl ?_
          | refine W_extract (d := .func _ _) rfl rfl rfl rfl ?_
          | refine W_skip rfl ?_)
      | (refine I_store ?_; first
          | refine W_store (cs' := [_, _]) rfl rfl (upd_same _ _ _) rfl (by first | exact Nat.zero_le _ | assumption | exact Nat.le_trans hlim (Nat.zero_le _) | omega) rfl rfl rfl ?_
          | refine W_store (cs' := [_, _]) rfl rfl ((upd_ne _ _ (by omega)).trans (upd_same _ _ _)) rfl (by first | exact Nat.zero_le _ | assumption | exact Nat.le_trans hlim (Nat.zero_le _) | omega) rfl rfl rfl ?_
          | refine W_store (cs' := [_, _]) rfl rfl rfl rfl (by first | exact Nat.zero_le _ | omega) rfl rfl rfl ?_
          | refine W_skip0 rfl ?_)
      | (refine W_eqlB rfl rfl rfl rfl ?_)
      | (refine W_neqB rfl rfl rfl rfl ?_)
      | (refine W_eqlP rfl rfl rfl rfl rfl rfl (eqAt3 _ _ _ _ _ _) ?_ ?_ <;> intro hq)
      | (refine W_eqlP rfl rfl rfl rfl rfl rfl (eqAt4 _ _ _ _ _ _ _ _) ?_ ?_ <;> intro hq)
      | (refine W_neqP rfl rfl rfl rfl rfl rfl (eqAt3 _ _ _ _ _ _) ?_ ?_ <;> intro hq)
      | (refine W_neqP rfl rfl rfl rfl rfl rfl (eqAt4 _ _ _ _ _ _ _ _) ?_ ?_ <;> intro hq)
      | (refine W_eqlP rfl rfl rfl rfl rfl rfl rfl ?_ ?_ <;> intro _)
      | (refine W_neqP rfl rfl rfl rfl rfl rfl rfl ?_ ?_ <;> intro _)
      | refine W_lenS0 rfl rfl rfl ?_
      | refine W_lenM rfl rfl rfl ?_
      | refine W_lenS rfl rfl rfl ?_
      | refine W_lenR rfl rfl rfl ?_
      | refine W_faddr rfl rfl rfl ?_
      | refine W_faddrE rfl rfl rfl ?_
      | refine W_eqlNil rfl rfl rfl ?_
      | refine W_faddrM rfl rfl ?_
      | refine W_alloc rfl rfl ?_
      | refine W_skip rfl ?_
      | refine W_iaddr rfl rfl rfl rfl (by first | rfl | exact sz_of (by assumption) (by omega)) (by first | decide | (simp only [List.length_map]; omega)) ?_
      | refine W_iaddrRN rfl rfl rfl rfl rfl (by decide) ?_
      | refine W_iaddrR rfl rfl rfl rfl (by first | decide | omega) ?_
      | refine W_skip rfl ?_
      | refine WS_nil ?_)
    | refine WC_seq ?_
    | refine WC_opsS ?_
    | refine WC_skip ?_
    | refine WC_condT rfl ?_
    | refine WC_condF rfl ?_
    | refine WC_block ?_
    | refine WC_exit ?_
    | refine WC_ret ?_)
    exact hQ _ _ rfl
  | cons a post ih =>
    intro pre hp ρ st o s H G ho hs h1 h5 h6 h7 h8 Q hQ
    have hv := ct_at hp
    have hlen : acts.length = pre.length + (post.length + 1) := by rw [hp]; simp
    have hpl : pre.length < (acts.map Ct.e).length := by simp; omega
    have hlt : (pre.length : Int) < acts.length := by omega
    have hfr : ∀ {st' : Store}, Fg st st' g → AH st' h o s := fun {st'} F => H.of F.lim F.next (fun q hq hq2 => F.box q hq (by
      rcases hq2 with rfl | hq2
      · exact Ne.symm hg
      · rintro rfl; exact ho hq2))
    -- what comes behind the switch
    have hrest : ∀ (ρ' : Nat → D) (st' : Store) (o' : Option Nat) (s' : List Rd), AH st' h o' s' → RHp st' g s' → some g ≠ o' → s'.length ≤ 101 + pre.length → ρ' 1 = .slice .no 3 (acts.map Ct.e) → ρ' 5 = .bool true → ρ' 6 = .ptr h 0 → ρ' 7 = .ptr g 0 → ρ' 8 = .int .i64 (pre.length + 1 : Nat) → WC Γ (.loop c_feluccalaw14_HeapTells_l0) ρ' st' Q :=
      fun ρ' st' o' s' q1 q2 q3 q4 q5 q6 q7 q8 q9 => ih (pre ++ [a]) (by simp [hp]) ρ' st' o' s' q1 q2 q3 (by simp; omega) q5 q6 q7 q8 (by rw [q9]; simp) Q hQ
    clear ih hQ
    rw [← upd_self h1, ← upd_self h5, ← upd_self h6, ← upd_self h7, ← upd_self h8]
    clear h1 h5 h6 h7 h8
    refine WC_loop ?_
    by_cases hd0 : a.do' = 0
    · have hp1 := s_PushA H (by omega) a.r
      repeat' (first
    | (refine I_WS ?_; first
      | refine W_iaddr (j := pre.length) rfl rfl rfl rfl rfl hpl ?_
      | (refine I_mov ?_; first
          | refine W_skip rfl ?_
          | refine W_mov (v := .int _ _) rfl rfl rfl ?_
          | refine W_mov (v := .bool _) rfl rfl rfl ?_
          | refine W_mov (v := .slice _ _ _) rfl rfl rfl ?_
          | refine W_mov (v := .agg _) rfl rfl rfl ?_
          | refine W_mov (v := .ptr _ _) rfl rfl rfl ?_
          | refine W_mov (v := .func _ _) rfl rfl rfl ?_
          | refine W_mov (v := .eptr _ _ _ _) rfl rfl rfl ?_
          | refine W_mov (v := .rs _ _ _ _ _) rfl rfl rfl ?_
          | refine W_mov (v := .tuple _) rfl rfl rfl ?_
          | refine W_mov (v := .map _) rfl rfl rfl ?_
          | refine W_mov (v := .str _) rfl rfl rfl ?_
          | refine W_mov (v := .nilptr) rfl rfl rfl ?_)
      | (refine I_bin ?_; first
          | refine W_skip rfl ?_
          | refine W_lssT rfl rfl rfl rfl (by omega) ?_
          | refine W_lssF rfl rfl rfl rfl (by omega) ?_
          | (refine W_lss rfl rfl rfl rfl ?_ ?_ <;> intro _)
          | refine W_gtrT rfl rfl rfl rfl (by omega) ?_
          | refine W_gtrF rfl rfl rfl rfl (by omega) ?_
          | (refine W_gtr rfl rfl rfl rfl ?_ ?_ <;> intro _)
          | refine W_eqlT rfl rfl rfl rfl (by omega) ?_
          | refine W_eqlF rfl rfl rfl rfl (by omega) ?_
          | (refine W_eql rfl rfl rfl rfl ?_ ?_ <;> intro _)
          | refine W_neqT rfl rfl rfl rfl (by omega) ?_
          | refine W_neqF rfl rfl rfl rfl (by omega) ?_
          | (refine W_neq rfl rfl rfl rfl ?_ ?_ <;> intro _)
          | refine W_add rfl rfl rfl rfl (by first | exact w64 (by omega) | rfl) ?_)
      | (refine I_load ?_; first
          | refine W_skip rfl ?_
          | refine W_loadE (agg := false) (d := .int _ _) rfl rfl rfl hv rfl ?_
          | refine W_loadE (agg := true) (d := .agg [_, _]) rfl rfl rfl hv rfl ?_
          | refine W_load (agg := false) (d := .int _ _) rfl rfl rfl (bxc rfl) (by first | exact Nat.zero_le _ | assumption | exact Nat.le_trans hlim (Nat.zero_le _) | omega) rfl ?_
          | refine W_load (agg := false) (d := .bool _) rfl rfl rfl (bxc rfl) (by first | exact Nat.zero_le _ | assumption | exact Nat.le_trans hlim (Nat.zero_le _) | omega) rfl ?_
          | refine W_load (agg := false) (d := .slice _ _ _) rfl rfl rfl (bxc rfl) (by first | exact Nat.zero_le _ | assumption | exact Nat.le_trans hlim (Nat.zero_le _) | omega) rfl ?_
          | refine W_load (agg := false) (d := .ptr _ _) rfl rfl rfl (bxc rfl) (by first | exact Nat.zero_le _ | assumption | exact Nat.le_trans hlim (Nat.zero_le _) | omega) rfl ?_
          | refine W_load (agg := false) (d := .func _ _) rfl rfl rfl (bxc rfl) (by first | exact Nat.zero_le _ | assumption | exact Nat.le_trans hlim (Nat.zero_le _) | omega) rfl ?_
          | refine W_load (agg := true) (d := .agg [_, _]) rfl rfl rfl (bxc rfl) (by first | exact Nat.zero_le _ | assumption | exact Nat.le_trans hlim (Nat.zero_le _) | omega) rfl ?_
          | refine W_load (agg := false) (d := .int _ _) rfl rfl rfl (bxs (by omega) (bxc rfl)) (by first | exact Nat.zero_le _ | assumption | exact Nat.le_trans hlim (Nat.zero_le _) | omega) rfl ?_
          | refine W_load (agg := false) (d := .bool _) rfl rfl rfl (bxs (by omega) (bxc rfl)) (by first | exact Nat.zero_le _ | assumption | exact Nat.le_trans hlim (Nat.zero_le _) | omega) rfl ?_
          | refine W_load (agg := false) (d := .slice _ _ _) rfl rfl rfl (bxs (by omega) (bxc rfl)) (by first | exact Nat.zero_le _ | assumption | exact Nat.le_trans hlim (Nat.zero_le _) | omega) rfl ?_
          | refine W_load (agg := false) (d := .ptr _ _) rfl rfl rfl (bxs (by omega) (bxc rfl)) (by first | exact Nat.zero_le _ | assumption | exact Nat.le_trans hlim (Nat.zero_le _) | omega) rfl ?_
          | refine W_load (agg := false) (d := .func _ _) rfl rfl rfl (bxs (by omega) (bxc rfl)) (by first | exact Nat.zero_le _ | assumption | exact Nat.le_trans hlim (Nat.zero_le _) | omega) rfl ?_
          | refine W_load (agg := true) (d := .agg [_, _]) rfl rfl rfl (bxs (by omega) (bxc rfl)) (by first | exact Nat.zero_le _ | assumption | exact Nat.le_trans hlim (Nat.zero_le _) | omega) rfl ?_
          | refine W_load (agg := false) (d := .int _ _) rfl rfl rfl rfl (by first | exact Nat.zero_le _ | omega) rfl ?_
          | refine W_load (agg := false) (d := .bool _) rfl rfl rfl rfl (by first | exact Nat.zero_le _ | omega) rfl ?_
          | refine W_load (agg := false) (d := .slice _ _ _) rfl rfl rfl rfl (by first | exact Nat.zero_le _ | omega) rfl ?_
          | refine W_load (agg := false) (d := .ptr _ _) rfl rfl rfl rfl (by first | exact Nat.zero_le _ | omega) rfl ?_
          | refine W_load (agg := false) (d := .func _ _) rfl rfl rfl rfl (by first | exact Nat.zero_le _ | omega) rfl ?_
          | refine W_load (agg := true) (d := .agg [_, _]) rfl rfl rfl rfl (by first | exact Nat.zero_le _ | omega) rfl ?_)
      | (refine I_call ?_; first
          | refine W_skip rfl ?_
          | (refine W_callRWX rfl rfl rfl hp1 ?_ <;> intro r1 st1 hp1'))
      | (refine I_pick ?_; first
          | refine W_pick (v := .int _ _) rfl rfl rfl rfl ?_
          | refine W_pick (v := .bool _) rfl rfl rfl rfl ?_
          | refine W_pick (v := .slice _ _ _) rfl rfl rfl rfl ?_
          | refine W_pick (v := .agg _) rfl rfl rfl rfl ?_
          | refine W_skip rfl ?_)
      | (refine I_extract ?_; first
          | refine W_extract (d := .int _ _) rfl rfl rfl rfl ?_
          | refine W_extract (d := .bool _) rfl rfl rfl rfl ?_
          | refine W_extract (d := .slice _ _ _) rfl rfl rfl rfl ?_
          | refine W_extract (d := .agg _) rfl rfl rfl rfl ?_
          | refine W_extract (d := .ptr _ _) rfl rfl rfl rfl ?_
          | refine W_extract (d := .func _ _) rfl rfl rfl rfl ?_
          | refine W_skip rfl ?_)
      | (refine I_store ?_; first
          | refine W_store (cs' := [_, _]) rfl rfl (upd_same _ _ _) rfl (by first | exact Nat.zero_le _ | assumption | exact Nat.le_trans hlim (Nat.zero_le _) | omega) rfl rfl rfl ?_
          | refine W_store (cs' := [_, _]) rfl rfl ((upd_ne _ _ (by omega)).trans (upd_same _ _ _)) rfl (by first | exact Nat.zero_le _ | assumption | exact Nat.le_trans hlim (Nat.zero_le _) | omega) rfl rfl rfl ?_
          | refine W_store (cs' := [_, _]) rfl rfl rfl rfl (by first | exact Nat.zero_le _ | omega) rfl rfl rfl ?_
          | refine W_skip0 rfl ?_)
      | (refine W_eqlB rfl rfl rfl rfl ?_)
      | (refine W_neqB rfl rfl rfl rfl ?_)
      | (refine W_eqlP rfl rfl rfl rfl rfl rfl (eqAt3 _ _ _ _ _ _) ?_ ?_ <;> intro hq)
      | (refine W_eqlP rfl rfl rfl rfl rfl rfl (eqAt4 _ _ _ _ _ _ _ _) ?_ ?_ <;> intro hq)
      | (refine W_neqP rfl rfl rfl rfl rfl rfl (eqAt3 _ _ _ _ _ _) ?_ ?_ <;> intro hq)
      | (refine W_neqP rfl rfl rfl rfl rfl rfl (eqAt4 _ _ _ _ _ _ _ _) ?_ ?_ <;> intro hq)
      | (refine W_eqlP rfl rfl rfl rfl rfl rfl rfl ?_ ?_ <;> intro _)
      | (refine W_neqP rfl rfl rfl rfl rfl rfl rfl ?_ ?_ <;> intro _)
      | refine W_lenS0 rfl rfl rfl ?_
      | refine W_lenM rfl rfl rfl ?_
      | refine W_lenS rfl rfl rfl ?_
      | refine W_lenR rfl rfl rfl ?_
      | refine W_faddr rfl rfl rfl ?_
      | refine W_faddrE rfl rfl rfl ?_
      | refine W_eqlNil rfl rfl rfl ?_
      | refine W_faddrM rfl rfl ?_
      | refine W_alloc rfl rfl ?_
      | refine W_skip rfl ?_
      | refine W_iaddr rfl rfl rfl rfl (by first | rfl | exact sz_of (by assumption) (by omega)) (by first | decide | (simp only [List.length_map]; omega)) ?_
      | refine W_iaddrRN rfl rfl rfl rfl rfl (by decide) ?_
      | refine W_iaddrR rfl rfl rfl rfl (by first | decide | omega) ?_
      | refine W_skip rfl ?_
      | refine WS_nil ?_)
    | refine WC_seq ?_
    | refine WC_opsS ?_
    | refine WC_skip ?_
    | refine WC_condT rfl ?_
    | refine WC_condF rfl ?_
    | refine WC_block ?_
    | refine WC_exit ?_
    | refine WC_ret ?_)
      obtain ⟨rfl, o', H1, F1⟩ := hp1'
      have G1 : RHp st1 g s := G.of F1.lim F1.next (by rw [F1.tlim, F1.ntok]; exact G.tk) (F1.box g G.nx hg ho)
      have ho1 : some g ≠ o' := fun e => by
        rcases F1.own with e2 | ⟨r', e2, hr'⟩
        · exact ho (e.trans e2)
        · rw [e2] at e; cases e; have := G.nx; omega
      have hp2 := g_Push G1 (by omega) a.r
      repeat' (first
    | (refine I_WS ?_; first
      | refine W_iaddr (j := pre.length) rfl rfl rfl rfl rfl hpl ?_
      | (refine I_mov ?_; first
          | refine W_skip rfl ?_
          | refine W_mov (v := .int _ _) rfl rfl rfl ?_
          | refine W_mov (v := .bool _) rfl rfl rfl ?_
          | refine W_mov (v := .slice _ _ _) rfl rfl rfl ?_
          | refine W_mov (v := .agg _) rfl rfl rfl ?_
          | refine W_mov (v := .ptr _ _) rfl rfl rfl ?_
          | refine W_mov (v := .func _ _) rfl rfl rfl ?_
          | refine W_mov (v := .eptr _ _ _ _) rfl rfl rfl ?_
          | refine W_mov (v := .rs _ _ _ _ _) rfl rfl rfl ?_
          | refine W_mov (v := .tuple _) rfl rfl rfl ?_
          | refine W_mov (v := .map _) rfl rfl rfl ?_
          | refine W_mov (v := .str _) rfl rfl rfl ?_
          | refine W_mov (v := .nilptr) rfl rfl rfl ?_)
      | (refine I_bin ?_; first
          | refine W_skip rfl ?_
          | refine W_lssT rfl rfl rfl rfl (by omega) ?_
          | refine W_lssF rfl rfl rfl rfl (by omega) ?_
          | (refine W_lss rfl rfl rfl rfl ?_ ?_ <;> intro _)
          | refine W_gtrT rfl rfl rfl rfl (by omega) ?_
          | refine W_gtrF rfl rfl rfl rfl (by omega) ?_
          | (refine W_gtr rfl rfl rfl rfl ?_ ?_ <;> intro _)
          | refine W_eqlT rfl rfl rfl rfl (by omega) ?_
          | refine W_eqlF rfl rfl rfl rfl (by omega) ?_
          | (refine W_eql rfl rfl rfl rfl ?_ ?_ <;> intro _)
          | refine W_neqT rfl rfl rfl rfl (by omega) ?_
          | refine W_neqF rfl rfl rfl rfl (by omega) ?_
          | (refine W_neq rfl rfl rfl rfl ?_ ?_ <;> intro _)
          | refine W_add rfl rfl rfl rfl (by first | exact w64 (by omega) | rfl) ?_)
      | (refine I_load ?_; first
          | refine W_skip rfl ?_
          | refine W_loadE (agg := true) (d := .agg [_, _]) rfl rfl rfl hv rfl ?_
          | refine W_load (agg := false) (d := .int _ _) rfl rfl rfl (bxc rfl) (by first | exact Nat.zero_le _ | assumption | exact Nat.le_trans hlim (Nat.zero_le _) | omega) rfl ?_
          | refine W_load (agg := false) (d := .bool _) rfl rfl rfl (bxc rfl) (by first | exact Nat.zero_le _ | assumption | exact Nat.le_trans hlim (Nat.zero_le _) | omega) rfl ?_
          | refine W_load (agg := false) (d := .slice _ _ _) rfl rfl rfl (bxc rfl) (by first | exact Nat.zero_le _ | assumption | exact Nat.le_trans hlim (Nat.zero_le _) | omega) rfl ?_
          | refine W_load (agg := false) (d := .ptr _ _) rfl rfl rfl (bxc rfl) (by first | exact Nat.zero_le _ | assumption | exact Nat.le_trans hlim (Nat.zero_le _) | omega) rfl ?_
          | refine W_load (agg := false) (d := .func _ _) rfl rfl rfl (bxc rfl) (by first | exact Nat.zero_le _ | assumption | exact Nat.le_trans hlim (Nat.zero_le _) | omega) rfl ?_
          | refine W_load (agg := true) (d := .agg [_, _]) rfl rfl rfl (bxc rfl) (by first | exact Nat.zero_le _ | assumption | exact Nat.le_trans hlim (Nat.zero_le _) | omega) rfl ?_
          | refine W_load (agg := false) (d := .int _ _) rfl rfl rfl (bxs (by omega) (bxc rfl)) (by first | exact Nat.zero_le _ | assumption | exact Nat.le_trans hlim (Nat.zero_le _) | omega) rfl ?_
          | refine W_load (agg := false) (d := .bool _) rfl rfl rfl (bxs (by omega) (bxc rfl)) (by first | exact Nat.zero_le _ | assumption | exact Nat.le_trans hlim (Nat.zero_le _) | omega) rfl ?_
          | refine W_load (agg := false) (d := .slice _ _ _) rfl rfl rfl (bxs (by omega) (bxc rfl)) (by first | exact Nat.zero_le _ | assumption | exact Nat.le_trans hlim (Nat.zero_le _) | omega) rfl ?_
          | refine W_load (agg := false) (d := .ptr _ _) rfl rfl rfl (bxs (by omega) (bxc rfl)) (by first | exact Nat.zero_le _ | assumption | exact Nat.le_trans hlim (Nat.zero_le _) | omega) rfl ?_
          | refine W_load (agg := false) (d := .func _ _) rfl rfl rfl (bxs (by omega) (bxc rfl)) (by first | exact Nat.zero_le _ | assumption | exact Nat.le_trans hlim (Nat.zero_le _) | omega) rfl ?_
          | refine W_load (agg := true) (d := .agg [_, _]) rfl rfl rfl (bxs (by omega) (bxc rfl)) (by first | exact Nat.zero_le _ | assumption | exact Nat.le_trans hlim (Nat.zero_le _) | omega) rfl ?_
          | refine W_load (agg := false) (d := .int _ _) rfl rfl rfl rfl (by first | exact Nat.zero_le _ | omega) rfl ?_
          | refine W_load (agg := false) (d := .bool _) rfl rfl rfl rfl (by first | exact Nat.zero_le _ | omega) rfl ?_
          | refine W_load (agg := false) (d := .slice _ _ _) rfl rfl rfl rfl (by first | exact Nat.zero_le _ | omega) rfl ?_
          | refine W_load (agg := false) (d := .ptr _ _) rfl rfl rfl rfl (by first | exact Nat.zero_le _ | omega) rfl ?_
          | refine W_load (agg := false) (d := .func _ _) rfl rfl rfl rfl (by first | exact Nat.zero_le _ | omega) rfl ?_
          | refine W_load (agg := true) (d := .agg [_, _]) rfl rfl rfl rfl (by first | exact Nat.zero_le _ | omega) rfl ?_)
      | (refine I_call ?_; first
          | refine W_skip rfl ?_
          | (refine W_callRWX rfl rfl rfl hp2 ?_ <;> intro r2 st2 hp2'))
      | (refine I_pick ?_; first
          | refine W_pick (v := .int _ _) rfl rfl rfl rfl ?_
          | refine W_pick (v := .bool _) rfl rfl rfl rfl ?_
          | refine W_pick (v := .slice _ _ _) rfl rfl rfl rfl ?_
          | refine W_pick (v := .agg _) rfl rfl rfl rfl ?_
          | refine W_skip rfl ?_)
      | (refine I_extract ?_; first
          | refine W_extract (d := .int _ _) rfl rfl rfl rfl ?_
          | refine W_extract (d := .bool _) rfl rfl rfl rfl ?_
          | refine W_extract (d := .slice _ _ _) rfl rfl rfl rfl ?_
          | refine W_extract (d := .agg _) rfl rfl rfl rfl ?_
          | refine W_extract (d := .ptr _ _) rfl rfl rfl rfl ?_
          | refine W_extract (d := .func _ _) rfl rfl rfl rfl ?_
          | refine W_skip rfl ?_)
      | (refine I_store ?_; first
          | refine W_store (cs' := [_, _]) rfl rfl (upd_same _ _ _) rfl (by first | exact Nat.zero_le _ | assumption | exact Nat.le_trans hlim (Nat.zero_le _) | omega) rfl rfl rfl ?_
          | refine W_store (cs' := [_, _]) rfl rfl ((upd_ne _ _ (by omega)).trans (upd_same _ _ _)) rfl (by first | exact Nat.zero_le _ | assumption | exact Nat.le_trans hlim (Nat.zero_le _) | omega) rfl rfl rfl ?_
          | refine W_store (cs' := [_, _]) rfl rfl rfl rfl (by first | exact Nat.zero_le _ | omega) rfl rfl rfl ?_
          | refine W_skip0 rfl ?_)
      | (refine W_eqlB rfl rfl rfl rfl ?_)
      | (refine W_neqB rfl rfl rfl rfl ?_)
      | (refine W_eqlP rfl rfl rfl rfl rfl rfl (eqAt3 _ _ _ _ _ _) ?_ ?_ <;> intro hq)
      | (refine W_eqlP rfl rfl rfl rfl rfl rfl (eqAt4 _ _ _ _ _ _ _ _) ?_ ?_ <;> intro hq)
      | (refine W_neqP rfl rfl rfl rfl rfl rfl (eqAt3 _ _ _ _ _ _) ?_ ?_ <;> intro hq)
      | (refine W_neqP rfl rfl rfl rfl rfl rfl (eqAt4 _ _ _ _ _ _ _ _) ?_ ?_ <;> intro hq)
      | (refine W_eqlP rfl rfl rfl rfl rfl rfl rfl ?_ ?_ <;> intro _)
      | (refine W_neqP rfl rfl rfl rfl rfl rfl rfl ?_ ?_ <;> intro _)
      | refine W_lenS0 rfl rfl rfl ?_
      | refine W_lenM rfl rfl rfl ?_
      | refine W_lenS rfl rfl rfl ?_
      | refine W_lenR rfl rfl rfl ?_
      | refine W_faddr rfl rfl rfl ?_
      | refine W_faddrE rfl rfl rfl ?_
      | refine W_eqlNil rfl rfl rfl ?_
      | refine W_faddrM rfl rfl ?_
      | refine W_alloc rfl rfl ?_
      | refine W_skip rfl ?_
      | refine W_iaddr rfl rfl rfl rfl (by first | rfl | exact sz_of (by assumption) (by omega)) (by first | decide | (simp only [List.length_map]; omega)) ?_
      | refine W_iaddrRN rfl rfl rfl rfl rfl (by decide) ?_
      | refine W_iaddrR rfl rfl rfl rfl (by first | decide | omega) ?_
      | refine W_skip rfl ?_
      | refine WS_nil ?_)
    | refine WC_seq ?_
    | refine WC_opsS ?_
    | refine WC_skip ?_
    | refine WC_condT rfl ?_
    | refine WC_condF rfl ?_
    | refine WC_block ?_
    | refine WC_exit ?_
    | refine WC_ret ?_)
      obtain ⟨rfl, G2, F2⟩ := hp2'
      have H2 : AH st2 h o' (ins a.r s) := H1.of F2.lim F2.next (fun q hq hq2 => F2.box q hq (by
        rcases hq2 with rfl | hq2
        · exact Ne.symm hg
        · rintro rfl; exact ho1 hq2))
      have hl2 := ins_tail_len a.r s
      have hn1 := s_LenA H2 (by omega)
      have hn2 := g_Len G2
      repeat' (first
    | (refine I_WS ?_; first
      | (refine I_mov ?_; first
          | refine W_skip rfl ?_
          | refine W_mov (v := .int _ _) rfl rfl rfl ?_
          | refine W_mov (v := .bool _) rfl rfl rfl ?_
          | refine W_mov (v := .slice _ _ _) rfl rfl rfl ?_
          | refine W_mov (v := .agg _) rfl rfl rfl ?_
          | refine W_mov (v := .ptr _ _) rfl rfl rfl ?_
          | refine W_mov (v := .func _ _) rfl rfl rfl ?_
          | refine W_mov (v := .eptr _ _ _ _) rfl rfl rfl ?_
          | refine W_mov (v := .rs _ _ _ _ _) rfl rfl rfl ?_
          | refine W_mov (v := .tuple _) rfl rfl rfl ?_
          | refine W_mov (v := .map _) rfl rfl rfl ?_
          | refine W_mov (v := .str _) rfl rfl rfl ?_
          | refine W_mov (v := .nilptr) rfl rfl rfl ?_)
      | (refine I_bin ?_; first
          | refine W_skip rfl ?_
          | refine W_lssT rfl rfl rfl rfl (by omega) ?_
          | refine W_lssF rfl rfl rfl rfl (by omega) ?_
          | (refine W_lss rfl rfl rfl rfl ?_ ?_ <;> intro _)
          | refine W_gtrT rfl rfl rfl rfl (by omega) ?_
          | refine W_gtrF rfl rfl rfl rfl (by omega) ?_
          | (refine W_gtr rfl rfl rfl rfl ?_ ?_ <;> intro _)
          | refine W_eqlT rfl rfl rfl rfl (by omega) ?_
          | refine W_eqlF rfl rfl rfl rfl (by omega) ?_
          | (refine W_eql rfl rfl rfl rfl ?_ ?_ <;> intro _)
          | refine W_neqT rfl rfl rfl rfl (by omega) ?_
          | refine W_neqF rfl rfl rfl rfl (by omega) ?_
          | (refine W_neq rfl rfl rfl rfl ?_ ?_ <;> intro _)
          | refine W_add rfl rfl rfl rfl (by first | exact w64 (by omega) | rfl) ?_)
      | (refine I_load ?_; first
          | refine W_skip rfl ?_
          | refine W_load (agg := false) (d := .int _ _) rfl rfl rfl (bxc rfl) (by first | exact Nat.zero_le _ | assumption | exact Nat.le_trans hlim (Nat.zero_le _) | omega) rfl ?_
          | refine W_load (agg := false) (d := .bool _) rfl rfl rfl (bxc rfl) (by first | exact Nat.zero_le _ | assumption | exact Nat.le_trans hlim (Nat.zero_le _) | omega) rfl ?_
          | refine W_load (agg := false) (d := .slice _ _ _) rfl rfl rfl (bxc rfl) (by first | exact Nat.zero_le _ | assumption | exact Nat.le_trans hlim (Nat.zero_le _) | omega) rfl ?_
          | refine W_load (agg := false) (d := .ptr _ _) rfl rfl rfl (bxc rfl) (by first | exact Nat.zero_le _ | assumption | exact Nat.le_trans hlim (Nat.zero_le _) | omega) rfl ?_
          | refine W_load (agg := false) (d := .func _ _) rfl rfl rfl (bxc rfl) (by first | exact Nat.zero_le _ | assumption | exact Nat.le_trans hlim (Nat.zero_le _) | omega) rfl ?_
          | refine W_load (agg := true) (d := .agg [_, _]) rfl rfl rfl (bxc rfl) (by first | exact Nat.zero_le _ | assumption | exact Nat.le_trans hlim (Nat.zero_le _) | omega) rfl ?_
          | refine W_load (agg := false) (d := .int _ _) rfl rfl rfl (bxs (by omega) (bxc rfl)) (by first | exact Nat.zero_le _ | assumption | exact Nat.le_trans hlim (Nat.zero_le _) | omega) rfl ?_
          | refine W_load (agg := false) (d := .bool _) rfl rfl rfl (bxs (by omega) (bxc rfl)) (by first | exact Nat.zero_le _ | assumption | exact Nat.le_trans hlim (Nat.zero_le _) | omega) rfl ?_
          | refine W_load (agg := false) (d := .slice _ _ _) rfl rfl rfl (bxs (by omega) (bxc rfl)) (by first | exact Nat.zero_le _ | assumption | exact Nat.le_trans hlim (Nat.zero_le _) | omega) rfl ?_
          | refine W_load (agg := false) (d := .ptr _ _) rfl rfl rfl (bxs (by omega) (bxc rfl)) (by first | exact Nat.zero_le _ | assumption | exact Nat.le_trans hlim (Nat.zero_le _) | omega) rfl ?_
          | refine W_load (agg := false) (d := .func _ _) rfl rfl rfl (bxs (by omega) (bxc rfl)) (by first | exact Nat.zero_le _ | assumption | exact Nat.le_trans hlim (Nat.zero_le _) | omega) rfl ?_
          | refine W_load (agg := true) (d := .agg [_, _]) rfl rfl rfl (bxs (by omega) (bxc rfl)) (by first | exact Nat.zero_le _ | assumption | exact Nat.le_trans hlim (Nat.zero_le _) | omega) rfl ?_
          | refine W_load (agg := false) (d := .int _ _) rfl rfl rfl rfl (by first | exact Nat.zero_le _ | omega) rfl ?_
          | refine W_load (agg := false) (d := .bool _) rfl rfl rfl rfl (by first | exact Nat.zero_le _ | omega) rfl ?_
          | refine W_load (agg := false) (d := .slice _ _ _) rfl rfl rfl rfl (by first | exact Nat.zero_le _ | omega) rfl ?_
          | refine W_load (agg := false) (d := .ptr _ _) rfl rfl rfl rfl (by first | exact Nat.zero_le _ | omega) rfl ?_
          | refine W_load (agg := false) (d := .func _ _) rfl rfl rfl rfl (by first | exact Nat.zero_le _ | omega) rfl ?_
          | refine W_load (agg := true) (d := .agg [_, _]) rfl rfl rfl rfl (by first | exact Nat.zero_le _ | omega) rfl ?_)
      | (refine I_call ?_; first
          | refine W_skip rfl ?_
          | refine W_callRO rfl rfl rfl hn1 rfl rfl ?_
          | refine W_callRO rfl rfl rfl hn2 rfl rfl ?_)
      | (refine I_pick ?_; first
          | refine W_pick (v := .int _ _) rfl rfl rfl rfl ?_
          | refine W_pick (v := .bool _) rfl rfl rfl rfl ?_
          | refine W_pick (v := .slice _ _ _) rfl rfl rfl rfl ?_
          | refine W_pick (v := .agg _) rfl rfl rfl rfl ?_
          | refine W_skip rfl ?_)
      | (refine I_extract ?_; first
          | refine W_extract (d := .int _ _) rfl rfl rfl rfl ?_
          | refine W_extract (d := .bool _) rfl rfl rfl rfl ?_
          | refine W_extract (d := .slice _ _ _) rfl rfl rfl rfl ?_
          | refine W_extract (d := .agg _) rfl rfl rfl rfl ?_
          | refine W_extract (d := .ptr _ _) rfl rfl rfl rfl ?_
          | refine W_extract (d := .func _ _) rfl rfl rfl rfl ?_
          | refine W_skip rfl ?_)
      | (refine I_store ?_; first
          | refine W_store (cs' := [_, _]) rfl rfl (upd_same _ _ _) rfl (by first | exact Nat.zero_le _ | assumption | exact Nat.le_trans hlim (Nat.zero_le _) | omega) rfl rfl rfl ?_
          | refine W_store (cs' := [_, _]) rfl rfl ((upd_ne _ _ (by omega)).trans (upd_same _ _ _)) rfl (by first | exact Nat.zero_le _ | assumption | exact Nat.le_trans hlim (Nat.zero_le _) | omega) rfl rfl rfl ?_
          | refine W_store (cs' := [_, _]) rfl rfl rfl rfl (by first | exact Nat.zero_le _ | omega) rfl rfl rfl ?_
          | refine W_skip0 rfl ?_)
      | (refine W_eqlB rfl rfl rfl rfl ?_)
      | (refine W_neqB rfl rfl rfl rfl ?_)
      | (refine W_eqlP rfl rfl rfl rfl rfl rfl (eqAt3 _ _ _ _ _ _) ?_ ?_ <;> intro hq)
      | (refine W_eqlP rfl rfl rfl rfl rfl rfl (eqAt4 _ _ _ _ _ _ _ _) ?_ ?_ <;> intro hq)
      | (refine W_neqP rfl rfl rfl rfl rfl rfl (eqAt3 _ _ _ _ _ _) ?_ ?_ <;> intro hq)
      | (refine W_neqP rfl rfl rfl rfl rfl rfl (eqAt4 _ _ _ _ _ _ _ _) ?_ ?_ <;> intro hq)
      | (refine W_eqlP rfl rfl rfl rfl rfl rfl rfl ?_ ?_ <;> intro _)
      | (refine W_neqP rfl rfl rfl rfl rfl rfl rfl ?_ ?_ <;> intro _)
      | refine W_lenS0 rfl rfl rfl ?_
      | refine W_lenM rfl rfl rfl ?_
      | refine W_lenS rfl rfl rfl ?_
      | refine W_lenR rfl rfl rfl ?_
      | refine W_faddr rfl rfl rfl ?_
      | refine W_faddrE rfl rfl rfl ?_
      | refine W_eqlNil rfl rfl rfl ?_
      | refine W_faddrM rfl rfl ?_
      | refine W_alloc rfl rfl ?_
      | refine W_skip rfl ?_
      | refine W_iaddr rfl rfl rfl rfl (by first | rfl | exact sz_of (by assumption) (by omega)) (by first | decide | (simp only [List.length_map]; omega)) ?_
      | refine W_iaddrRN rfl rfl rfl rfl rfl (by decide) ?_
      | refine W_iaddrR rfl rfl rfl rfl (by first | decide | omega) ?_
      | refine W_skip rfl ?_
      | refine WS_nil ?_)
    | refine WC_seq ?_
    | refine WC_opsS ?_
    | refine WC_skip ?_
    | refine WC_condT rfl ?_
    | refine WC_condF rfl ?_
    | refine WC_block ?_
    | refine WC_exit ?_
    | refine WC_ret ?_)
      exact hrest _ st2 o' (ins a.r s) H2 G2 ho1 (by omega) rfl rfl rfl rfl rfl
    · by_cases hd1 : a.do' = 1
      · have hp1 := s_PopA H (by omega)
        repeat' (first
    | (refine I_WS ?_; first
      | refine W_iaddr (j := pre.length) rfl rfl rfl rfl rfl hpl ?_
      | (refine I_mov ?_; first
          | refine W_skip rfl ?_
          | refine W_mov (v := .int _ _) rfl rfl rfl ?_
          | refine W_mov (v := .bool _) rfl rfl rfl ?_
          | refine W_mov (v := .slice _ _ _) rfl rfl rfl ?_
          | refine W_mov (v := .agg _) rfl rfl rfl ?_
          | refine W_mov (v := .ptr _ _) rfl rfl rfl ?_
          | refine W_mov (v := .func _ _) rfl rfl rfl ?_
          | refine W_mov (v := .eptr _ _ _ _) rfl rfl rfl ?_
          | refine W_mov (v := .rs _ _ _ _ _) rfl rfl rfl ?_
          | refine W_mov (v := .tuple _) rfl rfl rfl ?_
          | refine W_mov (v := .map _) rfl rfl rfl ?_
          | refine W_mov (v := .str _) rfl rfl rfl ?_
          | refine W_mov (v := .nilptr) rfl rfl rfl ?_)
      | (refine I_bin ?_; first
          | refine W_skip rfl ?_
          | refine W_lssT rfl rfl rfl rfl (by omega) ?_
          | refine W_lssF rfl rfl rfl rfl (by omega) ?_
          | (refine W_lss rfl rfl rfl rfl ?_ ?_ <;> intro _)
          | refine W_gtrT rfl rfl rfl rfl (by omega) ?_
          | refine W_gtrF rfl rfl rfl rfl (by omega) ?_
          | (refine W_gtr rfl rfl rfl rfl ?_ ?_ <;> intro _)
          | refine W_eqlT rfl rfl rfl rfl (by omega) ?_
          | refine W_eqlF rfl rfl rfl rfl (by omega) ?_
          | (refine W_eql rfl rfl rfl rfl ?_ ?_ <;> intro _)
          | refine W_neqT rfl rfl rfl rfl (by omega) ?_
          | refine W_neqF rfl rfl rfl rfl (by omega) ?_
          | (refine W_neq rfl rfl rfl rfl ?_ ?_ <;> intro _)
          | refine W_add rfl rfl rfl rfl (by first | exact w64 (by omega) | rfl) ?_)
      | (refine I_load ?_; first
          | refine W_skip rfl ?_
          | refine W_loadE (agg := false) (d := .int _ _) rfl rfl rfl hv rfl ?_
          | refine W_load (agg := false) (d := .int _ _) rfl rfl rfl (bxc rfl) (by first | exact Nat.zero_le _ | assumption | exact Nat.le_trans hlim (Nat.zero_le _) | omega) rfl ?_
          | refine W_load (agg := false) (d := .bool _) rfl rfl rfl (bxc rfl) (by first | exact Nat.zero_le _ | assumption | exact Nat.le_trans hlim (Nat.zero_le _) | omega) rfl ?_
          | refine W_load (agg := false) (d := .slice _ _ _) rfl rfl rfl (bxc rfl) (by first | exact Nat.zero_le _ | assumption | exact Nat.le_trans hlim (Nat.zero_le _) | omega) rfl ?_
          | refine W_load (agg := false) (d := .ptr _ _) rfl rfl rfl (bxc rfl) (by first | exact Nat.zero_le _ | assumption | exact Nat.le_trans hlim (Nat.zero_le _) | omega) rfl ?_
          | refine W_load (agg := false) (d := .func _ _) rfl rfl rfl (bxc rfl) (by first | exact Nat.zero_le _ | assumption | exact Nat.le_trans hlim (Nat.zero_le _) | omega) rfl ?_
          | refine W_load (agg := true) (d := .agg [_, _]) rfl rfl rfl (bxc rfl) (by first | exact Nat.zero_le _ | assumption | exact Nat.le_trans hlim (Nat.zero_le _) | omega) rfl ?_
          | refine W_load (agg := false) (d := .int _ _) rfl rfl rfl (bxs (by omega) (bxc rfl)) (by first | exact Nat.zero_le _ | assumption | exact Nat.le_trans hlim (Nat.zero_le _) | omega) rfl ?_
          | refine W_load (agg := false) (d := .bool _) rfl rfl rfl (bxs (by omega) (bxc rfl)) (by first | exact Nat.zero_le _ | assumption | exact Nat.le_trans hlim (Nat.zero_le _) | omega) rfl ?_
          | refine W_load (agg := false) (d := .slice _ _ _) rfl rfl rfl (bxs (by omega) (bxc rfl)) (by first | exact Nat.zero_le _ | assumption | exact Nat.le_trans hlim (Nat.zero_le _) | omega) rfl ?_
          | refine W_load (agg := false) (d := .ptr _ _) rfl rfl rfl (bxs (by omega) (bxc rfl)) (by first | exact Nat.zero_le _ | assumption | exact Nat.le_trans hlim (Nat.zero_le _) | omega) rfl ?_
          | refine W_load (agg := false) (d := .func _ _) rfl rfl rfl (bxs (by omega) (bxc rfl)) (by first | exact Nat.zero_le _ | assumption | exact Nat.le_trans hlim (Nat.zero_le _) | omega) rfl ?_
          | refine W_load (agg := true) (d := .agg [_, _]) rfl rfl rfl (bxs (by omega) (bxc rfl)) (by first | exact Nat.zero_le _ | assumption | exact Nat.le_trans hlim (Nat.zero_le _) | omega) rfl ?_
          | refine W_load (agg := false) (d := .int _ _) rfl rfl rfl rfl (by first | exact Nat.zero_le _ | omega) rfl ?_
          | refine W_load (agg := false) (d := .bool _) rfl rfl rfl rfl (by first | exact Nat.zero_le _ | omega) rfl ?_
          | refine W_load (agg := false) (d := .slice _ _ _) rfl rfl rfl rfl (by first | exact Nat.zero_le _ | omega) rfl ?_
          | refine W_load (agg := false) (d := .ptr _ _) rfl rfl rfl rfl (by first | exact Nat.zero_le _ | omega) rfl ?_
          | refine W_load (agg := false) (d := .func _ _) rfl rfl rfl rfl (by first | exact Nat.zero_le _ | omega) rfl ?_
          | refine W_load (agg := true) (d := .agg [_, _]) rfl rfl rfl rfl (by first | exact Nat.zero_le _ | omega) rfl ?_)
      | (refine I_call ?_; first
          | refine W_skip rfl ?_
          | (refine W_callRWX rfl rfl rfl hp1 ?_ <;> intro r1 st1 hp1'))
      | (refine I_pick ?_; first
          | refine W_pick (v := .int _ _) rfl rfl rfl rfl ?_
          | refine W_pick (v := .bool _) rfl rfl rfl rfl ?_
          | refine W_pick (v := .slice _ _ _) rfl rfl rfl rfl ?_
          | refine W_pick (v := .agg _) rfl rfl rfl rfl ?_
          | refine W_skip rfl ?_)
      | (refine I_extract ?_; first
          | refine W_extract (d := .int _ _) rfl rfl rfl rfl ?_
          | refine W_extract (d := .bool _) rfl rfl rfl rfl ?_
          | refine W_extract (d := .slice _ _ _) rfl rfl rfl rfl ?_
          | refine W_extract (d := .agg _) rfl rfl rfl rfl ?_
          | refine W_extract (d := .ptr _ _) rfl rfl rfl rfl ?_
          | refine W_extract (d := .func _ _) rfl rfl rfl rfl ?_
          | refine W_skip rfl ?_)
      | (refine I_store ?_; first
          | refine W_store (cs' := [_, _]) rfl rfl (upd_same _ _ _) rfl (by first | exact Nat.zero_le _ | assumption | exact Nat.le_trans hlim (Nat.zero_le _) | omega) rfl rfl rfl ?_
          | refine W_store (cs' := [_, _]) rfl rfl ((upd_ne _ _ (by omega)).trans (upd_same _ _ _)) rfl (by first | exact Nat.zero_le _ | assumption | exact Nat.le_trans hlim (Nat.zero_le _) | omega) rfl rfl rfl ?_
          | refine W_store (cs' := [_, _]) rfl rfl rfl rfl (by first | exact Nat.zero_le _ | omega) rfl rfl rfl ?_
          | refine W_skip0 rfl ?_)
      | (refine W_eqlB rfl rfl rfl rfl ?_)
      | (refine W_neqB rfl rfl rfl rfl ?_)
      | (refine W_eqlP rfl rfl rfl rfl rfl rfl (eqAt3 _ _ _ _ _ _) ?_ ?_ <;> intro hq)
      | (refine W_eqlP rfl rfl rfl rfl rfl rfl (eqAt4 _ _ _ _ _ _ _ _) ?_ ?_ <;> intro hq)
      | (refine W_neqP rfl rfl rfl rfl rfl rfl (eqAt3 _ _ _ _ _ _) ?_ ?_ <;> intro hq)
      | (refine W_neqP rfl rfl rfl rfl rfl rfl (eqAt4 _ _ _ _ _ _ _ _) ?_ ?_ <;> intro hq)
      | (refine W_eqlP rfl rfl rfl rfl rfl rfl rfl ?_ ?_ <;> intro _)
      | (refine W_neqP rfl rfl rfl rfl rfl rfl rfl ?_ ?_ <;> intro _)
      | refine W_lenS0 rfl rfl rfl ?_
      | refine W_lenM rfl rfl rfl ?_
      | refine W_lenS rfl rfl rfl ?_
      | refine W_lenR rfl rfl rfl ?_
      | refine W_faddr rfl rfl rfl ?_
      | refine W_faddrE rfl rfl rfl ?_
      | refine W_eqlNil rfl rfl rfl ?_
      | refine W_faddrM rfl rfl ?_
      | refine W_alloc rfl rfl ?_
      | refine W_skip rfl ?_
      | refine W_iaddr rfl rfl rfl rfl (by first | rfl | exact sz_of (by assumption) (by omega)) (by first | decide | (simp only [List.length_map]; omega)) ?_
      | refine W_iaddrRN rfl rfl rfl rfl rfl (by decide) ?_
      | refine W_iaddrR rfl rfl rfl rfl (by first | decide | omega) ?_
      | refine W_skip rfl ?_
      | refine WS_nil ?_)
    | refine WC_seq ?_
    | refine WC_opsS ?_
    | refine WC_skip ?_
    | refine WC_condT rfl ?_
    | refine WC_condF rfl ?_
    | refine WC_block ?_
    | refine WC_exit ?_
    | refine WC_ret ?_)
        obtain ⟨rfl, H1, F1⟩ := hp1'
        have hg1 : (st1.boxes g) = st.boxes g := F1.box g G.nx hg ho
        have hl1 : st1.lim ≤ st1.next := Nat.le_trans H1.lim (Nat.le_of_lt H1.nx)
        have hgn : g < st1.next := Nat.lt_of_lt_of_le G.nx F1.next
        have G1 : ∀ {x y : Option Box}, RHp { st1 with boxes := upd (upd st1.boxes st1.next x) st1.next y, next := st1.next + 1 } g s := fun {x y} => G.of F1.lim (Nat.le_succ_of_le F1.next) (by show st1.tlim ≤ st1.ntok; rw [F1.tlim, F1.ntok]; exact G.tk) ((upd_ne _ _ (Nat.ne_of_lt hgn)).trans ((upd_ne _ _ (Nat.ne_of_lt hgn)).trans hg1))
        have H1' : ∀ {x y : Option Box}, AH { st1 with boxes := upd (upd st1.boxes st1.next x) st1.next y, next := st1.next + 1 } h o s.tail := fun {x y} => H1.of rfl (Nat.le_succ _) (fun q hq _ => (upd_ne _ _ (Nat.ne_of_lt hq)).trans (upd_ne _ _ (Nat.ne_of_lt hq)))
        have hp2 := fun {x y : Option Box} => g_Pop (G1 (x := x) (y := y)) (by omega)
        repeat' (first
    | (refine I_WS ?_; first
      | refine W_store (cs' := [_, _]) rfl rfl (upd_same _ _ _) rfl hl1 rfl rfl rfl ?_
      | (refine I_mov ?_; first
          | refine W_skip rfl ?_
          | refine W_mov (v := .int _ _) rfl rfl rfl ?_
          | refine W_mov (v := .bool _) rfl rfl rfl ?_
          | refine W_mov (v := .slice _ _ _) rfl rfl rfl ?_
          | refine W_mov (v := .agg _) rfl rfl rfl ?_
          | refine W_mov (v := .ptr _ _) rfl rfl rfl ?_
          | refine W_mov (v := .func _ _) rfl rfl rfl ?_
          | refine W_mov (v := .eptr _ _ _ _) rfl rfl rfl ?_
          | refine W_mov (v := .rs _ _ _ _ _) rfl rfl rfl ?_
          | refine W_mov (v := .tuple _) rfl rfl rfl ?_
          | refine W_mov (v := .map _) rfl rfl rfl ?_
          | refine W_mov (v := .str _) rfl rfl rfl ?_
          | refine W_mov (v := .nilptr) rfl rfl rfl ?_)
      | (refine I_bin ?_; first
          | refine W_skip rfl ?_
          | refine W_lssT rfl rfl rfl rfl (by omega) ?_
          | refine W_lssF rfl rfl rfl rfl (by omega) ?_
          | (refine W_lss rfl rfl rfl rfl ?_ ?_ <;> intro _)
          | refine W_gtrT rfl rfl rfl rfl (by omega) ?_
          | refine W_gtrF rfl rfl rfl rfl (by omega) ?_
          | (refine W_gtr rfl rfl rfl rfl ?_ ?_ <;> intro _)
          | refine W_eqlT rfl rfl rfl rfl (by omega) ?_
          | refine W_eqlF rfl rfl rfl rfl (by omega) ?_
          | (refine W_eql rfl rfl rfl rfl ?_ ?_ <;> intro _)
          | refine W_neqT rfl rfl rfl rfl (by omega) ?_
          | refine W_neqF rfl rfl rfl rfl (by omega) ?_
          | (refine W_neq rfl rfl rfl rfl ?_ ?_ <;> intro _)
          | refine W_add rfl rfl rfl rfl (by first | exact w64 (by omega) | rfl) ?_)
      | (refine I_load ?_; first
          | refine W_skip rfl ?_
          | refine W_load (agg := false) (d := .int _ _) rfl rfl rfl (bxc rfl) (by first | exact Nat.zero_le _ | assumption | exact Nat.le_trans hlim (Nat.zero_le _) | omega) rfl ?_
          | refine W_load (agg := false) (d := .bool _) rfl rfl rfl (bxc rfl) (by first | exact Nat.zero_le _ | assumption | exact Nat.le_trans hlim (Nat.zero_le _) | omega) rfl ?_
          | refine W_load (agg := false) (d := .slice _ _ _) rfl rfl rfl (bxc rfl) (by first | exact Nat.zero_le _ | assumption | exact Nat.le_trans hlim (Nat.zero_le _) | omega) rfl ?_
          | refine W_load (agg := false) (d := .ptr _ _) rfl rfl rfl (bxc rfl) (by first | exact Nat.zero_le _ | assumption | exact Nat.le_trans hlim (Nat.zero_le _) | omega) rfl ?_
          | refine W_load (agg := false) (d := .func _ _) rfl rfl rfl (bxc rfl) (by first | exact Nat.zero_le _ | assumption | exact Nat.le_trans hlim (Nat.zero_le _) | omega) rfl ?_
          | refine W_load (agg := true) (d := .agg [_, _]) rfl rfl rfl (bxc rfl) (by first | exact Nat.zero_le _ | assumption | exact Nat.le_trans hlim (Nat.zero_le _) | omega) rfl ?_
          | refine W_load (agg := false) (d := .int _ _) rfl rfl rfl (bxs (by omega) (bxc rfl)) (by first | exact Nat.zero_le _ | assumption | exact Nat.le_trans hlim (Nat.zero_le _) | omega) rfl ?_
          | refine W_load (agg := false) (d := .bool _) rfl rfl rfl (bxs (by omega) (bxc rfl)) (by first | exact Nat.zero_le _ | assumption | exact Nat.le_trans hlim (Nat.zero_le _) | omega) rfl ?_
          | refine W_load (agg := false) (d := .slice _ _ _) rfl rfl rfl (bxs (by omega) (bxc rfl)) (by first | exact Nat.zero_le _ | assumption | exact Nat.le_trans hlim (Nat.zero_le _) | omega) rfl ?_
          | refine W_load (agg := false) (d := .ptr _ _) rfl rfl rfl (bxs (by omega) (bxc rfl)) (by first | exact Nat.zero_le _ | assumption | exact Nat.le_trans hlim (Nat.zero_le _) | omega) rfl ?_
          | refine W_load (agg := false) (d := .func _ _) rfl rfl rfl (bxs (by omega) (bxc rfl)) (by first | exact Nat.zero_le _ | assumption | exact Nat.le_trans hlim (Nat.zero_le _) | omega) rfl ?_
          | refine W_load (agg := true) (d := .agg [_, _]) rfl rfl rfl (bxs (by omega) (bxc rfl)) (by first | exact Nat.zero_le _ | assumption | exact Nat.le_trans hlim (Nat.zero_le _) | omega) rfl ?_
          | refine W_load (agg := false) (d := .int _ _) rfl rfl rfl rfl (by first | exact Nat.zero_le _ | omega) rfl ?_
          | refine W_load (agg := false) (d := .bool _) rfl rfl rfl rfl (by first | exact Nat.zero_le _ | omega) rfl ?_
          | refine W_load (agg := false) (d := .slice _ _ _) rfl rfl rfl rfl (by first | exact Nat.zero_le _ | omega) rfl ?_
          | refine W_load (agg := false) (d := .ptr _ _) rfl rfl rfl rfl (by first | exact Nat.zero_le _ | omega) rfl ?_
          | refine W_load (agg := false) (d := .func _ _) rfl rfl rfl rfl (by first | exact Nat.zero_le _ | omega) rfl ?_
          | refine W_load (agg := true) (d := .agg [_, _]) rfl rfl rfl rfl (by first | exact Nat.zero_le _ | omega) rfl ?_)
      | (refine I_call ?_; first
          | refine W_skip rfl ?_
          | (refine W_callRWX rfl rfl rfl hp2 ?_ <;> intro r2 st2 hp2'))
      | (refine I_pick ?_; first
          | refine W_pick (v := .int _ _) rfl rfl rfl rfl ?_
          | refine W_pick (v := .bool _) rfl rfl rfl rfl ?_
          | refine W_pick (v := .slice _ _ _) rfl rfl rfl rfl ?_
          | refine W_pick (v := .agg _) rfl rfl rfl rfl ?_
          | refine W_skip rfl ?_)
      | (refine I_extract ?_; first
          | refine W_extract (d := .int _ _) rfl rfl rfl rfl ?_
          | refine W_extract (d := .bool _) rfl rfl rfl rfl ?_
          | refine W_extract (d := .slice _ _ _) rfl rfl rfl rfl ?_
          | refine W_extract (d := .agg _) rfl rfl rfl rfl ?_
          | refine W_extract (d := .ptr _ _) rfl rfl rfl rfl ?_
          | refine W_extract (d := .func _ _) rfl rfl rfl rfl ?_
          | refine W_skip rfl ?_)
      | (refine I_store ?_; first
          | refine W_store (cs' := [_, _]) rfl rfl (upd_same _ _ _) rfl (by first | exact Nat.zero_le _ | assumption | exact Nat.le_trans hlim (Nat.zero_le _) | omega) rfl rfl rfl ?_
          | refine W_store (cs' := [_, _]) rfl rfl ((upd_ne _ _ (by omega)).trans (upd_same _ _ _)) rfl (by first | exact Nat.zero_le _ | assumption | exact Nat.le_trans hlim (Nat.zero_le _) | omega) rfl rfl rfl ?_
          | refine W_store (cs' := [_, _]) rfl rfl rfl rfl (by first | exact Nat.zero_le _ | omega) rfl rfl rfl ?_
          | refine W_skip0 rfl ?_)
      | (refine W_eqlB rfl rfl rfl rfl ?_)
      | (refine W_neqB rfl rfl rfl rfl ?_)
      | (refine W_eqlP rfl rfl rfl rfl rfl rfl (eqAt3 _ _ _ _ _ _) ?_ ?_ <;> intro hq)
      | (refine W_eqlP rfl rfl rfl rfl rfl rfl (eqAt4 _ _ _ _ _ _ _ _) ?_ ?_ <;> intro hq)
      | (refine W_neqP rfl rfl rfl rfl rfl rfl (eqAt3 _ _ _ _ _ _) ?_ ?_ <;> intro hq)
      | (refine W_neqP rfl rfl rfl rfl rfl rfl (eqAt4 _ _ _ _ _ _ _ _) ?_ ?_ <;> intro hq)
      | (refine W_eqlP rfl rfl rfl rfl rfl rfl rfl ?_ ?_ <;> intro _)
      | (refine W_neqP rfl rfl rfl rfl rfl rfl rfl ?_ ?_ <;> intro _)
      | refine W_lenS0 rfl rfl rfl ?_
      | refine W_lenM rfl rfl rfl ?_
      | refine W_lenS rfl rfl rfl ?_
      | refine W_lenR rfl rfl rfl ?_
      | refine W_faddr rfl rfl rfl ?_
      | refine W_faddrE rfl rfl rfl ?_
      | refine W_eqlNil rfl rfl rfl ?_
      | refine W_faddrM rfl rfl ?_
      | refine W_alloc rfl rfl ?_
      | refine W_skip rfl ?_
      | refine W_iaddr rfl rfl rfl rfl (by first | rfl | exact sz_of (by assumption) (by omega)) (by first | decide | (simp only [List.length_map]; omega)) ?_
      | refine W_iaddrRN rfl rfl rfl rfl rfl (by decide) ?_
      | refine W_iaddrR rfl rfl rfl rfl (by first | decide | omega) ?_
      | refine W_skip rfl ?_
      | refine WS_nil ?_)
    | refine WC_seq ?_
    | refine WC_opsS ?_
    | refine WC_skip ?_
    | refine WC_condT rfl ?_
    | refine WC_condF rfl ?_
    | refine WC_block ?_
    | refine WC_exit ?_
    | refine WC_ret ?_)
        obtain ⟨rfl, G2, F2⟩ := hp2'
        have hgN : st1.next ≠ g := Ne.symm (Nat.ne_of_lt hgn)
        have hn2 : st1.next + 1 ≤ st2.next := F2.next
        have hlm2 : st2.lim = st1.lim := F2.lim
        have hl2 : st2.lim ≤ st2.next := by omega
        have hl21 : st2.lim ≤ st1.next := by omega
        have hne : st1.next ≠ st2.next := by omega
        have hb1 : (st2.boxes st1.next).bind Box.cs = some [.int .i64 (hdR s).node, .int .i64 (hdR s).at'] := by
          rw [F2.box st1.next (Nat.lt_succ_self _) hgN]; exact bxc rfl
        have H2 : AH st2 h o s.tail := H1'.of F2.lim F2.next (fun q hq hq2 => F2.box q hq (by
          rcases hq2 with rfl | hq2
          · exact Ne.symm hg
          · rintro rfl; exact ho hq2))
        have H3 : ∀ {x y : Option Box}, AH { st2 with boxes := upd (upd st2.boxes st2.next x) st2.next y, next := st2.next + 1 } h o s.tail := fun {x y} => H2.of rfl (Nat.le_succ _) (fun q hq _ => (upd_ne _ _ (Nat.ne_of_lt hq)).trans (upd_ne _ _ (Nat.ne_of_lt hq)))
        have G3 : ∀ {x y : Option Box}, RHp { st2 with boxes := upd (upd st2.boxes st2.next x) st2.next y, next := st2.next + 1 } g s.tail := fun {x y} => G2.of rfl (Nat.le_succ _) G2.tk ((upd_ne _ _ (Nat.ne_of_lt G2.nx)).trans (upd_ne _ _ (Nat.ne_of_lt G2.nx)))
        have hn1 := fun {x y : Option Box} => s_LenA (H3 (x := x) (y := y)) (by rw [List.length_tail]; omega)
        have hn2 := fun {x y : Option Box} => g_Len (G3 (x := x) (y := y))
        have hb0 : ∀ t : Bool, t = true ∨ t = false := fun t => by cases t <;> simp
        generalize hbt : (decide (0 < s.length)) = bt
        rcases hb0 bt with rfl | rfl
        all_goals
          repeat' (first
    | (refine I_WS ?_; first
      | refine W_store (cs' := [_, _]) rfl rfl (upd_same _ _ _) rfl hl2 rfl rfl rfl ?_
      | (refine W_neqP rfl rfl rfl rfl rfl rfl (eqAt2 _ _ _ _) ?_ ?_ <;> intro hq)
      | (refine I_mov ?_; first
          | refine W_skip rfl ?_
          | refine W_mov (v := .int _ _) rfl rfl rfl ?_
          | refine W_mov (v := .bool _) rfl rfl rfl ?_
          | refine W_mov (v := .slice _ _ _) rfl rfl rfl ?_
          | refine W_mov (v := .agg _) rfl rfl rfl ?_
          | refine W_mov (v := .ptr _ _) rfl rfl rfl ?_
          | refine W_mov (v := .func _ _) rfl rfl rfl ?_
          | refine W_mov (v := .eptr _ _ _ _) rfl rfl rfl ?_
          | refine W_mov (v := .rs _ _ _ _ _) rfl rfl rfl ?_
          | refine W_mov (v := .tuple _) rfl rfl rfl ?_
          | refine W_mov (v := .map _) rfl rfl rfl ?_
          | refine W_mov (v := .str _) rfl rfl rfl ?_
          | refine W_mov (v := .nilptr) rfl rfl rfl ?_)
      | (refine I_bin ?_; first
          | refine W_skip rfl ?_
          | refine W_lssT rfl rfl rfl rfl (by omega) ?_
          | refine W_lssF rfl rfl rfl rfl (by omega) ?_
          | (refine W_lss rfl rfl rfl rfl ?_ ?_ <;> intro _)
          | refine W_gtrT rfl rfl rfl rfl (by omega) ?_
          | refine W_gtrF rfl rfl rfl rfl (by omega) ?_
          | (refine W_gtr rfl rfl rfl rfl ?_ ?_ <;> intro _)
          | refine W_eqlT rfl rfl rfl rfl (by omega) ?_
          | refine W_eqlF rfl rfl rfl rfl (by omega) ?_
          | (refine W_eql rfl rfl rfl rfl ?_ ?_ <;> intro _)
          | refine W_neqT rfl rfl rfl rfl (by omega) ?_
          | refine W_neqF rfl rfl rfl rfl (by omega) ?_
          | (refine W_neq rfl rfl rfl rfl ?_ ?_ <;> intro _)
          | refine W_add rfl rfl rfl rfl (by first | exact w64 (by omega) | rfl) ?_)
      | (refine I_load ?_; first
          | refine W_skip rfl ?_
          | refine W_load (agg := true) (d := .agg [_, _]) rfl rfl rfl (bxs hne (bxs hne hb1)) hl21 rfl ?_
          | refine W_load (agg := true) (d := .agg [_, _]) rfl rfl rfl (bxc rfl) hl2 rfl ?_
          | refine W_load (agg := false) (d := .int _ _) rfl rfl rfl (bxc rfl) (by first | exact Nat.zero_le _ | assumption | exact Nat.le_trans hlim (Nat.zero_le _) | omega) rfl ?_
          | refine W_load (agg := false) (d := .bool _) rfl rfl rfl (bxc rfl) (by first | exact Nat.zero_le _ | assumption | exact Nat.le_trans hlim (Nat.zero_le _) | omega) rfl ?_
          | refine W_load (agg := false) (d := .slice _ _ _) rfl rfl rfl (bxc rfl) (by first | exact Nat.zero_le _ | assumption | exact Nat.le_trans hlim (Nat.zero_le _) | omega) rfl ?_
          | refine W_load (agg := false) (d := .ptr _ _) rfl rfl rfl (bxc rfl) (by first | exact Nat.zero_le _ | assumption | exact Nat.le_trans hlim (Nat.zero_le _) | omega) rfl ?_
          | refine W_load (agg := false) (d := .func _ _) rfl rfl rfl (bxc rfl) (by first | exact Nat.zero_le _ | assumption | exact Nat.le_trans hlim (Nat.zero_le _) | omega) rfl ?_
          | refine W_load (agg := true) (d := .agg [_, _]) rfl rfl rfl (bxc rfl) (by first | exact Nat.zero_le _ | assumption | exact Nat.le_trans hlim (Nat.zero_le _) | omega) rfl ?_
          | refine W_load (agg := false) (d := .int _ _) rfl rfl rfl (bxs (by omega) (bxc rfl)) (by first | exact Nat.zero_le _ | assumption | exact Nat.le_trans hlim (Nat.zero_le _) | omega) rfl ?_
          | refine W_load (agg := false) (d := .bool _) rfl rfl rfl (bxs (by omega) (bxc rfl)) (by first | exact Nat.zero_le _ | assumption | exact Nat.le_trans hlim (Nat.zero_le _) | omega) rfl ?_
          | refine W_load (agg := false) (d := .slice _ _ _) rfl rfl rfl (bxs (by omega) (bxc rfl)) (by first | exact Nat.zero_le _ | assumption | exact Nat.le_trans hlim (Nat.zero_le _) | omega) rfl ?_
          | refine W_load (agg := false) (d := .ptr _ _) rfl rfl rfl (bxs (by omega) (bxc rfl)) (by first | exact Nat.zero_le _ | assumption | exact Nat.le_trans hlim (Nat.zero_le _) | omega) rfl ?_
          | refine W_load (agg := false) (d := .func _ _) rfl rfl rfl (bxs (by omega) (bxc rfl)) (by first | exact Nat.zero_le _ | assumption | exact Nat.le_trans hlim (Nat.zero_le _) | omega) rfl ?_
          | refine W_load (agg := true) (d := .agg [_, _]) rfl rfl rfl (bxs (by omega) (bxc rfl)) (by first | exact Nat.zero_le _ | assumption | exact Nat.le_trans hlim (Nat.zero_le _) | omega) rfl ?_
          | refine W_load (agg := false) (d := .int _ _) rfl rfl rfl rfl (by first | exact Nat.zero_le _ | omega) rfl ?_
          | refine W_load (agg := false) (d := .bool _) rfl rfl rfl rfl (by first | exact Nat.zero_le _ | omega) rfl ?_
          | refine W_load (agg := false) (d := .slice _ _ _) rfl rfl rfl rfl (by first | exact Nat.zero_le _ | omega) rfl ?_
          | refine W_load (agg := false) (d := .ptr _ _) rfl rfl rfl rfl (by first | exact Nat.zero_le _ | omega) rfl ?_
          | refine W_load (agg := false) (d := .func _ _) rfl rfl rfl rfl (by first | exact Nat.zero_le _ | omega) rfl ?_
          | refine W_load (agg := true) (d := .agg [_, _]) rfl rfl rfl rfl (by first | exact Nat.zero_le _ | omega) rfl ?_)
      | (refine I_call ?_; first
          | refine W_skip rfl ?_
          | refine W_callRO rfl rfl rfl hn1 rfl rfl ?_
          | refine W_callRO rfl rfl rfl hn2 rfl rfl ?_)
      | (refine I_pick ?_; first
          | refine W_pick (v := .int _ _) rfl rfl rfl rfl ?_
          | refine W_pick (v := .bool _) rfl rfl rfl rfl ?_
          | refine W_pick (v := .slice _ _ _) rfl rfl rfl rfl ?_
          | refine W_pick (v := .agg _) rfl rfl rfl rfl ?_
          | refine W_skip rfl ?_)
      | (refine I_extract ?_; first
          | refine W_extract (d := .int _ _) rfl rfl rfl rfl ?_
          | refine W_extract (d := .bool _) rfl rfl rfl rfl ?_
          | refine W_extract (d := .slice _ _ _) rfl rfl rfl rfl ?_
          | refine W_extract (d := .agg _) rfl rfl rfl rfl ?_
          | refine W_extract (d := .ptr _ _) rfl rfl rfl rfl ?_
          | refine W_extract (d := .func _ _) rfl rfl rfl rfl ?_
          | refine W_skip rfl ?_)
      | (refine I_store ?_; first
          | refine W_store (cs' := [_, _]) rfl rfl (upd_same _ _ _) rfl (by first | exact Nat.zero_le _ | assumption | exact Nat.le_trans hlim (Nat.zero_le _) | omega) rfl rfl rfl ?_
          | refine W_store (cs' := [_, _]) rfl rfl ((upd_ne _ _ (by omega)).trans (upd_same _ _ _)) rfl (by first | exact Nat.zero_le _ | assumption | exact Nat.le_trans hlim (Nat.zero_le _) | omega) rfl rfl rfl ?_
          | refine W_store (cs' := [_, _]) rfl rfl rfl rfl (by first | exact Nat.zero_le _ | omega) rfl rfl rfl ?_
          | refine W_skip0 rfl ?_)
      | (refine W_eqlB rfl rfl rfl rfl ?_)
      | (refine W_neqB rfl rfl rfl rfl ?_)
      | (refine W_eqlP rfl rfl rfl rfl rfl rfl (eqAt3 _ _ _ _ _ _) ?_ ?_ <;> intro hq)
      | (refine W_eqlP rfl rfl rfl rfl rfl rfl (eqAt4 _ _ _ _ _ _ _ _) ?_ ?_ <;> intro hq)
      | (refine W_neqP rfl rfl rfl rfl rfl rfl (eqAt3 _ _ _ _ _ _) ?_ ?_ <;> intro hq)
      | (refine W_neqP rfl rfl rfl rfl rfl rfl (eqAt4 _ _ _ _ _ _ _ _) ?_ ?_ <;> intro hq)
      | (refine W_eqlP rfl rfl rfl rfl rfl rfl rfl ?_ ?_ <;> intro _)
      | (refine W_neqP rfl rfl rfl rfl rfl rfl rfl ?_ ?_ <;> intro _)
      | refine W_lenS0 rfl rfl rfl ?_
      | refine W_lenM rfl rfl rfl ?_
      | refine W_lenS rfl rfl rfl ?_
      | refine W_lenR rfl rfl rfl ?_
      | refine W_faddr rfl rfl rfl ?_
      | refine W_faddrE rfl rfl rfl ?_
      | refine W_eqlNil rfl rfl rfl ?_
      | refine W_faddrM rfl rfl ?_
      | refine W_alloc rfl rfl ?_
      | refine W_skip rfl ?_
      | refine W_iaddr rfl rfl rfl rfl (by first | rfl | exact sz_of (by assumption) (by omega)) (by first | decide | (simp only [List.length_map]; omega)) ?_
      | refine W_iaddrRN rfl rfl rfl rfl rfl (by decide) ?_
      | refine W_iaddrR rfl rfl rfl rfl (by first | decide | omega) ?_
      | refine W_skip rfl ?_
      | refine WS_nil ?_)
    | refine WC_seq ?_
    | refine WC_opsS ?_
    | refine WC_skip ?_
    | refine WC_condT rfl ?_
    | refine WC_condF rfl ?_
    | refine WC_block ?_
    | refine WC_exit ?_
    | refine WC_ret ?_)
        all_goals first | (exfalso; simp at hq; done) | exact hrest _ _ o s.tail H3 G3 ho (by rw [List.length_tail]; omega) rfl rfl rfl rfl rfl
      · have hp1 := s_PeekA H (by omega)
        have hp2 := fun {x y : Option Box} => g_Peek (G.of (st' := { st with boxes := upd (upd st.boxes st.next x) st.next y, next := st.next + 1 }) rfl (Nat.le_succ _) G.tk ((upd_ne _ _ (Nat.ne_of_lt G.nx)).trans (upd_ne _ _ (Nat.ne_of_lt G.nx)))) (by omega)
        have hl1 : st.lim ≤ st.next := Nat.le_trans H.lim (Nat.le_of_lt H.nx)
        have hl2 : st.lim ≤ st.next + 1 := Nat.le_succ_of_le hl1
        have hne : st.next ≠ st.next + 1 := by omega
        have hq4 : ∀ {q : Nat} {x y u v : Option Box}, q < st.next → upd (upd (upd (upd st.boxes st.next x) st.next y) (st.next + 1) u) (st.next + 1) v q = st.boxes q := fun {q x y u v} hq => by
          have k1 : q ≠ st.next := Nat.ne_of_lt hq
          have k2 : q ≠ st.next + 1 := by omega
          exact (upd_ne _ _ k2).trans ((upd_ne _ _ k2).trans ((upd_ne _ _ k1).trans (upd_ne _ _ k1)))
        have H3 : ∀ {x y u v : Option Box}, AH { st with boxes := upd (upd (upd (upd st.boxes st.next x) st.next y) (st.next + 1) u) (st.next + 1) v, next := st.next + 1 + 1 } h o s := fun {x y u v} => H.of rfl (Nat.le_succ_of_le (Nat.le_succ _)) (fun q hq _ => hq4 hq)
        have G3 : ∀ {x y u v : Option Box}, RHp { st with boxes := upd (upd (upd (upd st.boxes st.next x) st.next y) (st.next + 1) u) (st.next + 1) v, next := st.next + 1 + 1 } g s := fun {x y u v} => G.of rfl (Nat.le_succ_of_le (Nat.le_succ _)) G.tk (hq4 G.nx)
        have hn1 := fun {x y u v : Option Box} => s_LenA (H3 (x := x) (y := y) (u := u) (v := v)) (by omega)
        have hn2 := fun {x y u v : Option Box} => g_Len (G3 (x := x) (y := y) (u := u) (v := v))
        have hb0 : ∀ t : Bool, t = true ∨ t = false := fun t => by cases t <;> simp
        generalize hbt : (decide (0 < s.length)) = bt at hp1 hp2
        rcases hb0 bt with rfl | rfl
        all_goals
          repeat' (first
    | (refine I_WS ?_; first
      | refine W_iaddr (j := pre.length) rfl rfl rfl rfl rfl hpl ?_
      | refine W_store (cs' := [_, _]) rfl rfl (upd_same _ _ _) rfl hl1 rfl rfl rfl ?_
      | refine W_store (cs' := [_, _]) rfl rfl (upd_same _ _ _) rfl hl2 rfl rfl rfl ?_
      | (refine W_neqP rfl rfl rfl rfl rfl rfl (eqAt2 _ _ _ _) ?_ ?_ <;> intro hq)
      | (refine I_mov ?_; first
          | refine W_skip rfl ?_
          | refine W_mov (v := .int _ _) rfl rfl rfl ?_
          | refine W_mov (v := .bool _) rfl rfl rfl ?_
          | refine W_mov (v := .slice _ _ _) rfl rfl rfl ?_
          | refine W_mov (v := .agg _) rfl rfl rfl ?_
          | refine W_mov (v := .ptr _ _) rfl rfl rfl ?_
          | refine W_mov (v := .func _ _) rfl rfl rfl ?_
          | refine W_mov (v := .eptr _ _ _ _) rfl rfl rfl ?_
          | refine W_mov (v := .rs _ _ _ _ _) rfl rfl rfl ?_
          | refine W_mov (v := .tuple _) rfl rfl rfl ?_
          | refine W_mov (v := .map _) rfl rfl rfl ?_
          | refine W_mov (v := .str _) rfl rfl rfl ?_
          | refine W_mov (v := .nilptr) rfl rfl rfl ?_)
      | (refine I_bin ?_; first
          | refine W_skip rfl ?_
          | refine W_lssT rfl rfl rfl rfl (by omega) ?_
          | refine W_lssF rfl rfl rfl rfl (by omega) ?_
          | (refine W_lss rfl rfl rfl rfl ?_ ?_ <;> intro _)
          | refine W_gtrT rfl rfl rfl rfl (by omega) ?_
          | refine W_gtrF rfl rfl rfl rfl (by omega) ?_
          | (refine W_gtr rfl rfl rfl rfl ?_ ?_ <;> intro _)
          | refine W_eqlT rfl rfl rfl rfl (by omega) ?_
          | refine W_eqlF rfl rfl rfl rfl (by omega) ?_
          | (refine W_eql rfl rfl rfl rfl ?_ ?_ <;> intro _)
          | refine W_neqT rfl rfl rfl rfl (by omega) ?_
          | refine W_neqF rfl rfl rfl rfl (by omega) ?_
          | (refine W_neq rfl rfl rfl rfl ?_ ?_ <;> intro _)
          | refine W_add rfl rfl rfl rfl (by first | exact w64 (by omega) | rfl) ?_)
      | (refine I_load ?_; first
          | refine W_skip rfl ?_
          | refine W_loadE (agg := false) (d := .int _ _) rfl rfl rfl hv rfl ?_
          | refine W_load (agg := true) (d := .agg [_, _]) rfl rfl rfl (bxs hne (bxs hne (bxc rfl))) hl1 rfl ?_
          | refine W_load (agg := true) (d := .agg [_, _]) rfl rfl rfl (bxc rfl) hl2 rfl ?_
          | refine W_load (agg := false) (d := .int _ _) rfl rfl rfl (bxc rfl) (by first | exact Nat.zero_le _ | assumption | exact Nat.le_trans hlim (Nat.zero_le _) | omega) rfl ?_
          | refine W_load (agg := false) (d := .bool _) rfl rfl rfl (bxc rfl) (by first | exact Nat.zero_le _ | assumption | exact Nat.le_trans hlim (Nat.zero_le _) | omega) rfl ?_
          | refine W_load (agg := false) (d := .slice _ _ _) rfl rfl rfl (bxc rfl) (by first | exact Nat.zero_le _ | assumption | exact Nat.le_trans hlim (Nat.zero_le _) | omega) rfl ?_
          | refine W_load (agg := false) (d := .ptr _ _) rfl rfl rfl (bxc rfl) (by first | exact Nat.zero_le _ | assumption | exact Nat.le_trans hlim (Nat.zero_le _) | omega) rfl ?_
          | refine W_load (agg := false) (d := .func _ _) rfl rfl rfl (bxc rfl) (by first | exact Nat.zero_le _ | assumption | exact Nat.le_trans hlim (Nat.zero_le _) | omega) rfl ?_
          | refine W_load (agg := true) (d := .agg [_, _]) rfl rfl rfl (bxc rfl) (by first | exact Nat.zero_le _ | assumption | exact Nat.le_trans hlim (Nat.zero_le _) | omega) rfl ?_
          | refine W_load (agg := false) (d := .int _ _) rfl rfl rfl (bxs (by omega) (bxc rfl)) (by first | exact Nat.zero_le _ | assumption | exact Nat.le_trans hlim (Nat.zero_le _) | omega) rfl ?_
          | refine W_load (agg := false) (d := .bool _) rfl rfl rfl (bxs (by omega) (bxc rfl)) (by first | exact Nat.zero_le _ | assumption | exact Nat.le_trans hlim (Nat.zero_le _) | omega) rfl ?_
          | refine W_load (agg := false) (d := .slice _ _ _) rfl rfl rfl (bxs (by omega) (bxc rfl)) (by first | exact Nat.zero_le _ | assumption | exact Nat.le_trans hlim (Nat.zero_le _) | omega) rfl ?_
          | refine W_load (agg := false) (d := .ptr _ _) rfl rfl rfl (bxs (by omega) (bxc rfl)) (by first | exact Nat.zero_le _ | assumption | exact Nat.le_trans hlim (Nat.zero_le _) | omega) rfl ?_
          | refine W_load (agg := false) (d := .func _ _) rfl rfl rfl (bxs (by omega) (bxc rfl)) (by first | exact Nat.zero_le _ | assumption | exact Nat.le_trans hlim (Nat.zero_le _) | omega) rfl ?_
          | refine W_load (agg := true) (d := .agg [_, _]) rfl rfl rfl (bxs (by omega) (bxc rfl)) (by first | exact Nat.zero_le _ | assumption | exact Nat.le_trans hlim (Nat.zero_le _) | omega) rfl ?_
          | refine W_load (agg := false) (d := .int _ _) rfl rfl rfl rfl (by first | exact Nat.zero_le _ | omega) rfl ?_
          | refine W_load (agg := false) (d := .bool _) rfl rfl rfl rfl (by first | exact Nat.zero_le _ | omega) rfl ?_
          | refine W_load (agg := false) (d := .slice _ _ _) rfl rfl rfl rfl (by first | exact Nat.zero_le _ | omega) rfl ?_
          | refine W_load (agg := false) (d := .ptr _ _) rfl rfl rfl rfl (by first | exact Nat.zero_le _ | omega) rfl ?_
          | refine W_load (agg := false) (d := .func _ _) rfl rfl rfl rfl (by first | exact Nat.zero_le _ | omega) rfl ?_
          | refine W_load (agg := true) (d := .agg [_, _]) rfl rfl rfl rfl (by first | exact Nat.zero_le _ | omega) rfl ?_)
      | (refine I_call ?_; first
          | refine W_skip rfl ?_
          | refine W_callRO rfl rfl rfl hp1 rfl rfl ?_
          | refine W_callRO rfl rfl rfl hp2 rfl rfl ?_
          | refine W_callRO rfl rfl rfl hn1 rfl rfl ?_
          | refine W_callRO rfl rfl rfl hn2 rfl rfl ?_)
      | (refine I_pick ?_; first
          | refine W_pick (v := .int _ _) rfl rfl rfl rfl ?_
          | refine W_pick (v := .bool _) rfl rfl rfl rfl ?_
          | refine W_pick (v := .slice _ _ _) rfl rfl rfl rfl ?_
          | refine W_pick (v := .agg _) rfl rfl rfl rfl ?_
          | refine W_skip rfl ?_)
      | (refine I_extract ?_; first
          | refine W_extract (d := .int _ _) rfl rfl rfl rfl ?_
          | refine W_extract (d := .bool _) rfl rfl rfl rfl ?_
          | refine W_extract (d := .slice _ _ _) rfl rfl rfl rfl ?_
          | refine W_extract (d := .agg _) rfl rfl rfl rfl ?_
          | refine W_extract (d := .ptr _ _) rfl rfl rfl rfl ?_
          | refine W_extract (d := .func _ _) rfl rfl rfl rfl ?_
          | refine W_skip rfl ?_)
      | (refine I_store ?_; first
          | refine W_store (cs' := [_, _]) rfl rfl (upd_same _ _ _) rfl (by first | exact Nat.zero_le _ | assumption | exact Nat.le_trans hlim (Nat.zero_le _) | omega) rfl rfl rfl ?_
          | refine W_store (cs' := [_, _]) rfl rfl ((upd_ne _ _ (by omega)).trans (upd_same _ _ _)) rfl (by first | exact Nat.zero_le _ | assumption | exact Nat.le_trans hlim (Nat.zero_le _) | omega) rfl rfl rfl ?_
          | refine W_store (cs' := [_, _]) rfl rfl rfl rfl (by first | exact Nat.zero_le _ | omega) rfl rfl rfl ?_
          | refine W_skip0 rfl ?_)
      | (refine W_eqlB rfl rfl rfl rfl ?_)
      | (refine W_neqB rfl rfl rfl rfl ?_)
      | (refine W_eqlP rfl rfl rfl rfl rfl rfl (eqAt3 _ _ _ _ _ _) ?_ ?_ <;> intro hq)
      | (refine W_eqlP rfl rfl rfl rfl rfl rfl (eqAt4 _ _ _ _ _ _ _ _) ?_ ?_ <;> intro hq)
      | (refine W_neqP rfl rfl rfl rfl rfl rfl (eqAt3 _ _ _ _ _ _) ?_ ?_ <;> intro hq)
      | (refine W_neqP rfl rfl rfl rfl rfl rfl (eqAt4 _ _ _ _ _ _ _ _) ?_ ?_ <;> intro hq)
      | (refine W_eqlP rfl rfl rfl rfl rfl rfl rfl ?_ ?_ <;> intro _)
      | (refine W_neqP rfl rfl rfl rfl rfl rfl rfl ?_ ?_ <;> intro _)
      | refine W_lenS0 rfl rfl rfl ?_
      | refine W_lenM rfl rfl rfl ?_
      | refine W_lenS rfl rfl rfl ?_
      | refine W_lenR rfl rfl rfl ?_
      | refine W_faddr rfl rfl rfl ?_
      | refine W_faddrE rfl rfl rfl ?_
      | refine W_eqlNil rfl rfl rfl ?_
      | refine W_faddrM rfl rfl ?_
      | refine W_alloc rfl rfl ?_
      | refine W_skip rfl ?_
      | refine W_iaddr rfl rfl rfl rfl (by first | rfl | exact sz_of (by assumption) (by omega)) (by first | decide | (simp only [List.length_map]; omega)) ?_
      | refine W_iaddrRN rfl rfl rfl rfl rfl (by decide) ?_
      | refine W_iaddrR rfl rfl rfl rfl (by first | decide | omega) ?_
      | refine W_skip rfl ?_
      | refine WS_nil ?_)
    | refine WC_seq ?_
    | refine WC_opsS ?_
    | refine WC_skip ?_
    | refine WC_condT rfl ?_
    | refine WC_condF rfl ?_
    | refine WC_block ?_
    | refine WC_exit ?_
    | refine WC_ret ?_)
        all_goals first | (exfalso; simp at hq; done) | exact hrest _ _ o s H3 G3 ho (by omega) rfl rfl rfl rfl rfl
theorem run_Tells (l : List Rd) (acts : List Ct) : EvP Γ 3 [.slice .no 2 (l.map Rd.e), .slice .no 3 (acts.map Ct.e)] (.bool true) := by
  by_cases hc : l.length ≤ 100 ∧ acts.length ≤ 200
  · obtain ⟨h1, h2⟩ := hc
    have hsl : (sortL l).length = l.length := (sort_perm l).length_eq
    have hN := s_New l (by omega) .no 2 (.inl rfl) Store.empty (Nat.le_refl _)
    refine EvP_code rfl rfl ?_
    repeat' (first
    | (refine I_WS ?_; first
      | (refine I_mov ?_; first
          | refine W_skip rfl ?_
          | refine W_mov (v := .int _ _) rfl rfl rfl ?_
          | refine W_mov (v := .bool _) rfl rfl rfl ?_
          | refine W_mov (v := .slice _ _ _) rfl rfl rfl ?_
          | refine W_mov (v := .agg _) rfl rfl rfl ?_
          | refine W_mov (v := .ptr _ _) rfl rfl rfl ?_
          | refine W_mov (v := .func _ _) rfl rfl rfl ?_
          | refine W_mov (v := .eptr _ _ _ _) rfl rfl rfl ?_
          | refine W_mov (v := .rs _ _ _ _ _) rfl rfl rfl ?_
          | refine W_mov (v := .tuple _) rfl rfl rfl ?_
          | refine W_mov (v := .map _) rfl rfl rfl ?_
          | refine W_mov (v := .str _) rfl rfl rfl ?_
          | refine W_mov (v := .nilptr) rfl rfl rfl ?_)
      | (refine I_bin ?_; first
          | refine W_skip rfl ?_
          | refine W_lssT rfl rfl rfl rfl (by omega) ?_
          | refine W_lssF rfl rfl rfl rfl (by omega) ?_
          | (refine W_lss rfl rfl rfl rfl ?_ ?_ <;> intro _)
          | refine W_gtrT rfl rfl rfl rfl (by omega) ?_
          | refine W_gtrF rfl rfl rfl rfl (by omega) ?_
          | (refine W_gtr rfl rfl rfl rfl ?_ ?_ <;> intro _)
          | refine W_eqlT rfl rfl rfl rfl (by omega) ?_
          | refine W_eqlF rfl rfl rfl rfl (by omega) ?_
          | (refine W_eql rfl rfl rfl rfl ?_ ?_ <;> intro _)
          | refine W_neqT rfl rfl rfl rfl (by omega) ?_
          | refine W_neqF rfl rfl rfl rfl (by omega) ?_
          | (refine W_neq rfl rfl rfl rfl ?_ ?_ <;> intro _)
          | refine W_add rfl rfl rfl rfl (by first | exact w64 (by omega) | rfl) ?_)
      | (refine I_load ?_; first
          | refine W_skip rfl ?_
          | refine W_load (agg := false) (d := .int _ _) rfl rfl rfl (bxc rfl) (by first | exact Nat.zero_le _ | assumption | exact Nat.le_trans hlim (Nat.zero_le _) | omega) rfl ?_
          | refine W_load (agg := false) (d := .bool _) rfl rfl rfl (bxc rfl) (by first | exact Nat.zero_le _ | assumption | exact Nat.le_trans hlim (Nat.zero_le _) | omega) rfl ?_
          | refine W_load (agg := false) (d := .slice _ _ _) rfl rfl rfl (bxc rfl) (by first | exact Nat.zero_le _ | assumption | exact Nat.le_trans hlim (Nat.zero_le _) | omega) rfl ?_
          | refine W_load (agg := false) (d := .ptr _ _) rfl rfl rfl (bxc rfl) (by first | exact Nat.zero_le _ | assumption | exact Nat.le_trans hlim (Nat.zero_le _) | omega) rfl ?_
          | refine W_load (agg := false) (d := .func _ _) rfl rfl rfl (bxc rfl) (by first | exact Nat.zero_le _ | assumption | exact Nat.le_trans hlim (Nat.zero_le _) | omega) rfl ?_
          | refine W_load (agg := true) (d := .agg [_, _]) rfl rfl rfl (bxc rfl) (by first | exact Nat.zero_le _ | assumption | exact Nat.le_trans hlim (Nat.zero_le _) | omega) rfl ?_
          | refine W_load (agg := false) (d := .int _ _) rfl rfl rfl (bxs (by omega) (bxc rfl)) (by first | exact Nat.zero_le _ | assumption | exact Nat.le_trans hlim (Nat.zero_le _) | omega) rfl ?_
          | refine W_load (agg := false) (d := .bool _) rfl rfl rfl (bxs (by omega) (bxc rfl)) (by first | exact Nat.zero_le _ | assumption | exact Nat.le_trans hlim (Nat.zero_le _) | omega) rfl ?_
          | refine W_load (agg := false) (d := .slice _ _ _) rfl rfl rfl (bxs (by omega) (bxc rfl)) (by first | exact Nat.zero_le _ | assumption | exact Nat.le_trans hlim (Nat.zero_le _) | omega) rfl ?_
          | refine W_load (agg := false) (d := .ptr _ _) rfl rfl rfl (bxs (by omega) (bxc rfl)) (by first | exact Nat.zero_le _ | assumption | exact Nat.le_trans hlim (Nat.zero_le _) | omega) rfl ?_
          | refine W_load (agg := false) (d := .func _ _) rfl rfl rfl (bxs (by omega) (bxc rfl)) (by first | exact Nat.zero_le _ | assumption | exact Nat.le_trans hlim (Nat.zero_le _) | omega) rfl ?_
          | refine W_load (agg := true) (d := .agg [_, _]) rfl rfl rfl (bxs (by omega) (bxc rfl)) (by first | exact Nat.zero_le _ | assumption | exact Nat.le_trans hlim (Nat.zero_le _) | omega) rfl ?_
          | refine W_load (agg := false) (d := .int _ _) rfl rfl rfl rfl (by first | exact Nat.zero_le _ | omega) rfl ?_
          | refine W_load (agg := false) (d := .bool _) rfl rfl rfl rfl (by first | exact Nat.zero_le _ | omega) rfl ?_
          | refine W_load (agg := false) (d := .slice _ _ _) rfl rfl rfl rfl (by first | exact Nat.zero_le _ | omega) rfl ?_
          | refine W_load (agg := false) (d := .ptr _ _) rfl rfl rfl rfl (by first | exact Nat.zero_le _ | omega) rfl ?_
          | refine W_load (agg := false) (d := .func _ _) rfl rfl rfl rfl (by first | exact Nat.zero_le _ | omega) rfl ?_
          | refine W_load (agg := true) (d := .agg [_, _]) rfl rfl rfl rfl (by first | exact Nat.zero_le _ | omega) rfl ?_)
      | (refine I_call ?_; first
          | refine W_skip rfl ?_
          | refine W_callBT rfl rfl rfl s_small rfl rfl ?_
          | (refine W_callRWX0 rfl rfl hN ?_ <;> intro r1 st1 hp1))
      | (refine I_pick ?_; first
          | refine W_pick (v := .int _ _) rfl rfl rfl rfl ?_
          | refine W_pick (v := .bool _) rfl rfl rfl rfl ?_
          | refine W_pick (v := .slice _ _ _) rfl rfl rfl rfl ?_
          | refine W_pick (v := .agg _) rfl rfl rfl rfl ?_
          | refine W_skip rfl ?_)
      | (refine I_extract ?_; first
          | refine W_extract (d := .int _ _) rfl rfl rfl rfl ?_
          | refine W_extract (d := .bool _) rfl rfl rfl rfl ?_
          | refine W_extract (d := .slice _ _ _) rfl rfl rfl rfl ?_
          | refine W_extract (d := .agg _) rfl rfl rfl rfl ?_
          | refine W_extract (d := .ptr _ _) rfl rfl rfl rfl ?_
          | refine W_extract (d := .func _ _) rfl rfl rfl rfl ?_
          | refine W_skip rfl ?_)
      | (refine I_store ?_; first
          | refine W_store (cs' := [_, _]) rfl rfl (upd_same _ _ _) rfl (by first | exact Nat.zero_le _ | assumption | exact Nat.le_trans hlim (Nat.zero_le _) | omega) rfl rfl rfl ?_
          | refine W_store (cs' := [_, _]) rfl rfl ((upd_ne _ _ (by omega)).trans (upd_same _ _ _)) rfl (by first | exact Nat.zero_le _ | assumption | exact Nat.le_trans hlim (Nat.zero_le _) | omega) rfl rfl rfl ?_
          | refine W_store (cs' := [_, _]) rfl rfl rfl rfl (by first | exact Nat.zero_le _ | omega) rfl rfl rfl ?_
          | refine W_skip0 rfl ?_)
      | (refine W_eqlB rfl rfl rfl rfl ?_)
      | (refine W_neqB rfl rfl rfl rfl ?_)
      | (refine W_eqlP rfl rfl rfl rfl rfl rfl (eqAt3 _ _ _ _ _ _) ?_ ?_ <;> intro hq)
      | (refine W_eqlP rfl rfl rfl rfl rfl rfl (eqAt4 _ _ _ _ _ _ _ _) ?_ ?_ <;> intro hq)
      | (refine W_neqP rfl rfl rfl rfl rfl rfl (eqAt3 _ _ _ _ _ _) ?_ ?_ <;> intro hq)
      | (refine W_neqP rfl rfl rfl rfl rfl rfl (eqAt4 _ _ _ _ _ _ _ _) ?_ ?_ <;> intro hq)
      | (refine W_eqlP rfl rfl rfl rfl rfl rfl rfl ?_ ?_ <;> intro _)
      | (refine W_neqP rfl rfl rfl rfl rfl rfl rfl ?_ ?_ <;> intro _)
      | refine W_lenS0 rfl rfl rfl ?_
      | refine W_lenM rfl rfl rfl ?_
      | refine W_lenS rfl rfl rfl ?_
      | refine W_lenR rfl rfl rfl ?_
      | refine W_faddr rfl rfl rfl ?_
      | refine W_faddrE rfl rfl rfl ?_
      | refine W_eqlNil rfl rfl rfl ?_
      | refine W_faddrM rfl rfl ?_
      | refine W_alloc rfl rfl ?_
      | refine W_skip rfl ?_
      | refine W_iaddr rfl rfl rfl rfl (by first | rfl | exact sz_of (by assumption) (by omega)) (by first | decide | (simp only [List.length_map]; omega)) ?_
      | refine W_iaddrRN rfl rfl rfl rfl rfl (by decide) ?_
      | refine W_iaddrR rfl rfl rfl rfl (by first | decide | omega) ?_
      | refine W_skip rfl ?_
      | refine WS_nil ?_)
    | refine WC_seq ?_
    | refine WC_opsS ?_
    | refine WC_skip ?_
    | refine WC_condT rfl ?_
    | refine WC_condF rfl ?_
    | refine WC_block ?_
    | refine WC_exit ?_
    | refine WC_ret ?_)
    obtain ⟨h, oh, rfl, b1, b2, H, N⟩ := hp1
    have hG := g_New l (by omega) st1 (Nat.le_trans H.lim (Nat.le_of_lt H.nx)) (by rw [N.tlim, N.ntok]; exact Nat.le_refl _)
    repeat' (first
    | (refine I_WS ?_; first
      | (refine I_mov ?_; first
          | refine W_skip rfl ?_
          | refine W_mov (v := .int _ _) rfl rfl rfl ?_
          | refine W_mov (v := .bool _) rfl rfl rfl ?_
          | refine W_mov (v := .slice _ _ _) rfl rfl rfl ?_
          | refine W_mov (v := .agg _) rfl rfl rfl ?_
          | refine W_mov (v := .ptr _ _) rfl rfl rfl ?_
          | refine W_mov (v := .func _ _) rfl rfl rfl ?_
          | refine W_mov (v := .eptr _ _ _ _) rfl rfl rfl ?_
          | refine W_mov (v := .rs _ _ _ _ _) rfl rfl rfl ?_
          | refine W_mov (v := .tuple _) rfl rfl rfl ?_
          | refine W_mov (v := .map _) rfl rfl rfl ?_
          | refine W_mov (v := .str _) rfl rfl rfl ?_
          | refine W_mov (v := .nilptr) rfl rfl rfl ?_)
      | (refine I_bin ?_; first
          | refine W_skip rfl ?_
          | refine W_lssT rfl rfl rfl rfl (by omega) ?_
          | refine W_lssF rfl rfl rfl rfl (by omega) ?_
          | (refine W_lss rfl rfl rfl rfl ?_ ?_ <;> intro _)
          | refine W_gtrT rfl rfl rfl rfl (by omega) ?_
          | refine W_gtrF rfl rfl rfl rfl (by omega) ?_
          | (refine W_gtr rfl rfl rfl rfl ?_ ?_ <;> intro _)
          | refine W_eqlT rfl rfl rfl rfl (by omega) ?_
          | refine W_eqlF rfl rfl rfl rfl (by omega) ?_
          | (refine W_eql rfl rfl rfl rfl ?_ ?_ <;> intro _)
          | refine W_neqT rfl rfl rfl rfl (by omega) ?_
          | refine W_neqF rfl rfl rfl rfl (by omega) ?_
          | (refine W_neq rfl rfl rfl rfl ?_ ?_ <;> intro _)
          | refine W_add rfl rfl rfl rfl (by first | exact w64 (by omega) | rfl) ?_)
      | (refine I_load ?_; first
          | refine W_skip rfl ?_
          | refine W_load (agg := false) (d := .int _ _) rfl rfl rfl (bxc rfl) (by first | exact Nat.zero_le _ | assumption | exact Nat.le_trans hlim (Nat.zero_le _) | omega) rfl ?_
          | refine W_load (agg := false) (d := .bool _) rfl rfl rfl (bxc rfl) (by first | exact Nat.zero_le _ | assumption | exact Nat.le_trans hlim (Nat.zero_le _) | omega) rfl ?_
          | refine W_load (agg := false) (d := .slice _ _ _) rfl rfl rfl (bxc rfl) (by first | exact Nat.zero_le _ | assumption | exact Nat.le_trans hlim (Nat.zero_le _) | omega) rfl ?_
          | refine W_load (agg := false) (d := .ptr _ _) rfl rfl rfl (bxc rfl) (by first | exact Nat.zero_le _ | assumption | exact Nat.le_trans hlim (Nat.zero_le _) | omega) rfl ?_
          | refine W_load (agg := false) (d := .func _ _) rfl rfl rfl (bxc rfl) (by first | exact Nat.zero_le _ | assumption | exact Nat.le_trans hlim (Nat.zero_le _) | omega) rfl ?_
          | refine W_load (agg := true) (d := .agg [_, _]) rfl rfl rfl (bxc rfl) (by first | exact Nat.zero_le _ | assumption | exact Nat.le_trans hlim (Nat.zero_le _) | omega) rfl ?_
          | refine W_load (agg := false) (d := .int _ _) rfl rfl rfl (bxs (by omega) (bxc rfl)) (by first | exact Nat.zero_le _ | assumption | exact Nat.le_trans hlim (Nat.zero_le _) | omega) rfl ?_
          | refine W_load (agg := false) (d := .bool _) rfl rfl rfl (bxs (by omega) (bxc rfl)) (by first | exact Nat.zero_le _ | assumption | exact Nat.le_trans hlim (Nat.zero_le _) | omega) rfl ?_
          | refine W_load (agg := false) (d := .slice _ _ _) rfl rfl rfl (bxs (by omega) (bxc rfl)) (by first | exact Nat.zero_le _ | assumption | exact Nat.le_trans hlim (Nat.zero_le _) | omega) rfl ?_
          | refine W_load (agg := false) (d := .ptr _ _) rfl rfl rfl (bxs (by omega) (bxc rfl)) (by first | exact Nat.zero_le _ | assumption | exact Nat.le_trans hlim (Nat.zero_le _) | omega) rfl ?_
          | refine W_load (agg := false) (d := .func _ _) rfl rfl rfl (bxs (by omega) (bxc rfl)) (by first | exact Nat.zero_le _ | assumption | exact Nat.le_trans hlim (Nat.zero_le _) | omega) rfl ?_
          | refine W_load (agg := true) (d := .agg [_, _]) rfl rfl rfl (bxs (by omega) (bxc rfl)) (by first | exact Nat.zero_le _ | assumption | exact Nat.le_trans hlim (Nat.zero_le _) | omega) rfl ?_
          | refine W_load (agg := false) (d := .int _ _) rfl rfl rfl rfl (by first | exact Nat.zero_le _ | omega) rfl ?_
          | refine W_load (agg := false) (d := .bool _) rfl rfl rfl rfl (by first | exact Nat.zero_le _ | omega) rfl ?_
          | refine W_load (agg := false) (d := .slice _ _ _) rfl rfl rfl rfl (by first | exact Nat.zero_le _ | omega) rfl ?_
          | refine W_load (agg := false) (d := .ptr _ _) rfl rfl rfl rfl (by first | exact Nat.zero_le _ | omega) rfl ?_
          | refine W_load (agg := false) (d := .func _ _) rfl rfl rfl rfl (by first | exact Nat.zero_le _ | omega) rfl ?_
          | refine W_load (agg := true) (d := .agg [_, _]) rfl rfl rfl rfl (by first | exact Nat.zero_le _ | omega) rfl ?_)
      | (refine I_call ?_; first
          | refine W_skip rfl ?_
          | (refine W_callRWX0 rfl rfl hG ?_ <;> intro r2 st2 hp2))
      | (refine I_pick ?_; first
          | refine W_pick (v := .int _ _) rfl rfl rfl rfl ?_
          | refine W_pick (v := .bool _) rfl rfl rfl rfl ?_
          | refine W_pick (v := .slice _ _ _) rfl rfl rfl rfl ?_
          | refine W_pick (v := .agg _) rfl rfl rfl rfl ?_
          | refine W_skip rfl ?_)
      | (refine I_extract ?_; first
          | refine W_extract (d := .int _ _) rfl rfl rfl rfl ?_
          | refine W_extract (d := .bool _) rfl rfl rfl rfl ?_
          | refine W_extract (d := .slice _ _ _) rfl rfl rfl rfl ?_
          | refine W_extract (d := .agg _) rfl rfl rfl rfl ?_
          | refine W_extract (d := .ptr _ _) rfl rfl rfl rfl ?_
          | refine W_extract (d := .func _ _) rfl rfl rfl rfl ?_
          | refine W_skip rfl ?_)
      | (refine I_store ?_; first
          | refine W_store (cs' := [_, _]) rfl rfl (upd_same _ _ _) rfl (by first | exact Nat.zero_le _ | assumption | exact Nat.le_trans hlim (Nat.zero_le _) | omega) rfl rfl rfl ?_
          | refine W_store (cs' := [_, _]) rfl rfl ((upd_ne _ _ (by omega)).trans (upd_same _ _ _)) rfl (by first | exact Nat.zero_le _ | assumption | exact Nat.le_trans hlim (Nat.zero_le _) | omega) rfl rfl rfl ?_
          | refine W_store (cs' := [_, _]) rfl rfl rfl rfl (by first | exact Nat.zero_le _ | omega) rfl rfl rfl ?_
          | refine W_skip0 rfl ?_)
      | (refine W_eqlB rfl rfl rfl rfl ?_)
      | (refine W_neqB rfl rfl rfl rfl ?_)
      | (refine W_eqlP rfl rfl rfl rfl rfl rfl (eqAt3 _ _ _ _ _ _) ?_ ?_ <;> intro hq)
      | (refine W_eqlP rfl rfl rfl rfl rfl rfl (eqAt4 _ _ _ _ _ _ _ _) ?_ ?_ <;> intro hq)
      | (refine W_neqP rfl rfl rfl rfl rfl rfl (eqAt3 _ _ _ _ _ _) ?_ ?_ <;> intro hq)
      | (refine W_neqP rfl rfl rfl rfl rfl rfl (eqAt4 _ _ _ _ _ _ _ _) ?_ ?_ <;> intro hq)
      | (refine W_eqlP rfl rfl rfl rfl rfl rfl rfl ?_ ?_ <;> intro _)
      | (refine W_neqP rfl rfl rfl rfl rfl rfl rfl ?_ ?_ <;> intro _)
      | refine W_lenS0 rfl rfl rfl ?_
      | refine W_lenM rfl rfl rfl ?_
      | refine W_lenS rfl rfl rfl ?_
      | refine W_lenR rfl rfl rfl ?_
      | refine W_faddr rfl rfl rfl ?_
      | refine W_faddrE rfl rfl rfl ?_
      | refine W_eqlNil rfl rfl rfl ?_
      | refine W_faddrM rfl rfl ?_
      | refine W_alloc rfl rfl ?_
      | refine W_skip rfl ?_
      | refine W_iaddr rfl rfl rfl rfl (by first | rfl | exact sz_of (by assumption) (by omega)) (by first | decide | (simp only [List.length_map]; omega)) ?_
      | refine W_iaddrRN rfl rfl rfl rfl rfl (by decide) ?_
      | refine W_iaddrR rfl rfl rfl rfl (by first | decide | omega) ?_
      | refine W_skip rfl ?_
      | refine WS_nil ?_)
    | refine WC_seq ?_
    | refine WC_opsS ?_
    | refine WC_skip ?_
    | refine WC_condT rfl ?_
    | refine WC_condF rfl ?_
    | refine WC_block ?_
    | refine WC_exit ?_
    | refine WC_ret ?_)
    obtain ⟨g, rfl, c1, G, c3, c4, c5, c6⟩ := hp2
    have H2 : AH st2 h oh (sortL l) := H.of c3 c5 (fun q hq _ => c6 q hq)
    have hgh : g ≠ h := by have := H.nx; omega
    have hgo : some g ≠ oh := fun e => by cases e.symm; have := H.onx; omega
    repeat' (first
    | (refine I_WS ?_; first
      | (refine I_mov ?_; first
          | refine W_skip rfl ?_
          | refine W_mov (v := .int _ _) rfl rfl rfl ?_
          | refine W_mov (v := .bool _) rfl rfl rfl ?_
          | refine W_mov (v := .slice _ _ _) rfl rfl rfl ?_
          | refine W_mov (v := .agg _) rfl rfl rfl ?_
          | refine W_mov (v := .ptr _ _) rfl rfl rfl ?_
          | refine W_mov (v := .func _ _) rfl rfl rfl ?_
          | refine W_mov (v := .eptr _ _ _ _) rfl rfl rfl ?_
          | refine W_mov (v := .rs _ _ _ _ _) rfl rfl rfl ?_
          | refine W_mov (v := .tuple _) rfl rfl rfl ?_
          | refine W_mov (v := .map _) rfl rfl rfl ?_
          | refine W_mov (v := .str _) rfl rfl rfl ?_
          | refine W_mov (v := .nilptr) rfl rfl rfl ?_)
      | (refine I_bin ?_; first
          | refine W_skip rfl ?_
          | refine W_lssT rfl rfl rfl rfl (by omega) ?_
          | refine W_lssF rfl rfl rfl rfl (by omega) ?_
          | (refine W_lss rfl rfl rfl rfl ?_ ?_ <;> intro _)
          | refine W_gtrT rfl rfl rfl rfl (by omega) ?_
          | refine W_gtrF rfl rfl rfl rfl (by omega) ?_
          | (refine W_gtr rfl rfl rfl rfl ?_ ?_ <;> intro _)
          | refine W_eqlT rfl rfl rfl rfl (by omega) ?_
          | refine W_eqlF rfl rfl rfl rfl (by omega) ?_
          | (refine W_eql rfl rfl rfl rfl ?_ ?_ <;> intro _)
          | refine W_neqT rfl rfl rfl rfl (by omega) ?_
          | refine W_neqF rfl rfl rfl rfl (by omega) ?_
          | (refine W_neq rfl rfl rfl rfl ?_ ?_ <;> intro _)
          | refine W_add rfl rfl rfl rfl (by first | exact w64 (by omega) | rfl) ?_)
      | (refine I_load ?_; first
          | refine W_skip rfl ?_
          | refine W_load (agg := false) (d := .int _ _) rfl rfl rfl (bxc rfl) (by first | exact Nat.zero_le _ | assumption | exact Nat.le_trans hlim (Nat.zero_le _) | omega) rfl ?_
          | refine W_load (agg := false) (d := .bool _) rfl rfl rfl (bxc rfl) (by first | exact Nat.zero_le _ | assumption | exact Nat.le_trans hlim (Nat.zero_le _) | omega) rfl ?_
          | refine W_load (agg := false) (d := .slice _ _ _) rfl rfl rfl (bxc rfl) (by first | exact Nat.zero_le _ | assumption | exact Nat.le_trans hlim (Nat.zero_le _) | omega) rfl ?_
          | refine W_load (agg := false) (d := .ptr _ _) rfl rfl rfl (bxc rfl) (by first | exact Nat.zero_le _ | assumption | exact Nat.le_trans hlim (Nat.zero_le _) | omega) rfl ?_
          | refine W_load (agg := false) (d := .func _ _) rfl rfl rfl (bxc rfl) (by first | exact Nat.zero_le _ | assumption | exact Nat.le_trans hlim (Nat.zero_le _) | omega) rfl ?_
          | refine W_load (agg := true) (d := .agg [_, _]) rfl rfl rfl (bxc rfl) (by first | exact Nat.zero_le _ | assumption | exact Nat.le_trans hlim (Nat.zero_le _) | omega) rfl ?_
          | refine W_load (agg := false) (d := .int _ _) rfl rfl rfl (bxs (by omega) (bxc rfl)) (by first | exact Nat.zero_le _ | assumption | exact Nat.le_trans hlim (Nat.zero_le _) | omega) rfl ?_
          | refine W_load (agg := false) (d := .bool _) rfl rfl rfl (bxs (by omega) (bxc rfl)) (by first | exact Nat.zero_le _ | assumption | exact Nat.le_trans hlim (Nat.zero_le _) | omega) rfl ?_
          | refine W_load (agg := false) (d := .slice _ _ _) rfl rfl rfl (bxs (by omega) (bxc rfl)) (by first | exact Nat.zero_le _ | assumption | exact Nat.le_trans hlim (Nat.zero_le _) | omega) rfl ?_
          | refine W_load (agg := false) (d := .ptr _ _) rfl rfl rfl (bxs (by omega) (bxc rfl)) (by first | exact Nat.zero_le _ | assumption | exact Nat.le_trans hlim (Nat.zero_le _) | omega) rfl ?_
          | refine W_load (agg := false) (d := .func _ _) rfl rfl rfl (bxs (by omega) (bxc rfl)) (by first | exact Nat.zero_le _ | assumption | exact Nat.le_trans hlim (Nat.zero_le _) | omega) rfl ?_
          | refine W_load (agg := true) (d := .agg [_, _]) rfl rfl rfl (bxs (by omega) (bxc rfl)) (by first | exact Nat.zero_le _ | assumption | exact Nat.le_trans hlim (Nat.zero_le _) | omega) rfl ?_
          | refine W_load (agg := false) (d := .int _ _) rfl rfl rfl rfl (by first | exact Nat.zero_le _ | omega) rfl ?_
          | refine W_load (agg := false) (d := .bool _) rfl rfl rfl rfl (by first | exact Nat.zero_le _ | omega) rfl ?_
          | refine W_load (agg := false) (d := .slice _ _ _) rfl rfl rfl rfl (by first | exact Nat.zero_le _ | omega) rfl ?_
          | refine W_load (agg := false) (d := .ptr _ _) rfl rfl rfl rfl (by first | exact Nat.zero_le _ | omega) rfl ?_
          | refine W_load (agg := false) (d := .func _ _) rfl rfl rfl rfl (by first | exact Nat.zero_le _ | omega) rfl ?_
          | refine W_load (agg := true) (d := .agg [_, _]) rfl rfl rfl rfl (by first | exact Nat.zero_le _ | omega) rfl ?_)
      | (refine I_call ?_; first
          | refine W_skip rfl ?_)
      | (refine I_pick ?_; first
          | refine W_pick (v := .int _ _) rfl rfl rfl rfl ?_
          | refine W_pick (v := .bool _) rfl rfl rfl rfl ?_
          | refine W_pick (v := .slice _ _ _) rfl rfl rfl rfl ?_
          | refine W_pick (v := .agg _) rfl rfl rfl rfl ?_
          | refine W_skip rfl ?_)
      | (refine I_extract ?_; first
          | refine W_extract (d := .int _ _) rfl rfl rfl rfl ?_
          | refine W_extract (d := .bool _) rfl rfl rfl rfl ?_
          | refine W_extract (d := .slice _ _ _) rfl rfl rfl rfl ?_
          | refine W_extract (d := .agg _) rfl rfl rfl rfl ?_
          | refine W_extract (d := .ptr _ _) rfl rfl rfl rfl ?_
          | refine W_extract (d := .func _ _) rfl rfl rfl rfl ?_
          | refine W_skip rfl ?_)
      | (refine I_store ?_; first
          | refine W_store (cs' := [_, _]) rfl rfl (upd_same _ _ _) rfl (by first | exact Nat.zero_le _ | assumption | exact Nat.le_trans hlim (Nat.zero_le _) | omega) rfl rfl rfl ?_
          | refine W_store (cs' := [_, _]) rfl rfl ((upd_ne _ _ (by omega)).trans (upd_same _ _ _)) rfl (by first | exact Nat.zero_le _ | assumption | exact Nat.le_trans hlim (Nat.zero_le _) | omega) rfl rfl rfl ?_
          | refine W_store (cs' := [_, _]) rfl rfl rfl rfl (by first | exact Nat.zero_le _ | omega) rfl rfl rfl ?_
          | refine W_skip0 rfl ?_)
      | (refine W_eqlB rfl rfl rfl rfl ?_)
      | (refine W_neqB rfl rfl rfl rfl ?_)
      | (refine W_eqlP rfl rfl rfl rfl rfl rfl (eqAt3 _ _ _ _ _ _) ?_ ?_ <;> intro hq)
      | (refine W_eqlP rfl rfl rfl rfl rfl rfl (eqAt4 _ _ _ _ _ _ _ _) ?_ ?_ <;> intro hq)
      | (refine W_neqP rfl rfl rfl rfl rfl rfl (eqAt3 _ _ _ _ _ _) ?_ ?_ <;> intro hq)
      | (refine W_neqP rfl rfl rfl rfl rfl rfl (eqAt4 _ _ _ _ _ _ _ _) ?_ ?_ <;> intro hq)
      | (refine W_eqlP rfl rfl rfl rfl rfl rfl rfl ?_ ?_ <;> intro _)
      | (refine W_neqP rfl rfl rfl rfl rfl rfl rfl ?_ ?_ <;> intro _)
      | refine W_lenS0 rfl rfl rfl ?_
      | refine W_lenM rfl rfl rfl ?_
      | refine W_lenS rfl rfl rfl ?_
      | refine W_lenR rfl rfl rfl ?_
      | refine W_faddr rfl rfl rfl ?_
      | refine W_faddrE rfl rfl rfl ?_
      | refine W_eqlNil rfl rfl rfl ?_
      | refine W_faddrM rfl rfl ?_
      | refine W_alloc rfl rfl ?_
      | refine W_skip rfl ?_
      | refine W_iaddr rfl rfl rfl rfl (by first | rfl | exact sz_of (by assumption) (by omega)) (by first | decide | (simp only [List.length_map]; omega)) ?_
      | refine W_iaddrRN rfl rfl rfl rfl rfl (by decide) ?_
      | refine W_iaddrR rfl rfl rfl rfl (by first | decide | omega) ?_
      | refine W_skip rfl ?_
      | refine WS_nil ?_)
    | refine WC_seq ?_
    | refine WC_opsS ?_
    | refine WC_skip ?_
    | refine WC_condT rfl ?_
    | refine WC_condF rfl ?_
    | refine WC_block ?_
    | refine WC_exit ?_
    | refine WC_ret ?_)
    refine l_tells h g hgh acts h2 acts [] rfl _ st2 oh (sortL l) H2 G hgo (by rw [hsl]; simp; omega) ?_ ?_ ?_ ?_ ?_ _ (fun ρ' st' h5 => ?_)
    · rfl
    · rfl
    · rfl
    · rfl
    · rfl
    rw [← upd_self h5]
    repeat' (first
    | (refine I_WS ?_; first
      | (refine I_mov ?_; first
          | refine W_skip rfl ?_
          | refine W_mov (v := .int _ _) rfl rfl rfl ?_
          | refine W_mov (v := .bool _) rfl rfl rfl ?_
          | refine W_mov (v := .slice _ _ _) rfl rfl rfl ?_
          | refine W_mov (v := .agg _) rfl rfl rfl ?_
          | refine W_mov (v := .ptr _ _) rfl rfl rfl ?_
          | refine W_mov (v := .func _ _) rfl rfl rfl ?_
          | refine W_mov (v := .eptr _ _ _ _) rfl rfl rfl ?_
          | refine W_mov (v := .rs _ _ _ _ _) rfl rfl rfl ?_
          | refine W_mov (v := .tuple _) rfl rfl rfl ?_
          | refine W_mov (v := .map _) rfl rfl rfl ?_
          | refine W_mov (v := .str _) rfl rfl rfl ?_
          | refine W_mov (v := .nilptr) rfl rfl rfl ?_)
      | (refine I_bin ?_; first
          | refine W_skip rfl ?_
          | refine W_lssT rfl rfl rfl rfl (by omega) ?_
          | refine W_lssF rfl rfl rfl rfl (by omega) ?_
          | (refine W_lss rfl rfl rfl rfl ?_ ?_ <;> intro _)
          | refine W_gtrT rfl rfl rfl rfl (by omega) ?_
          | refine W_gtrF rfl rfl rfl rfl (by omega) ?_
          | (refine W_gtr rfl rfl rfl rfl ?_ ?_ <;> intro _)
          | refine W_eqlT rfl rfl rfl rfl (by omega) ?_
          | refine W_eqlF rfl rfl rfl rfl (by omega) ?_
          | (refine W_eql rfl rfl rfl rfl ?_ ?_ <;> intro _)
          | refine W_neqT rfl rfl rfl rfl (by omega) ?_
          | refine W_neqF rfl rfl rfl rfl (by omega) ?_
          | (refine W_neq rfl rfl rfl rfl ?_ ?_ <;> intro _)
          | refine W_add rfl rfl rfl rfl (by first | exact w64 (by omega) | rfl) ?_)
      | (refine I_load ?_; first
          | refine W_skip rfl ?_
          | refine W_load (agg := false) (d := .int _ _) rfl rfl rfl (bxc rfl) (by first | exact Nat.zero_le _ | assumption | exact Nat.le_trans hlim (Nat.zero_le _) | omega) rfl ?_
          | refine W_load (agg := false) (d := .bool _) rfl rfl rfl (bxc rfl) (by first | exact Nat.zero_le _ | assumption | exact Nat.le_trans hlim (Nat.zero_le _) | omega) rfl ?_
          | refine W_load (agg := false) (d := .slice _ _ _) rfl rfl rfl (bxc rfl) (by first | exact Nat.zero_le _ | assumption | exact Nat.le_trans hlim (Nat.zero_le _) | omega) rfl ?_
          | refine W_load (agg := false) (d := .ptr _ _) rfl rfl rfl (bxc rfl) (by first | exact Nat.zero_le _ | assumption | exact Nat.le_trans hlim (Nat.zero_le _) | omega) rfl ?_
          | refine W_load (agg := false) (d := .func _ _) rfl rfl rfl (bxc rfl) (by first | exact Nat.zero_le _ | assumption | exact Nat.le_trans hlim (Nat.zero_le _) | omega) rfl ?_
          | refine W_load (agg := true) (d := .agg [_, _]) rfl rfl rfl (bxc rfl) (by first | exact Nat.zero_le _ | assumption | exact Nat.le_trans hlim (Nat.zero_le _) | omega) rfl ?_
          | refine W_load (agg := false) (d := .int _ _) rfl rfl rfl (bxs (by omega) (bxc rfl)) (by first | exact Nat.zero_le _ | assumption | exact Nat.le_trans hlim (Nat.zero_le _) | omega) rfl ?_
          | refine W_load (agg := false) (d := .bool _) rfl rfl rfl (bxs (by omega) (bxc rfl)) (by first | exact Nat.zero_le _ | assumption | exact Nat.le_trans hlim (Nat.zero_le _) | omega) rfl ?_
          | refine W_load (agg := false) (d := .slice _ _ _) rfl rfl rfl (bxs (by omega) (bxc rfl)) (by first | exact Nat.zero_le _ | assumption | exact Nat.le_trans hlim (Nat.zero_le _) | omega) rfl ?_
          | refine W_load (agg := false) (d := .ptr _ _) rfl rfl rfl (bxs (by omega) (bxc rfl)) (by first | exact Nat.zero_le _ | assumption | exact Nat.le_trans hlim (Nat.zero_le _) | omega) rfl ?_
          | refine W_load (agg := false) (d := .func _ _) rfl rfl rfl (bxs (by omega) (bxc rfl)) (by first | exact Nat.zero_le _ | assumption | exact Nat.le_trans hlim (Nat.zero_le _) | omega) rfl ?_
          | refine W_load (agg := true) (d := .agg [_, _]) rfl rfl rfl (bxs (by omega) (bxc rfl)) (by first | exact Nat.zero_le _ | assumption | exact Nat.le_trans hlim (Nat.zero_le _) | omega) rfl ?_
          | refine W_load (agg := false) (d := .int _ _) rfl rfl rfl rfl (by first | exact Nat.zero_le _ | omega) rfl ?_
          | refine W_load (agg := false) (d := .bool _) rfl rfl rfl rfl (by first | exact Nat.zero_le _ | omega) rfl ?_
          | refine W_load (agg := false) (d := .slice _ _ _) rfl rfl rfl rfl (by first | exact Nat.zero_le _ | omega) rfl ?_
          | refine W_load (agg := false) (d := .ptr _ _) rfl rfl rfl rfl (by first | exact Nat.zero_le _ | omega) rfl ?_
          | refine W_load (agg := false) (d := .func _ _) rfl rfl rfl rfl (by first | exact Nat.zero_le _ | omega) rfl ?_
          | refine W_load (agg := true) (d := .agg [_, _]) rfl rfl rfl rfl (by first | exact Nat.zero_le _ | omega) rfl ?_)
      | (refine I_call ?_; first
          | refine W_skip rfl ?_)
      | (refine I_pick ?_; first
          | refine W_pick (v := .int _ _) rfl rfl rfl rfl ?_
          | refine W_pick (v := .bool _) rfl rfl rfl rfl ?_
          | refine W_pick (v := .slice _ _ _) rfl rfl rfl rfl ?_
          | refine W_pick (v := .agg _) rfl rfl rfl rfl ?_
          | refine W_skip rfl ?_)
      | (refine I_extract ?_; first
          | refine W_extract (d := .int _ _) rfl rfl rfl rfl ?_
          | refine W_extract (d := .bool _) rfl rfl rfl rfl ?_
          | refine W_extract (d := .slice _ _ _) rfl rfl rfl rfl ?_
          | refine W_extract (d := .agg _) rfl rfl rfl rfl ?_
          | refine W_extract (d := .ptr _ _) rfl rfl rfl rfl ?_
          | refine W_extract (d := .func _ _) rfl rfl rfl rfl ?_
          | refine W_skip rfl ?_)
      | (refine I_store ?_; first
          | refine W_store (cs' := [_, _]) rfl rfl (upd_same _ _ _) rfl (by first | exact Nat.zero_le _ | assumption | exact Nat.le_trans hlim (Nat.zero_le _) | omega) rfl rfl rfl ?_
          | refine W_store (cs' := [_, _]) rfl rfl ((upd_ne _ _ (by omega)).trans (upd_same _ _ _)) rfl (by first | exact Nat.zero_le _ | assumption | exact Nat.le_trans hlim (Nat.zero_le _) | omega) rfl rfl rfl ?_
          | refine W_store (cs' := [_, _]) rfl rfl rfl rfl (by first | exact Nat.zero_le _ | omega) rfl rfl rfl ?_
          | refine W_skip0 rfl ?_)
      | (refine W_eqlB rfl rfl rfl rfl ?_)
      | (refine W_neqB rfl rfl rfl rfl ?_)
      | (refine W_eqlP rfl rfl rfl rfl rfl rfl (eqAt3 _ _ _ _ _ _) ?_ ?_ <;> intro hq)
      | (refine W_eqlP rfl rfl rfl rfl rfl rfl (eqAt4 _ _ _ _ _ _ _ _) ?_ ?_ <;> intro hq)
      | (refine W_neqP rfl rfl rfl rfl rfl rfl (eqAt3 _ _ _ _ _ _) ?_ ?_ <;> intro hq)
      | (refine W_neqP rfl rfl rfl rfl rfl rfl (eqAt4 _ _ _ _ _ _ _ _) ?_ ?_ <;> intro hq)
      | (refine W_eqlP rfl rfl rfl rfl rfl rfl rfl ?_ ?_ <;> intro _)
      | (refine W_neqP rfl rfl rfl rfl rfl rfl rfl ?_ ?_ <;> intro _)
      | refine W_lenS0 rfl rfl rfl ?_
      | refine W_lenM rfl rfl rfl ?_
      | refine W_lenS rfl rfl rfl ?_
      | refine W_lenR rfl rfl rfl ?_
      | refine W_faddr rfl rfl rfl ?_
      | refine W_faddrE rfl rfl rfl ?_
      | refine W_eqlNil rfl rfl rfl ?_
      | refine W_faddrM rfl rfl ?_
      | refine W_alloc rfl rfl ?_
      | refine W_skip rfl ?_
      | refine W_iaddr rfl rfl rfl rfl (by first | rfl | exact sz_of (by assumption) (by omega)) (by first | decide | (simp only [List.length_map]; omega)) ?_
      | refine W_iaddrRN rfl rfl rfl rfl rfl (by decide) ?_
      | refine W_iaddrR rfl rfl rfl rfl (by first | decide | omega) ?_
      | refine W_skip rfl ?_
      | refine WS_nil ?_)
    | refine WC_seq ?_
    | refine WC_opsS ?_
    | refine WC_skip ?_
    | refine WC_condT rfl ?_
    | refine WC_condF rfl ?_
    | refine WC_block ?_
    | refine WC_exit ?_
    | refine WC_ret ?_)
    exact fin_bool (by simp) rfl rfl
  · refine EvP_code rfl rfl ?_
    by_cases h1 : l.length ≤ 100
    · have h2 : ¬ acts.length ≤ 200 := fun h => hc ⟨h1, h⟩
      clear hc
      repeat' (first
    | (refine I_WS ?_; first
      | (refine I_mov ?_; first
          | refine W_skip rfl ?_
          | refine W_mov (v := .int _ _) rfl rfl rfl ?_
          | refine W_mov (v := .bool _) rfl rfl rfl ?_
          | refine W_mov (v := .slice _ _ _) rfl rfl rfl ?_
          | refine W_mov (v := .agg _) rfl rfl rfl ?_
          | refine W_mov (v := .ptr _ _) rfl rfl rfl ?_
          | refine W_mov (v := .func _ _) rfl rfl rfl ?_
          | refine W_mov (v := .eptr _ _ _ _) rfl rfl rfl ?_
          | refine W_mov (v := .rs _ _ _ _ _) rfl rfl rfl ?_
          | refine W_mov (v := .tuple _) rfl rfl rfl ?_
          | refine W_mov (v := .map _) rfl rfl rfl ?_
          | refine W_mov (v := .str _) rfl rfl rfl ?_
          | refine W_mov (v := .nilptr) rfl rfl rfl ?_)
      | (refine I_bin ?_; first
          | refine W_skip rfl ?_
          | refine W_lssT rfl rfl rfl rfl (by omega) ?_
          | refine W_lssF rfl rfl rfl rfl (by omega) ?_
          | (refine W_lss rfl rfl rfl rfl ?_ ?_ <;> intro _)
          | refine W_gtrT rfl rfl rfl rfl (by omega) ?_
          | refine W_gtrF rfl rfl rfl rfl (by omega) ?_
          | (refine W_gtr rfl rfl rfl rfl ?_ ?_ <;> intro _)
          | refine W_eqlT rfl rfl rfl rfl (by omega) ?_
          | refine W_eqlF rfl rfl rfl rfl (by omega) ?_
          | (refine W_eql rfl rfl rfl rfl ?_ ?_ <;> intro _)
          | refine W_neqT rfl rfl rfl rfl (by omega) ?_
          | refine W_neqF rfl rfl rfl rfl (by omega) ?_
          | (refine W_neq rfl rfl rfl rfl ?_ ?_ <;> intro _)
          | refine W_add rfl rfl rfl rfl (by first | exact w64 (by omega) | rfl) ?_)
      | (refine I_load ?_; first
          | refine W_skip rfl ?_
          | refine W_load (agg := false) (d := .int _ _) rfl rfl rfl (bxc rfl) (by first | exact Nat.zero_le _ | assumption | exact Nat.le_trans hlim (Nat.zero_le _) | omega) rfl ?_
          | refine W_load (agg := false) (d := .bool _) rfl rfl rfl (bxc rfl) (by first | exact Nat.zero_le _ | assumption | exact Nat.le_trans hlim (Nat.zero_le _) | omega) rfl ?_
          | refine W_load (agg := false) (d := .slice _ _ _) rfl rfl rfl (bxc rfl) (by first | exact Nat.zero_le _ | assumption | exact Nat.le_trans hlim (Nat.zero_le _) | omega) rfl ?_
          | refine W_load (agg := false) (d := .ptr _ _) rfl rfl rfl (bxc rfl) (by first | exact Nat.zero_le _ | assumption | exact Nat.le_trans hlim (Nat.zero_le _) | omega) rfl ?_
          | refine W_load (agg := false) (d := .func _ _) rfl rfl rfl (bxc rfl) (by first | exact Nat.zero_le _ | assumption | exact Nat.le_trans hlim (Nat.zero_le _) | omega) rfl ?_
          | refine W_load (agg := true) (d := .agg [_, _]) rfl rfl rfl (bxc rfl) (by first | exact Nat.zero_le _ | assumption | exact Nat.le_trans hlim (Nat.zero_le _) | omega) rfl ?_
          | refine W_load (agg := false) (d := .int _ _) rfl rfl rfl (bxs (by omega) (bxc rfl)) (by first | exact Nat.zero_le _ | assumption | exact Nat.le_trans hlim (Nat.zero_le _) | omega) rfl ?_
          | refine W_load (agg := false) (d := .bool _) rfl rfl rfl (bxs (by omega) (bxc rfl)) (by first | exact Nat.zero_le _ | assumption | exact Nat.le_trans hlim (Nat.zero_le _) | omega) rfl ?_
          | refine W_load (agg := false) (d := .slice _ _ _) rfl rfl rfl (bxs (by omega) (bxc rfl)) (by first | exact Nat.zero_le _ | assumption | exact Nat.le_trans hlim (Nat.zero_le _) | omega) rfl ?_
          | refine W_load (agg := false) (d := .ptr _ _) rfl rfl rfl (bxs (by omega) (bxc rfl)) (by first | exact Nat.zero_le _ | assumption | exact Nat.le_trans hlim (Nat.zero_le _) | omega) rfl ?_
          | refine W_load (agg := false) (d := .func _ _) rfl rfl rfl (bxs (by omega) (bxc rfl)) (by first | exact Nat.zero_le _ | assumption | exact Nat.le_trans hlim (Nat.zero_le _) | omega) rfl ?_
          | refine W_load (agg := true) (d := .agg [_, _]) rfl rfl rfl (bxs (by omega) (bxc rfl)) (by first | exact Nat.zero_le _ | assumption | exact Nat.le_trans hlim (Nat.zero_le _) | omega) rfl ?_
          | refine W_load (agg := false) (d := .int _ _) rfl rfl rfl rfl (by first | exact Nat.zero_le _ | omega) rfl ?_
          | refine W_load (agg := false) (d := .bool _) rfl rfl rfl rfl (by first | exact Nat.zero_le _ | omega) rfl ?_
          | refine W_load (agg := false) (d := .slice _ _ _) rfl rfl rfl rfl (by first | exact Nat.zero_le _ | omega) rfl ?_
          | refine W_load (agg := false) (d := .ptr _ _) rfl rfl rfl rfl (by first | exact Nat.zero_le _ | omega) rfl ?_
          | refine W_load (agg := false) (d := .func _ _) rfl rfl rfl rfl (by first | exact Nat.zero_le _ | omega) rfl ?_
          | refine W_load (agg := true) (d := .agg [_, _]) rfl rfl rfl rfl (by first | exact Nat.zero_le _ | omega) rfl ?_)
      | (refine I_call ?_; first
          | refine W_skip rfl ?_
          | refine W_callBT rfl rfl rfl s_small rfl rfl ?_)
      | (refine I_pick ?_; first
          | refine W_pick (v := .int _ _) rfl rfl rfl rfl ?_
          | refine W_pick (v := .bool _) rfl rfl rfl rfl ?_
          | refine W_pick (v := .slice _ _ _) rfl rfl rfl rfl ?_
          | refine W_pick (v := .agg _) rfl rfl rfl rfl ?_
          | refine W_skip rfl ?_)
      | (refine I_extract ?_; first
          | refine W_extract (d := .int _ _) rfl rfl rfl rfl ?_
          | refine W_extract (d := .bool _) rfl rfl rfl rfl ?_
          | refine W_extract (d := .slice _ _ _) rfl rfl rfl rfl ?_
          | refine W_extract (d := .agg _) rfl rfl rfl rfl ?_
          | refine W_extract (d := .ptr _ _) rfl rfl rfl rfl ?_
          | refine W_extract (d := .func _ _) rfl rfl rfl rfl ?_
          | refine W_skip rfl ?_)
      | (refine I_store ?_; first
          | refine W_store (cs' := [_, _]) rfl rfl (upd_same _ _ _) rfl (by first | exact Nat.zero_le _ | assumption | exact Nat.le_trans hlim (Nat.zero_le _) | omega) rfl rfl rfl ?_
          | refine W_store (cs' := [_, _]) rfl rfl ((upd_ne _ _ (by omega)).trans (upd_same _ _ _)) rfl (by first | exact Nat.zero_le _ | assumption | exact Nat.le_trans hlim (Nat.zero_le _) | omega) rfl rfl rfl ?_
          | refine W_store (cs' := [_, _]) rfl rfl rfl rfl (by first | exact Nat.zero_le _ | omega) rfl rfl rfl ?_
          | refine W_skip0 rfl ?_)
      | (refine W_eqlB rfl rfl rfl rfl ?_)
      | (refine W_neqB rfl rfl rfl rfl ?_)
      | (refine W_eqlP rfl rfl rfl rfl rfl rfl (eqAt3 _ _ _ _ _ _) ?_ ?_ <;> intro hq)
      | (refine W_eqlP rfl rfl rfl rfl rfl rfl (eqAt4 _ _ _ _ _ _ _ _) ?_ ?_ <;> intro hq)
      | (refine W_neqP rfl rfl rfl rfl rfl rfl (eqAt3 _ _ _ _ _ _) ?_ ?_ <;> intro hq)
      | (refine W_neqP rfl rfl rfl rfl rfl rfl (eqAt4 _ _ _ _ _ _ _ _) ?_ ?_ <;> intro hq)
      | (refine W_eqlP rfl rfl rfl rfl rfl rfl rfl ?_ ?_ <;> intro _)
      | (refine W_neqP rfl rfl rfl rfl rfl rfl rfl ?_ ?_ <;> intro _)
      | refine W_lenS0 rfl rfl rfl ?_
      | refine W_lenM rfl rfl rfl ?_
      | refine W_lenS rfl rfl rfl ?_
      | refine W_lenR rfl rfl rfl ?_
      | refine W_faddr rfl rfl rfl ?_
      | refine W_faddrE rfl rfl rfl ?_
      | refine W_eqlNil rfl rfl rfl ?_
      | refine W_faddrM rfl rfl ?_
      | refine W_alloc rfl rfl ?_
      | refine W_skip rfl ?_
      | refine W_iaddr rfl rfl rfl rfl (by first | rfl | exact sz_of (by assumption) (by omega)) (by first | decide | (simp only [List.length_map]; omega)) ?_
      | refine W_iaddrRN rfl rfl rfl rfl rfl (by decide) ?_
      | refine W_iaddrR rfl rfl rfl rfl (by first | decide | omega) ?_
      | refine W_skip rfl ?_
      | refine WS_nil ?_)
    | refine WC_seq ?_
    | refine WC_opsS ?_
    | refine WC_skip ?_
    | refine WC_condT rfl ?_
    | refine WC_condF rfl ?_
    | refine WC_block ?_
    | refine WC_exit ?_
    | refine WC_ret ?_)
      exact fin_bool (by simp) rfl rfl
    · clear hc
      repeat' (first
    | (refine I_WS ?_; first
      | (refine I_mov ?_; first
          | refine W_skip rfl ?_
          | refine W_mov (v := .int _ _) rfl rfl rfl ?_
          | refine W_mov (v := .bool _) rfl rfl rfl ?_
          | refine W_mov (v := .slice _ _ _) rfl rfl rfl ?_
          | refine W_mov (v := .agg _) rfl rfl rfl ?_
          | refine W_mov (v := .ptr _ _) rfl rfl rfl ?_
          | refine W_mov (v := .func _ _) rfl rfl rfl ?_
          | refine W_mov (v := .eptr _ _ _ _) rfl rfl rfl ?_
          | refine W_mov (v := .rs _ _ _ _ _) rfl rfl rfl ?_
          | refine W_mov (v := .tuple _) rfl rfl rfl ?_
          | refine W_mov (v := .map _) rfl rfl rfl ?_
          | refine W_mov (v := .str _) rfl rfl rfl ?_
          | refine W_mov (v := .nilptr) rfl rfl rfl ?_)
      | (refine I_bin ?_; first
          | refine W_skip rfl ?_
          | refine W_lssT rfl rfl rfl rfl (by omega) ?_
          | refine W_lssF rfl rfl rfl rfl (by omega) ?_
          | (refine W_lss rfl rfl rfl rfl ?_ ?_ <;> intro _)
          | refine W_gtrT rfl rfl rfl rfl (by omega) ?_
          | refine W_gtrF rfl rfl rfl rfl (by omega) ?_
          | (refine W_gtr rfl rfl rfl rfl ?_ ?_ <;> intro _)
          | refine W_eqlT rfl rfl rfl rfl (by omega) ?_
          | refine W_eqlF rfl rfl rfl rfl (by omega) ?_
          | (refine W_eql rfl rfl rfl rfl ?_ ?_ <;> intro _)
          | refine W_neqT rfl rfl rfl rfl (by omega) ?_
          | refine W_neqF rfl rfl rfl rfl (by omega) ?_
          | (refine W_neq rfl rfl rfl rfl ?_ ?_ <;> intro _)
          | refine W_add rfl rfl rfl rfl (by first | exact w64 (by omega) | rfl) ?_)
      | (refine I_load ?_; first
          | refine W_skip rfl ?_
          | refine W_load (agg := false) (d := .int _ _) rfl rfl rfl (bxc rfl) (by first | exact Nat.zero_le _ | assumption | exact Nat.le_trans hlim (Nat.zero_le _) | omega) rfl ?_
          | refine W_load (agg := false) (d := .bool _) rfl rfl rfl (bxc rfl) (by first | exact Nat.zero_le _ | assumption | exact Nat.le_trans hlim (Nat.zero_le _) | omega) rfl ?_
          | refine W_load (agg := false) (d := .slice _ _ _) rfl rfl rfl (bxc rfl) (by first | exact Nat.zero_le _ | assumption | exact Nat.le_trans hlim (Nat.zero_le _) | omega) rfl ?_
          | refine W_load (agg := false) (d := .ptr _ _) rfl rfl rfl (bxc rfl) (by first | exact Nat.zero_le _ | assumption | exact Nat.le_trans hlim (Nat.zero_le _) | omega) rfl ?_
          | refine W_load (agg := false) (d := .func _ _) rfl rfl rfl (bxc rfl) (by first | exact Nat.zero_le _ | assumption | exact Nat.le_trans hlim (Nat.zero_le _) | omega) rfl ?_
          | refine W_load (agg := true) (d := .agg [_, _]) rfl rfl rfl (bxc rfl) (by first | exact Nat.zero_le _ | assumption | exact Nat.le_trans hlim (Nat.zero_le _) | omega) rfl ?_
          | refine W_load (agg := false) (d := .int _ _) rfl rfl rfl (bxs (by omega) (bxc rfl)) (by first | exact Nat.zero_le _ | assumption | exact Nat.le_trans hlim (Nat.zero_le _) | omega) rfl ?_
          | refine W_load (agg := false) (d := .bool _) rfl rfl rfl (bxs (by omega) (bxc rfl)) (by first | exact Nat.zero_le _ | assumption | exact Nat.le_trans hlim (Nat.zero_le _) | omega) rfl ?_
          | refine W_load (agg := false) (d := .slice _ _ _) rfl rfl rfl (bxs (by omega) (bxc rfl)) (by first | exact Nat.zero_le _ | assumption | exact Nat.le_trans hlim (Nat.zero_le _) | omega) rfl ?_
          | refine W_load (agg := false) (d := .ptr _ _) rfl rfl rfl (bxs (by omega) (bxc rfl)) (by first | exact Nat.zero_le _ | assumption | exact Nat.le_trans hlim (Nat.zero_le _) | omega) rfl ?_
          | refine W_load (agg := false) (d := .func _ _) rfl rfl rfl (bxs (by omega) (bxc rfl)) (by first | exact Nat.zero_le _ | assumption | exact Nat.le_trans hlim (Nat.zero_le _) | omega) rfl ?_
          | refine W_load (agg := true) (d := .agg [_, _]) rfl rfl rfl (bxs (by omega) (bxc rfl)) (by first | exact Nat.zero_le _ | assumption | exact Nat.le_trans hlim (Nat.zero_le _) | omega) rfl ?_
          | refine W_load (agg := false) (d := .int _ _) rfl rfl rfl rfl (by first | exact Nat.zero_le _ | omega) rfl ?_
          | refine W_load (agg := false) (d := .bool _) rfl rfl rfl rfl (by first | exact Nat.zero_le _ | omega) rfl ?_
          | refine W_load (agg := false) (d := .slice _ _ _) rfl rfl rfl rfl (by first | exact Nat.zero_le _ | omega) rfl ?_
          | refine W_load (agg := false) (d := .ptr _ _) rfl rfl rfl rfl (by first | exact Nat.zero_le _ | omega) rfl ?_
          | refine W_load (agg := false) (d := .func _ _) rfl rfl rfl rfl (by first | exact Nat.zero_le _ | omega) rfl ?_
          | refine W_load (agg := true) (d := .agg [_, _]) rfl rfl rfl rfl (by first | exact Nat.zero_le _ | omega) rfl ?_)
      | (refine I_call ?_; first
          | refine W_skip rfl ?_
          | refine W_callBT rfl rfl rfl s_small rfl rfl ?_)
      | (refine I_pick ?_; first
          | refine W_pick (v := .int _ _) rfl rfl rfl rfl ?_
          | refine W_pick (v := .bool _) rfl rfl rfl rfl ?_
          | refine W_pick (v := .slice _ _ _) rfl rfl rfl rfl ?_
          | refine W_pick (v := .agg _) rfl rfl rfl rfl ?_
          | refine W_skip rfl ?_)
      | (refine I_extract ?_; first
          | refine W_extract (d := .int _ _) rfl rfl rfl rfl ?_
          | refine W_extract (d := .bool _) rfl rfl rfl rfl ?_
          | refine W_extract (d := .slice _ _ _) rfl rfl rfl rfl ?_
          | refine W_extract (d := .agg _) rfl rfl rfl rfl ?_
          | refine W_extract (d := .ptr _ _) rfl rfl rfl rfl ?_
          | refine W_extract (d := .func _ _) rfl rfl rfl rfl ?_
          | refine W_skip rfl ?_)
      | (refine I_store ?_; first
          | refine W_store (cs' := [_, _]) rfl rfl (upd_same _ _ _) rfl (by first | exact Nat.zero_le _ | assumption | exact Nat.le_trans hlim (Nat.zero_le _) | omega) rfl rfl rfl ?_
          | refine W_store (cs' := [_, _]) rfl rfl ((upd_ne _ _ (by omega)).trans (upd_same _ _ _)) rfl (by first | exact Nat.zero_le _ | assumption | exact Nat.le_trans hlim (Nat.zero_le _) | omega) rfl rfl rfl ?_
          | refine W_store (cs' := [_, _]) rfl rfl rfl rfl (by first | exact Nat.zero_le _ | omega) rfl rfl rfl ?_
          | refine W_skip0 rfl ?_)
      | (refine W_eqlB rfl rfl rfl rfl ?_)
      | (refine W_neqB rfl rfl rfl rfl ?_)
      | (refine W_eqlP rfl rfl rfl rfl rfl rfl (eqAt3 _ _ _ _ _ _) ?_ ?_ <;> intro hq)
      | (refine W_eqlP rfl rfl rfl rfl rfl rfl (eqAt4 _ _ _ _ _ _ _ _) ?_ ?_ <;> intro hq)
      | (refine W_neqP rfl rfl rfl rfl rfl rfl (eqAt3 _ _ _ _ _ _) ?_ ?_ <;> intro hq)
      | (refine W_neqP rfl rfl rfl rfl rfl rfl (eqAt4 _ _ _ _ _ _ _ _) ?_ ?_ <;> intro hq)
      | (refine W_eqlP rfl rfl rfl rfl rfl rfl rfl ?_ ?_ <;> intro _)
      | (refine W_neqP rfl rfl rfl rfl rfl rfl rfl ?_ ?_ <;> intro _)
      | refine W_lenS0 rfl rfl rfl ?_
      | refine W_lenM rfl rfl rfl ?_
      | refine W_lenS rfl rfl rfl ?_
      | refine W_lenR rfl rfl rfl ?_
      | refine W_faddr rfl rfl rfl ?_
      | refine W_faddrE rfl rfl rfl ?_
      | refine W_eqlNil rfl rfl rfl ?_
      | refine W_faddrM rfl rfl ?_
      | refine W_alloc rfl rfl ?_
      | refine W_skip rfl ?_
      | refine W_iaddr rfl rfl rfl rfl (by first | rfl | exact sz_of (by assumption) (by omega)) (by first | decide | (simp only [List.length_map]; omega)) ?_
      | refine W_iaddrRN rfl rfl rfl rfl rfl (by decide) ?_
      | refine W_iaddrR rfl rfl rfl rfl (by first | decide | omega) ?_
      | refine W_skip rfl ?_
      | refine WS_nil ?_)
    | refine WC_seq ?_
    | refine WC_opsS ?_
    | refine WC_skip ?_
    | refine WC_condT rfl ?_
    | refine WC_condF rfl ?_
    | refine WC_block ?_
    | refine WC_exit ?_
    | refine WC_ret ?_)
      exact fin_bool (by simp) rfl rfl
end Go.Hea
