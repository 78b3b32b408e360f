/-
  What the heap's functions come to: one ahead of another one.
-/
import Derived.Test.YtbmhgigljbikhaaHeaHeaC
set_option linter.unusedVariables false
set_option linter.unusedSimpArgs false
set_option linter.unnecessarySimpa false
namespace Go.Hea
open Go.Ev
set_option linter.unusedVariables false
set_option linter.unusedSimpArgs false
theorem s_isNaN (a : Int) : EvP Γ 72 [.int .i64 a] (.bool false) := by
  refine EvP_code rfl rfl ?_
  repeat' (first
    | (refine I_WS ?_; first
      | (refine I_mov ?_; first
          | refine W_skip rfl ?_
          | refine W_mov (v := .int _ _) rfl rfl rfl ?_
          | refine W_mov (v := .bool _) rfl rfl rfl ?_
          | refine W_mov (v := .slice _ _ _) rfl rfl rfl ?_
          | refine W_mov (v := .agg _) rfl rfl rfl ?_
          | refine W_mov (v := .ptr _ _) rfl rfl rfl ?_
          | refine W_mov (v := .func _ _) rfl rfl rfl ?_
          | refine W_mov (v := .eptr _ _ _ _) rfl rfl rfl ?_
          | refine W_mov (v := .rs _ _ _ _ _) rfl rfl rfl ?_
          | refine W_mov (v := .tuple _) rfl rfl rfl ?_
          | refine W_mov (v := .map _) rfl rfl rfl ?_
          | refine W_mov (v := .str _) rfl rfl rfl ?_
          | refine W_mov (v := .nilptr) rfl rfl rfl ?_)
      | (refine I_bin ?_; first
          | refine W_skip rfl ?_
          | refine W_neqT rfl rfl rfl rfl (by omega) ?_
          | refine W_neqF rfl rfl rfl rfl (by omega) ?_
          | (refine W_neq rfl rfl rfl rfl ?_ ?_ <;> intro _))
      | refine W_skip rfl ?_
      | refine WS_nil ?_)
    | refine WC_seq ?_
    | refine WC_opsS ?_
    | refine WC_skip ?_
    | refine WC_ret ?_)
  all_goals first | exact fin_bool (by simp) rfl rfl | (exfalso; simp_all; done) | (exfalso; omega)
/-- Three ways. -/
def cmpI (a b : Int) : Int := if a < b then -1 else if b < a then 1 else 0
theorem s_Compare (a b : Int) : EvP Γ 64 [.int .i64 a, .int .i64 b] (.int .i64 (cmpI a b)) := by
  refine EvP_code rfl rfl ?_
  repeat' (first
    | (refine I_WS ?_; first
      | (refine I_mov ?_; first
          | refine W_skip rfl ?_
          | refine W_mov (v := .int _ _) rfl rfl rfl ?_
          | refine W_mov (v := .bool _) rfl rfl rfl ?_
          | refine W_mov (v := .slice _ _ _) rfl rfl rfl ?_
          | refine W_mov (v := .agg _) rfl rfl rfl ?_
          | refine W_mov (v := .ptr _ _) rfl rfl rfl ?_
          | refine W_mov (v := .func _ _) rfl rfl rfl ?_
          | refine W_mov (v := .eptr _ _ _ _) rfl rfl rfl ?_
          | refine W_mov (v := .rs _ _ _ _ _) rfl rfl rfl ?_
          | refine W_mov (v := .tuple _) rfl rfl rfl ?_
          | refine W_mov (v := .map _) rfl rfl rfl ?_
          | refine W_mov (v := .str _) rfl rfl rfl ?_
          | refine W_mov (v := .nilptr) rfl rfl rfl ?_)
      | (refine I_bin ?_; first
          | refine W_skip rfl ?_
          | refine W_lssT rfl rfl rfl rfl (by omega) ?_
          | refine W_lssF rfl rfl rfl rfl (by omega) ?_
          | (refine W_lss rfl rfl rfl rfl ?_ ?_ <;> intro _)
          | refine W_gtrT rfl rfl rfl rfl (by omega) ?_
          | refine W_gtrF rfl rfl rfl rfl (by omega) ?_
          | (refine W_gtr rfl rfl rfl rfl ?_ ?_ <;> intro _))
      | (refine I_call ?_; first
          | refine W_skip rfl ?_
          | refine W_call rfl rfl rfl (s_isNaN _) rfl rfl ?_)
      | refine W_skip rfl ?_
      | refine WS_nil ?_)
    | refine WC_seq ?_
    | refine WC_opsS ?_
    | refine WC_skip ?_
    | refine WC_condT rfl ?_
    | refine WC_condF rfl ?_
    | refine WC_ret ?_)
  all_goals refine fin_int (by simp) rfl ?_
  all_goals unfold cmpI
  all_goals simp_all
  all_goals omega
/-- The first one that is not 0. -/
def orI : List Int → Int
  | [] => 0
  | x :: l => if x = 0 then orI l else x
theorem l_Or (t : Tok) (ls : List Int) (hl : ls.length ≤ 1073741824) : ∀ (post pre : List Int), ls = pre ++ post → (∀ x ∈ pre, x = 0) →
    ∀ (ρ : Nat → D) (h3 : ρ 3 = .int .i64 0) (h6 : ρ 6 = .slice t 1 (ls.map (D.int .i64))) (h7 : ρ 7 = .int .i64 ls.length) (h8 : ρ 8 = .int .i64 pre.length) (Q : X → (Nat → D) → Store → Prop),
    (orI ls = 0 → ∀ ρ', ρ' 3 = .int .i64 0 → Q (.exit 0) ρ' Store.empty) → (∀ ρ', ρ' 2 = .int .i64 (orI ls) → Q .ret ρ' Store.empty) → WC Γ (.loop c_cmp_Or_int_l0) ρ Store.empty Q := by
  intro post
  induction post with
  | nil =>
    intro pre hp hz ρ h3 h6 h7 h8 Q hQ hQ2
    rw [List.append_nil] at hp
    subst hp
    have : orI ls = 0 := by
      clear hl h6 h7 h8 hQ hQ2
      induction ls with
      | nil => rfl
      | cons x l ih => rw [orI, if_pos (hz x (by simp)), ih (fun y hy => hz y (by simp [hy]))]
    rw [← upd_self h3, ← upd_self h6, ← upd_self h7, ← upd_self h8]
    refine WC_loop ?_
    repeat' (first
    | (refine I_WS ?_; first
      | (refine I_mov ?_; first
          | refine W_skip rfl ?_
          | refine W_mov (v := .int _ _) rfl rfl rfl ?_
          | refine W_mov (v := .bool _) rfl rfl rfl ?_
          | refine W_mov (v := .slice _ _ _) rfl rfl rfl ?_
          | refine W_mov (v := .agg _) rfl rfl rfl ?_
          | refine W_mov (v := .ptr _ _) rfl rfl rfl ?_
          | refine W_mov (v := .func _ _) rfl rfl rfl ?_
          | refine W_mov (v := .eptr _ _ _ _) rfl rfl rfl ?_
          | refine W_mov (v := .rs _ _ _ _ _) rfl rfl rfl ?_
          | refine W_mov (v := .tuple _) rfl rfl rfl ?_
          | refine W_mov (v := .map _) rfl rfl rfl ?_
          | refine W_mov (v := .str _) rfl rfl rfl ?_
          | refine W_mov (v := .nilptr) rfl rfl rfl ?_)
      | (refine I_bin ?_; first
          | refine W_skip rfl ?_
          | refine W_lssT rfl rfl rfl rfl (by omega) ?_
          | refine W_lssF rfl rfl rfl rfl (by omega) ?_
          | (refine W_lss rfl rfl rfl rfl ?_ ?_ <;> intro _)
          | refine W_neqT rfl rfl rfl rfl (by omega) ?_
          | refine W_neqF rfl rfl rfl rfl (by omega) ?_
          | (refine W_neq rfl rfl rfl rfl ?_ ?_ <;> intro _)
          | refine W_add rfl rfl rfl rfl (by first | exact w64 (by omega) | rfl) ?_)
      | (refine I_load ?_; first
          | refine W_skip rfl ?_
          | refine W_load (agg := false) (d := .int _ _) rfl rfl rfl rfl (by first | exact Nat.zero_le _ | omega) rfl ?_
          | refine W_load (agg := false) (d := .bool _) rfl rfl rfl rfl (by first | exact Nat.zero_le _ | omega) rfl ?_
          | refine W_load (agg := false) (d := .slice _ _ _) rfl rfl rfl rfl (by first | exact Nat.zero_le _ | omega) rfl ?_
          | refine W_load (agg := false) (d := .ptr _ _) rfl rfl rfl rfl (by first | exact Nat.zero_le _ | omega) rfl ?_
          | refine W_load (agg := false) (d := .func _ _) rfl rfl rfl rfl (by first | exact Nat.zero_le _ | omega) rfl ?_)
      | refine W_lenS0 rfl rfl rfl ?_
      | refine W_lenM rfl rfl rfl ?_
      | refine W_lenS rfl rfl rfl ?_
      | refine W_lenR rfl rfl rfl ?_
      | refine W_skip rfl ?_
      | refine W_iaddr rfl rfl rfl rfl (by first | rfl | exact sz_of (by assumption) (by omega)) (by first | decide | (simp only [List.length_map]; omega)) ?_
      | refine W_iaddrRN rfl rfl rfl rfl rfl (by decide) ?_
      | refine W_iaddrR rfl rfl rfl rfl (by first | decide | omega) ?_
      | refine W_skip rfl ?_
      | refine WS_nil ?_)
    | refine WC_seq ?_
    | refine WC_opsS ?_
    | refine WC_skip ?_
    | refine WC_condT rfl ?_
    | refine WC_condF rfl ?_
    | refine WC_block ?_
    | refine WC_exit ?_
    | refine WC_ret ?_)
    exact hQ this _ rfl
  | cons x post ih =>
    intro pre hp hz ρ h3 h6 h7 h8 Q hQ hQ2
    have hv : ls[pre.length]? = some x := by rw [hp]; simp
    have hlen : ls.length = pre.length + (post.length + 1) := by rw [hp]; simp
    rw [← upd_self h3, ← upd_self h6, ← upd_self h7, ← upd_self h8]
    refine WC_loop ?_
    repeat' (first
    | (refine I_WS ?_; first
      | (refine I_mov ?_; first
          | refine W_skip rfl ?_
          | refine W_mov (v := .int _ _) rfl rfl rfl ?_
          | refine W_mov (v := .bool _) rfl rfl rfl ?_
          | refine W_mov (v := .slice _ _ _) rfl rfl rfl ?_
          | refine W_mov (v := .agg _) rfl rfl rfl ?_
          | refine W_mov (v := .ptr _ _) rfl rfl rfl ?_
          | refine W_mov (v := .func _ _) rfl rfl rfl ?_
          | refine W_mov (v := .eptr _ _ _ _) rfl rfl rfl ?_
          | refine W_mov (v := .rs _ _ _ _ _) rfl rfl rfl ?_
          | refine W_mov (v := .tuple _) rfl rfl rfl ?_
          | refine W_mov (v := .map _) rfl rfl rfl ?_
          | refine W_mov (v := .str _) rfl rfl rfl ?_
          | refine W_mov (v := .nilptr) rfl rfl rfl ?_)
      | (refine I_bin ?_; first
          | refine W_skip rfl ?_
          | refine W_lssT rfl rfl rfl rfl (by omega) ?_
          | refine W_lssF rfl rfl rfl rfl (by omega) ?_
          | (refine W_lss rfl rfl rfl rfl ?_ ?_ <;> intro _)
          | refine W_neqT rfl rfl rfl rfl (by omega) ?_
          | refine W_neqF rfl rfl rfl rfl (by omega) ?_
          | (refine W_neq rfl rfl rfl rfl ?_ ?_ <;> intro _)
          | refine W_add rfl rfl rfl rfl (by first | exact w64 (by omega) | rfl) ?_)
      | (refine I_load ?_; first
          | refine W_skip rfl ?_
          | refine W_loadE (agg := false) (d := .int _ _) rfl rfl rfl hv rfl ?_
          | refine W_load (agg := false) (d := .int _ _) rfl rfl rfl rfl (by first | exact Nat.zero_le _ | omega) rfl ?_
          | refine W_load (agg := false) (d := .bool _) rfl rfl rfl rfl (by first | exact Nat.zero_le _ | omega) rfl ?_
          | refine W_load (agg := false) (d := .slice _ _ _) rfl rfl rfl rfl (by first | exact Nat.zero_le _ | omega) rfl ?_
          | refine W_load (agg := false) (d := .ptr _ _) rfl rfl rfl rfl (by first | exact Nat.zero_le _ | omega) rfl ?_
          | refine W_load (agg := false) (d := .func _ _) rfl rfl rfl rfl (by first | exact Nat.zero_le _ | omega) rfl ?_)
      | refine W_lenS0 rfl rfl rfl ?_
      | refine W_lenM rfl rfl rfl ?_
      | refine W_lenS rfl rfl rfl ?_
      | refine W_lenR rfl rfl rfl ?_
      | refine W_skip rfl ?_
      | refine W_iaddr rfl rfl rfl rfl (by first | rfl | exact sz_of (by assumption) (by omega)) (by first | decide | (simp only [List.length_map]; omega)) ?_
      | refine W_iaddrRN rfl rfl rfl rfl rfl (by decide) ?_
      | refine W_iaddrR rfl rfl rfl rfl (by first | decide | omega) ?_
      | refine W_skip rfl ?_
      | refine WS_nil ?_)
    | refine WC_seq ?_
    | refine WC_opsS ?_
    | refine WC_skip ?_
    | refine WC_condT rfl ?_
    | refine WC_condF rfl ?_
    | refine WC_block ?_
    | refine WC_exit ?_
    | refine WC_ret ?_)
    · rename_i hx
      exact ih (pre ++ [x]) (by simp [hp]) (fun y hy => by
        rcases List.mem_append.mp hy with h | h
        · exact hz y h
        · rw [List.mem_singleton.mp h]; exact hx) _ rfl rfl rfl (by rw [List.length_append]; rfl) Q hQ hQ2
    · rename_i hx
      refine hQ2 _ ?_
      have : orI ls = x := by
        rw [hp]
        clear hp hl h6 h7 h8 hQ hQ2 ih hv hlen
        induction pre with
        | nil => simp only [List.nil_append, orI]; rw [if_neg hx]
        | cons y pre ih => rw [List.cons_append, orI, if_pos (hz y (by simp)), ih (fun z hz' => hz z (by simp [hz']))]
      rw [this]
      rfl
theorem s_Or (t : Tok) (ls : List Int) (hl : ls.length ≤ 1073741824) : EvP Γ 63 [.slice t 1 (ls.map (D.int .i64))] (.int .i64 (orI ls)) := by
  refine EvP_code rfl rfl ?_
  repeat' (first
    | (refine I_WS ?_; first
      | (refine I_mov ?_; first
          | refine W_skip rfl ?_
          | refine W_mov (v := .int _ _) rfl rfl rfl ?_
          | refine W_mov (v := .bool _) rfl rfl rfl ?_
          | refine W_mov (v := .slice _ _ _) rfl rfl rfl ?_
          | refine W_mov (v := .agg _) rfl rfl rfl ?_
          | refine W_mov (v := .ptr _ _) rfl rfl rfl ?_
          | refine W_mov (v := .func _ _) rfl rfl rfl ?_
          | refine W_mov (v := .eptr _ _ _ _) rfl rfl rfl ?_
          | refine W_mov (v := .rs _ _ _ _ _) rfl rfl rfl ?_
          | refine W_mov (v := .tuple _) rfl rfl rfl ?_
          | refine W_mov (v := .map _) rfl rfl rfl ?_
          | refine W_mov (v := .str _) rfl rfl rfl ?_
          | refine W_mov (v := .nilptr) rfl rfl rfl ?_)
      | (refine I_bin ?_; first
          | refine W_skip rfl ?_
          | refine W_lssT rfl rfl rfl rfl (by omega) ?_
          | refine W_lssF rfl rfl rfl rfl (by omega) ?_
          | (refine W_lss rfl rfl rfl rfl ?_ ?_ <;> intro _)
          | refine W_neqT rfl rfl rfl rfl (by omega) ?_
          | refine W_neqF rfl rfl rfl rfl (by omega) ?_
          | (refine W_neq rfl rfl rfl rfl ?_ ?_ <;> intro _)
          | refine W_add rfl rfl rfl rfl (by first | exact w64 (by omega) | rfl) ?_)
      | (refine I_load ?_; first
          | refine W_skip rfl ?_
          | refine W_load (agg := false) (d := .int _ _) rfl rfl rfl rfl (by first | exact Nat.zero_le _ | omega) rfl ?_
          | refine W_load (agg := false) (d := .bool _) rfl rfl rfl rfl (by first | exact Nat.zero_le _ | omega) rfl ?_
          | refine W_load (agg := false) (d := .slice _ _ _) rfl rfl rfl rfl (by first | exact Nat.zero_le _ | omega) rfl ?_
          | refine W_load (agg := false) (d := .ptr _ _) rfl rfl rfl rfl (by first | exact Nat.zero_le _ | omega) rfl ?_
          | refine W_load (agg := false) (d := .func _ _) rfl rfl rfl rfl (by first | exact Nat.zero_le _ | omega) rfl ?_)
      | refine W_lenS0 rfl rfl rfl ?_
      | refine W_lenM rfl rfl rfl ?_
      | refine W_lenS rfl rfl rfl ?_
      | refine W_lenR rfl rfl rfl ?_
      | refine W_skip rfl ?_
      | refine W_iaddr rfl rfl rfl rfl (by first | rfl | exact sz_of (by assumption) (by omega)) (by first | decide | (simp only [List.length_map]; omega)) ?_
      | refine W_iaddrRN rfl rfl rfl rfl rfl (by decide) ?_
      | refine W_iaddrR rfl rfl rfl rfl (by first | decide | omega) ?_
      | refine W_skip rfl ?_
      | refine WS_nil ?_)
    | refine WC_seq ?_
    | refine WC_opsS ?_
    | refine WC_skip ?_
    | refine WC_condT rfl ?_
    | refine WC_condF rfl ?_
    | refine WC_block ?_
    | refine WC_exit ?_
    | refine WC_ret ?_)
  refine l_Or t ls hl ls [] rfl (by simp) _ rfl rfl rfl rfl _ (fun h0 ρ h3 => ?_) (fun ρ h2 => ?_)
  · rw [← upd_self h3]
    repeat' (first
    | (refine I_WS ?_; first
      | (refine I_mov ?_; first
          | refine W_skip rfl ?_
          | refine W_mov (v := .int _ _) rfl rfl rfl ?_
          | refine W_mov (v := .bool _) rfl rfl rfl ?_
          | refine W_mov (v := .slice _ _ _) rfl rfl rfl ?_
          | refine W_mov (v := .agg _) rfl rfl rfl ?_
          | refine W_mov (v := .ptr _ _) rfl rfl rfl ?_
          | refine W_mov (v := .func _ _) rfl rfl rfl ?_
          | refine W_mov (v := .eptr _ _ _ _) rfl rfl rfl ?_
          | refine W_mov (v := .rs _ _ _ _ _) rfl rfl rfl ?_
          | refine W_mov (v := .tuple _) rfl rfl rfl ?_
          | refine W_mov (v := .map _) rfl rfl rfl ?_
          | refine W_mov (v := .str _) rfl rfl rfl ?_
          | refine W_mov (v := .nilptr) rfl rfl rfl ?_)
      | (refine I_bin ?_; first
          | refine W_skip rfl ?_
          | refine W_lssT rfl rfl rfl rfl (by omega) ?_
          | refine W_lssF rfl rfl rfl rfl (by omega) ?_
          | (refine W_lss rfl rfl rfl rfl ?_ ?_ <;> intro _)
          | refine W_neqT rfl rfl rfl rfl (by omega) ?_
          | refine W_neqF rfl rfl rfl rfl (by omega) ?_
          | (refine W_neq rfl rfl rfl rfl ?_ ?_ <;> intro _)
          | refine W_add rfl rfl rfl rfl (by first | exact w64 (by omega) | rfl) ?_)
      | (refine I_load ?_; first
          | refine W_skip rfl ?_
          | refine W_load (agg := false) (d := .int _ _) rfl rfl rfl rfl (by first | exact Nat.zero_le _ | omega) rfl ?_
          | refine W_load (agg := false) (d := .bool _) rfl rfl rfl rfl (by first | exact Nat.zero_le _ | omega) rfl ?_
          | refine W_load (agg := false) (d := .slice _ _ _) rfl rfl rfl rfl (by first | exact Nat.zero_le _ | omega) rfl ?_
          | refine W_load (agg := false) (d := .ptr _ _) rfl rfl rfl rfl (by first | exact Nat.zero_le _ | omega) rfl ?_
          | refine W_load (agg := false) (d := .func _ _) rfl rfl rfl rfl (by first | exact Nat.zero_le _ | omega) rfl ?_)
      | refine W_lenS0 rfl rfl rfl ?_
      | refine W_lenM rfl rfl rfl ?_
      | refine W_lenS rfl rfl rfl ?_
      | refine W_lenR rfl rfl rfl ?_
      | refine W_skip rfl ?_
      | refine W_iaddr rfl rfl rfl rfl (by first | rfl | exact sz_of (by assumption) (by omega)) (by first | decide | (simp only [List.length_map]; omega)) ?_
      | refine W_iaddrRN rfl rfl rfl rfl rfl (by decide) ?_
      | refine W_iaddrR rfl rfl rfl rfl (by first | decide | omega) ?_
      | refine W_skip rfl ?_
      | refine WS_nil ?_)
    | refine WC_seq ?_
    | refine WC_opsS ?_
    | refine WC_skip ?_
    | refine WC_condT rfl ?_
    | refine WC_condF rfl ?_
    | refine WC_block ?_
    | refine WC_exit ?_
    | refine WC_ret ?_)
    exact fin_int (by simp) rfl h0.symm
  · exact fin_int (by simp) (show some (ρ 2) = _ by rw [h2]) rfl
theorem s_Or2 (t : Tok) (a b : Int) : EvP Γ 63 [.slice t 1 [.int .i64 a, .int .i64 b]] (.int .i64 (orI [a, b])) := s_Or t [a, b] (by simp)
/-- One that is ready. -/
structure Rd where
  node : Int
  at' : Int
deriving DecidableEq
def Rd.e (r : Rd) : D := .agg [.int .i64 r.node, .int .i64 r.at']
def Rd.lt (a b : Rd) : Prop := a.at' < b.at' ∨ (a.at' = b.at' ∧ a.node < b.node)
instance (a b : Rd) : Decidable (a.lt b) := by unfold Rd.lt; infer_instance
theorem rd_cells {l : List Rd} : ∀ d ∈ l.map Rd.e, d.cells.length = 2 := fun d hd => by
  obtain ⟨b, _, rfl⟩ := List.mem_map.mp hd; rfl
theorem rd_at {l : List Rd} {i : Nat} {b : Rd} (h : l[i]? = some b) : (l.map Rd.e)[i]? = some (.agg [.int .i64 b.node, .int .i64 b.at']) := by
  rw [List.getElem?_map, h]; rfl
theorem lt_cmp (a b : Rd) : decide (orI [cmpI a.at' b.at', cmpI a.node b.node] < 0) = decide (a.lt b) := by
  congr 1
  simp only [orI, cmpI, Rd.lt, eq_iff_iff]
  repeat' split
  all_goals constructor
  all_goals intro h
  all_goals omega
theorem s_ahead (xs : List Rd) (hx : xs.length ≤ 1073741824) (st : Store) (h r c i k : Nat) (a b : Rd) (hb : (st.boxes h).bind Box.cs = some [.rs r 0 2 xs.length c]) (hh : h < st.next) (hr : r < st.next) (hR : RowAt st r 2 (xs.map Rd.e)) (ha : xs[i]? = some a) (hk : xs[k]? = some b) :
    EvRO Γ 44 [.ptr h 0, .int .i64 i, .int .i64 k] st (.bool (decide (a.lt b))) := by
  have hi' : i < xs.length := (List.getElem?_eq_some_iff.mp ha).1
  have hk' : k < xs.length := (List.getElem?_eq_some_iff.mp hk).1
  have ha' := rd_at ha
  have hb' := rd_at hk
  refine EvRO_code rfl rfl rfl ?_
  repeat' (first
    | (refine I_WS ?_; first
      | (refine I_mov ?_; first
          | refine W_skip rfl ?_
          | refine W_mov (v := .int _ _) rfl rfl rfl ?_
          | refine W_mov (v := .bool _) rfl rfl rfl ?_
          | refine W_mov (v := .slice _ _ _) rfl rfl rfl ?_
          | refine W_mov (v := .agg _) rfl rfl rfl ?_
          | refine W_mov (v := .ptr _ _) rfl rfl rfl ?_
          | refine W_mov (v := .func _ _) rfl rfl rfl ?_
          | refine W_mov (v := .eptr _ _ _ _) rfl rfl rfl ?_
          | refine W_mov (v := .rs _ _ _ _ _) rfl rfl rfl ?_
          | refine W_mov (v := .tuple _) rfl rfl rfl ?_
          | refine W_mov (v := .map _) rfl rfl rfl ?_
          | refine W_mov (v := .str _) rfl rfl rfl ?_
          | refine W_mov (v := .nilptr) rfl rfl rfl ?_)
      | (refine I_bin ?_; first
          | refine W_skip rfl ?_
          | refine W_lssT rfl rfl rfl rfl (by omega) ?_
          | refine W_lssF rfl rfl rfl rfl (by omega) ?_
          | (refine W_lss rfl rfl rfl rfl ?_ ?_ <;> intro _))
      | (refine I_load ?_; first
          | refine W_skip rfl ?_
          | refine W_load (agg := false) (d := .int _ _) rfl rfl rfl rfl (by first | exact Nat.zero_le _ | omega) rfl ?_
          | refine W_load (agg := false) (d := .bool _) rfl rfl rfl rfl (by first | exact Nat.zero_le _ | omega) rfl ?_
          | refine W_load (agg := false) (d := .slice _ _ _) rfl rfl rfl rfl (by first | exact Nat.zero_le _ | omega) rfl ?_
          | refine W_load (agg := false) (d := .ptr _ _) rfl rfl rfl rfl (by first | exact Nat.zero_le _ | omega) rfl ?_
          | refine W_load (agg := false) (d := .func _ _) rfl rfl rfl rfl (by first | exact Nat.zero_le _ | omega) rfl ?_
          | refine W_load (agg := true) (d := .agg [_, _]) rfl rfl rfl rfl (by first | exact Nat.zero_le _ | omega) rfl ?_)
      | (refine I_call ?_; first
          | refine W_skip rfl ?_)
      | (refine I_store ?_; first
          | refine W_store (cs' := [_, _]) rfl rfl rfl rfl (by first | exact Nat.zero_le _ | omega) rfl rfl rfl ?_
          | refine W_skip0 rfl ?_)
      | refine W_faddr rfl rfl rfl ?_
      | refine W_faddrE rfl rfl rfl ?_
      | refine W_nilCheckM rfl rfl ?_
      | refine W_nilCheckE rfl rfl rfl ?_
      | refine W_nilCheckF rfl rfl rfl ?_
      | refine W_faddrM rfl rfl ?_
      | refine W_alloc rfl rfl ?_
      | refine W_skip rfl ?_
      | refine W_iaddr rfl rfl rfl rfl (by first | rfl | exact sz_of (by assumption) (by omega)) (by first | decide | (simp only [List.length_map]; omega)) ?_
      | refine W_iaddrRN rfl rfl rfl rfl rfl (by decide) ?_
      | refine W_iaddrR rfl rfl rfl rfl (by first | decide | omega) ?_
      | refine W_bsliceS (ds := [.slice _ _ _]) (ys := [.slice _ _ _]) rfl rfl rfl rfl (by decide) rfl ?_
      | refine W_bsliceS (ds := [.slice _ _ _, .slice _ _ _]) (ys := [.slice _ _ _, .slice _ _ _]) rfl rfl rfl rfl (by decide) rfl ?_
      | refine W_bsliceS (ds := [.slice _ _ _, .slice _ _ _, .slice _ _ _]) (ys := [.slice _ _ _, .slice _ _ _, .slice _ _ _]) rfl rfl rfl rfl (by decide) rfl ?_
      | refine W_bslice (ys := []) rfl rfl rfl (by decide) rfl ?_
      | refine W_bslice (ys := [_]) rfl rfl rfl (by decide) rfl ?_
      | refine W_bslice (ys := [_, _]) rfl rfl rfl (by decide) rfl ?_
      | refine W_bslice (ys := [_, _, _]) rfl rfl rfl (by decide) rfl ?_
      | refine W_skip rfl ?_
      | refine WS_nil ?_)
    | refine WC_seq ?_
    | refine WC_opsS ?_
    | refine WC_drawS ?_
    | refine WC_skip ?_
    | refine WC_ret ?_
    | refine okF_intro rfl ?_)
  refine WC_drawAS ?_
  simp only [hoist, hoist1, Store.ahead, withB, withB1, Nat.add_assoc, Nat.reduceAdd, List.length_cons, List.length_nil]
  have q1 : ∀ {p : Nat} {x y : Option Box}, p < st.next → upd (upd st.boxes (st.next + 14) x) (st.next + 15) y p = st.boxes p := fun {p x y} hp => (upd_ne _ _ (by omega)).trans (upd_ne _ _ (by omega))
  have q2 : ∀ {x y : Option Box}, upd (upd st.boxes (st.next + 14) x) (st.next + 15) y (st.next + 14) = x := fun {x y} => (upd_ne _ _ (by omega)).trans (upd_same _ _ _)
  have q3 : ∀ {x y z : Option Box}, upd (upd (upd st.boxes (st.next + 14) x) (st.next + 15) y) (st.next + 14) z (st.next + 15) = y := fun {x y z} => (upd_ne _ _ (by omega)).trans (upd_same _ _ _)
  have q4 : ∀ {x y z u : Option Box}, upd (upd (upd (upd st.boxes (st.next + 14) x) (st.next + 15) y) (st.next + 14) z) (st.next + 15) u (st.next + 14) = z := fun {x y z u} => (upd_ne _ _ (by omega)).trans (upd_same _ _ _)
  have hb1 : ∀ {x y : Option Box}, ((upd (upd st.boxes (st.next + 14) x) (st.next + 15) y) h).bind Box.cs = some [.rs r 0 2 xs.length c] := fun {x y} => by rw [q1 hh]; exact hb
  generalize hN : st.next = N at *
  repeat' (first
    | (refine I_WS ?_; first
      | refine W_iaddrR (j := i) rfl rfl rfl rfl hi' ?_
      | refine W_iaddrR (j := k) rfl rfl rfl rfl hk' ?_
      | refine W_store (cs' := [_, _]) rfl rfl q2 rfl (Nat.le_add_right _ _) rfl rfl rfl ?_
      | refine W_store (cs' := [_, _]) rfl rfl q3 rfl (Nat.le_add_right _ _) rfl rfl rfl ?_
      | (refine I_mov ?_; first
          | refine W_skip rfl ?_
          | refine W_mov (v := .int _ _) rfl rfl rfl ?_
          | refine W_mov (v := .bool _) rfl rfl rfl ?_
          | refine W_mov (v := .slice _ _ _) rfl rfl rfl ?_
          | refine W_mov (v := .agg _) rfl rfl rfl ?_
          | refine W_mov (v := .ptr _ _) rfl rfl rfl ?_
          | refine W_mov (v := .func _ _) rfl rfl rfl ?_
          | refine W_mov (v := .eptr _ _ _ _) rfl rfl rfl ?_
          | refine W_mov (v := .rs _ _ _ _ _) rfl rfl rfl ?_
          | refine W_mov (v := .tuple _) rfl rfl rfl ?_
          | refine W_mov (v := .map _) rfl rfl rfl ?_
          | refine W_mov (v := .str _) rfl rfl rfl ?_
          | refine W_mov (v := .nilptr) rfl rfl rfl ?_)
      | (refine I_bin ?_; first
          | refine W_skip rfl ?_
          | refine W_lssT rfl rfl rfl rfl (by omega) ?_
          | refine W_lssF rfl rfl rfl rfl (by omega) ?_
          | (refine W_lss rfl rfl rfl rfl ?_ ?_ <;> intro _))
      | (refine I_load ?_; first
          | refine W_skip rfl ?_
          | refine W_loadC (agg := false) (d := .rs r 0 2 xs.length c) rfl rfl rfl hb1 hh rfl ?_
          | refine W_loadRow (j := i) rfl rfl (hR.of (q1 hr)) (Nat.zero_add _) rd_cells ha' rfl ?_
          | refine W_loadRow (j := k) rfl rfl (hR.of (q1 hr)) (Nat.zero_add _) rd_cells hb' rfl ?_
          | refine W_load (agg := false) (d := .int _ _) rfl rfl rfl (bxs (by omega) (bxc rfl)) (Nat.le_add_right _ _) rfl ?_
          | refine W_load (agg := false) (d := .int _ _) rfl rfl rfl (bxc rfl) (Nat.le_add_right _ _) rfl ?_
          | refine W_load (agg := false) (d := .int _ _) rfl rfl rfl rfl (by first | exact Nat.zero_le _ | omega) rfl ?_
          | refine W_load (agg := false) (d := .bool _) rfl rfl rfl rfl (by first | exact Nat.zero_le _ | omega) rfl ?_
          | refine W_load (agg := false) (d := .slice _ _ _) rfl rfl rfl rfl (by first | exact Nat.zero_le _ | omega) rfl ?_
          | refine W_load (agg := false) (d := .ptr _ _) rfl rfl rfl rfl (by first | exact Nat.zero_le _ | omega) rfl ?_
          | refine W_load (agg := false) (d := .func _ _) rfl rfl rfl rfl (by first | exact Nat.zero_le _ | omega) rfl ?_
          | refine W_load (agg := true) (d := .agg [_, _]) rfl rfl rfl rfl (by first | exact Nat.zero_le _ | omega) rfl ?_)
      | (refine I_call ?_; first
          | refine W_skip rfl ?_
          | refine W_call rfl rfl rfl (s_Compare _ _) rfl rfl ?_
          | refine W_call rfl rfl rfl (s_Or2 _ _ _) rfl rfl ?_)
      | (refine I_store ?_; first
          | refine W_store (cs' := [_, _]) rfl rfl rfl rfl (by first | exact Nat.zero_le _ | omega) rfl rfl rfl ?_
          | refine W_skip0 rfl ?_)
      | refine W_faddr rfl rfl rfl ?_
      | refine W_faddrE rfl rfl rfl ?_
      | refine W_nilCheckM rfl rfl ?_
      | refine W_nilCheckE rfl rfl rfl ?_
      | refine W_nilCheckF rfl rfl rfl ?_
      | refine W_faddrM rfl rfl ?_
      | refine W_alloc rfl rfl ?_
      | refine W_skip rfl ?_
      | refine W_iaddr rfl rfl rfl rfl (by first | rfl | exact sz_of (by assumption) (by omega)) (by first | decide | (simp only [List.length_map]; omega)) ?_
      | refine W_iaddrRN rfl rfl rfl rfl rfl (by decide) ?_
      | refine W_iaddrR rfl rfl rfl rfl (by first | decide | omega) ?_
      | refine W_bsliceS (ds := [.slice _ _ _]) (ys := [.slice _ _ _]) rfl rfl rfl rfl (by decide) rfl ?_
      | refine W_bsliceS (ds := [.slice _ _ _, .slice _ _ _]) (ys := [.slice _ _ _, .slice _ _ _]) rfl rfl rfl rfl (by decide) rfl ?_
      | refine W_bsliceS (ds := [.slice _ _ _, .slice _ _ _, .slice _ _ _]) (ys := [.slice _ _ _, .slice _ _ _, .slice _ _ _]) rfl rfl rfl rfl (by decide) rfl ?_
      | refine W_bslice (ys := []) rfl rfl rfl (by decide) rfl ?_
      | refine W_bslice (ys := [_]) rfl rfl rfl (by decide) rfl ?_
      | refine W_bslice (ys := [_, _]) rfl rfl rfl (by decide) rfl ?_
      | refine W_bslice (ys := [_, _, _]) rfl rfl rfl (by decide) rfl ?_
      | refine W_skip rfl ?_
      | refine WS_nil ?_)
    | refine WC_seq ?_
    | refine WC_opsS ?_
    | refine WC_drawS ?_
    | refine WC_skip ?_
    | refine WC_ret ?_
    | refine okF_intro rfl ?_)
  refine ⟨?_, ?_⟩
  · rw [Bool.and_eq_true]
    have e1 : (decide (h < N)) = true := by simp; omega
    have e2 : (decide (r < N)) = true := by simp; omega
    have e3 : (N + 14 == r) = false := by simp; omega
    have e4 : (N + 14 == h) = false := by simp; omega
    have e5 : (h == N + 14) = false := by simp; omega
    have e6 : (r == N + 14) = false := by simp; omega
    have e7 : (h == N + 15) = false := by simp; omega
    have e8 : (r == N + 15) = false := by simp; omega
    constructor
    · simp [okFlags, List.range, List.range.loop, Fl.clash, e3, e4, e5, e6, e7, e8]
    · simp [okTouch, List.range, List.range.loop, e1, e2]
  repeat' (first
    | (refine I_WS ?_; first
      | (refine I_mov ?_; first
          | refine W_skip rfl ?_
          | refine W_mov (v := .int _ _) rfl rfl rfl ?_
          | refine W_mov (v := .bool _) rfl rfl rfl ?_
          | refine W_mov (v := .slice _ _ _) rfl rfl rfl ?_
          | refine W_mov (v := .agg _) rfl rfl rfl ?_
          | refine W_mov (v := .ptr _ _) rfl rfl rfl ?_
          | refine W_mov (v := .func _ _) rfl rfl rfl ?_
          | refine W_mov (v := .eptr _ _ _ _) rfl rfl rfl ?_
          | refine W_mov (v := .rs _ _ _ _ _) rfl rfl rfl ?_
          | refine W_mov (v := .tuple _) rfl rfl rfl ?_
          | refine W_mov (v := .map _) rfl rfl rfl ?_
          | refine W_mov (v := .str _) rfl rfl rfl ?_
          | refine W_mov (v := .nilptr) rfl rfl rfl ?_)
      | (refine I_bin ?_; first
          | refine W_skip rfl ?_
          | refine W_lssT rfl rfl rfl rfl (by omega) ?_
          | refine W_lssF rfl rfl rfl rfl (by omega) ?_
          | (refine W_lss rfl rfl rfl rfl ?_ ?_ <;> intro _))
      | (refine I_load ?_; first
          | refine W_skip rfl ?_
          | refine W_load (agg := false) (d := .int _ _) rfl rfl rfl (bxs (by omega) (bxc rfl)) (Nat.le_add_right _ _) rfl ?_
          | refine W_load (agg := false) (d := .int _ _) rfl rfl rfl (bxc rfl) (Nat.le_add_right _ _) rfl ?_
          | refine W_load (agg := false) (d := .int _ _) rfl rfl rfl rfl (by first | exact Nat.zero_le _ | omega) rfl ?_
          | refine W_load (agg := false) (d := .bool _) rfl rfl rfl rfl (by first | exact Nat.zero_le _ | omega) rfl ?_
          | refine W_load (agg := false) (d := .slice _ _ _) rfl rfl rfl rfl (by first | exact Nat.zero_le _ | omega) rfl ?_
          | refine W_load (agg := false) (d := .ptr _ _) rfl rfl rfl rfl (by first | exact Nat.zero_le _ | omega) rfl ?_
          | refine W_load (agg := false) (d := .func _ _) rfl rfl rfl rfl (by first | exact Nat.zero_le _ | omega) rfl ?_
          | refine W_load (agg := true) (d := .agg [_, _]) rfl rfl rfl rfl (by first | exact Nat.zero_le _ | omega) rfl ?_)
      | (refine I_call ?_; first
          | refine W_skip rfl ?_
          | refine W_call rfl rfl rfl (s_Compare _ _) rfl rfl ?_
          | refine W_call rfl rfl rfl (s_Or2 _ _ _) rfl rfl ?_)
      | (refine I_store ?_; first
          | refine W_store (cs' := [_, _]) rfl rfl rfl rfl (by first | exact Nat.zero_le _ | omega) rfl rfl rfl ?_
          | refine W_skip0 rfl ?_)
      | refine W_faddr rfl rfl rfl ?_
      | refine W_faddrE rfl rfl rfl ?_
      | refine W_nilCheckM rfl rfl ?_
      | refine W_nilCheckE rfl rfl rfl ?_
      | refine W_nilCheckF rfl rfl rfl ?_
      | refine W_faddrM rfl rfl ?_
      | refine W_alloc rfl rfl ?_
      | refine W_skip rfl ?_
      | refine W_iaddr rfl rfl rfl rfl (by first | rfl | exact sz_of (by assumption) (by omega)) (by first | decide | (simp only [List.length_map]; omega)) ?_
      | refine W_iaddrRN rfl rfl rfl rfl rfl (by decide) ?_
      | refine W_iaddrR rfl rfl rfl rfl (by first | decide | omega) ?_
      | refine W_bsliceS (ds := [.slice _ _ _]) (ys := [.slice _ _ _]) rfl rfl rfl rfl (by decide) rfl ?_
      | refine W_bsliceS (ds := [.slice _ _ _, .slice _ _ _]) (ys := [.slice _ _ _, .slice _ _ _]) rfl rfl rfl rfl (by decide) rfl ?_
      | refine W_bsliceS (ds := [.slice _ _ _, .slice _ _ _, .slice _ _ _]) (ys := [.slice _ _ _, .slice _ _ _, .slice _ _ _]) rfl rfl rfl rfl (by decide) rfl ?_
      | refine W_bslice (ys := []) rfl rfl rfl (by decide) rfl ?_
      | refine W_bslice (ys := [_]) rfl rfl rfl (by decide) rfl ?_
      | refine W_bslice (ys := [_, _]) rfl rfl rfl (by decide) rfl ?_
      | refine W_bslice (ys := [_, _, _]) rfl rfl rfl (by decide) rfl ?_
      | refine W_skip rfl ?_
      | refine WS_nil ?_)
    | refine WC_seq ?_
    | refine WC_opsS ?_
    | refine WC_drawS ?_
    | refine WC_skip ?_
    | refine WC_ret ?_
    | refine okF_intro rfl ?_)
  all_goals
    rename_i hlt
    refine ⟨.inr rfl, ?_⟩
    rw [← lt_cmp]
    simp [hlt]
    rfl
end Go.Hea
