/-
  Routes: their IDs, whether two are the same, which one is better.
-/
import Derived.Test.YtklegmbpppegaaaOrdOrdC
import Derived.Test.YtklegmbpppegaaaEvEvX4
set_option linter.unusedVariables false
set_option linter.unusedSimpArgs false
set_option linter.unnecessarySimpa false

namespace Go.Ord
open Go.Ev
set_option linter.unusedVariables false
set_option linter.unusedSimpArgs false
theorem s_isNaN (a : Int) : EvP Γ 67 [.int .i64 a] (.bool false) := by
  refine EvP_code rfl rfl ?_
  repeat' (first
 | (refine I_WS ?_; first
 | (refine I_mov ?_; first
 | refine W_mov (v := .int _ _) rfl rfl rfl ?_
 | refine W_mov (v := .bool _) rfl rfl rfl ?_)
 | (refine I_bin ?_; first
 | refine W_neqF rfl rfl rfl rfl (by omega) ?_)
 | refine WS_nil ?_)
 | refine WC_seq ?_
 | refine WC_opsS ?_
 | refine WC_ret ?_)
  all_goals first | exact fin_bool (by simp) rfl rfl | (exfalso; simp_all; done) | (exfalso; omega)
/-- Three ways. -/
def cmpI (a b : Int) : Int := if a < b then -1 else if b < a then 1 else 0
theorem s_Compare (a b : Int) : EvP Γ 44 [.int .i64 a, .int .i64 b] (.int .i64 (cmpI a b)) := by
  refine EvP_code rfl rfl ?_
  repeat' (first
 | (refine I_WS ?_; first
 | (refine I_mov ?_; first
 | refine W_mov (v := .int _ _) rfl rfl rfl ?_
 | refine W_mov (v := .bool _) rfl rfl rfl ?_)
 | (refine I_bin ?_; first
 | (refine W_lss rfl rfl rfl rfl ?_ ?_ <;> intro _)
 | (refine W_gtr rfl rfl rfl rfl ?_ ?_ <;> intro _))
 | (refine I_call ?_; first
 | refine W_call rfl rfl rfl (s_isNaN _) rfl rfl ?_)
 | refine WS_nil ?_)
 | refine WC_seq ?_
 | refine WC_opsS ?_
 | refine WC_skip ?_
 | refine WC_condT rfl ?_
 | refine WC_condF rfl ?_
 | refine WC_ret ?_)
  all_goals refine fin_int (by simp) rfl ?_
  all_goals unfold cmpI
  all_goals simp_all
  all_goals omega
/-- The first one that is not 0. -/
def orI : List Int → Int
  | [] => 0
  | x :: l => if x = 0 then orI l else x
theorem l_Or (t : Tok) (ls : List Int) (hl : ls.length ≤ 1073741824) : ∀ (post pre : List Int), ls = pre ++ post → (∀ x ∈ pre, x = 0) →
    ∀ (ρ : Nat → D) (h3 : ρ 3 = .int .i64 0) (h6 : ρ 6 = .slice t 1 (ls.map (D.int .i64))) (h7 : ρ 7 = .int .i64 ls.length) (h8 : ρ 8 = .int .i64 pre.length) (Q : X → (Nat → D) → Store → Prop),
    (orI ls = 0 → ∀ ρ', ρ' 3 = .int .i64 0 → Q (.exit 0) ρ' Store.empty) → (∀ ρ', ρ' 2 = .int .i64 (orI ls) → Q .ret ρ' Store.empty) → WC Γ (.loop c_cmp_Or_int_l0) ρ Store.empty Q := by
  intro post
  induction post with
  | nil =>
    intro pre hp hz ρ h3 h6 h7 h8 Q hQ hQ2
    rw [List.append_nil] at hp
    subst hp
    have : orI ls = 0 := by
      clear hl h6 h7 h8 hQ hQ2
      induction ls with
      | nil => rfl
      | cons x l ih => rw [orI, if_pos (hz x (by simp)), ih (fun y hy => hz y (by simp [hy]))]
    rw [← upd_self h3, ← upd_self h6, ← upd_self h7, ← upd_self h8]
    refine WC_loop ?_
    repeat' (first
 | (refine I_WS ?_; first
 | (refine I_bin ?_; first
 | refine W_lssF rfl rfl rfl rfl (by omega) ?_)
 | refine WS_nil ?_)
 | refine WC_seq ?_
 | refine WC_opsS ?_
 | refine WC_condF rfl ?_
 | refine WC_exit ?_)
    exact hQ this _ rfl
  | cons x post ih =>
    intro pre hp hz ρ h3 h6 h7 h8 Q hQ hQ2
    have hv : ls[pre.length]? = some x := by rw [hp]; simp
    have hlen : ls.length = pre.length + (post.length + 1) := by rw [hp]; simp
    rw [← upd_self h3, ← upd_self h6, ← upd_self h7, ← upd_self h8]
    refine WC_loop ?_
    repeat' (first
 | (refine I_WS ?_; first
 | (refine I_mov ?_; first
 | refine W_mov (v := .int _ _) rfl rfl rfl ?_)
 | (refine I_bin ?_; first
 | refine W_lssT rfl rfl rfl rfl (by omega) ?_
 | (refine W_neq rfl rfl rfl rfl ?_ ?_ <;> intro _)
 | refine W_add rfl rfl rfl rfl (by first | exact w64 (by omega) | rfl) ?_)
 | (refine I_load ?_; first
 | refine W_loadE (agg := false) (d := .int _ _) rfl rfl rfl hv rfl ?_)
 | refine W_iaddr rfl rfl rfl rfl (by first | rfl | exact sz_of (by assumption) (by omega)) (by first | decide | (simp only [List.length_map]; omega)) ?_
 | refine WS_nil ?_)
 | refine WC_seq ?_
 | refine WC_opsS ?_
 | refine WC_skip ?_
 | refine WC_condT rfl ?_
 | refine WC_condF rfl ?_
 | refine WC_block ?_
 | refine WC_ret ?_)
    · rename_i hx
      exact ih (pre ++ [x]) (by simp [hp]) (fun y hy => by
        rcases List.mem_append.mp hy with h | h
        · exact hz y h
        · rw [List.mem_singleton.mp h]; exact hx) _ rfl rfl rfl (by rw [List.length_append]; rfl) Q hQ hQ2
    · rename_i hx
      refine hQ2 _ ?_
      have : orI ls = x := by
        rw [hp]
        clear hp hl h6 h7 h8 hQ hQ2 ih hv hlen
        induction pre with
        | nil => simp only [List.nil_append, orI]; rw [if_neg hx]
        | cons y pre ih => rw [List.cons_append, orI, if_pos (hz y (by simp)), ih (fun z hz' => hz z (by simp [hz']))]
      rw [this]
      rfl
theorem s_Or (t : Tok) (ls : List Int) (hl : ls.length ≤ 1073741824) : EvP Γ 43 [.slice t 1 (ls.map (D.int .i64))] (.int .i64 (orI ls)) := by
  refine EvP_code rfl rfl ?_
  repeat' (first
 | (refine I_WS ?_; first
 | (refine I_mov ?_; first
 | refine W_mov (v := .int _ _) rfl rfl rfl ?_
 | refine W_mov (v := .slice _ _ _) rfl rfl rfl ?_)
 | refine W_lenM rfl rfl rfl ?_
 | refine WS_nil ?_)
 | refine WC_seq ?_
 | refine WC_opsS ?_
 | refine WC_block ?_)
  refine l_Or t ls hl ls [] rfl (by simp) _ rfl rfl rfl rfl _ (fun h0 ρ h3 => ?_) (fun ρ h2 => ?_)
  · rw [← upd_self h3]
    repeat' (first
 | (refine I_WS ?_; first
 | (refine I_mov ?_; first
 | refine W_mov (v := .int _ _) rfl rfl rfl ?_)
 | refine WS_nil ?_)
 | refine WC_seq ?_
 | refine WC_opsS ?_
 | refine WC_ret ?_)
    exact fin_int (by simp) rfl h0.symm
  · exact fin_int (by simp) (show some (ρ 2) = _ by rw [h2]) rfl
theorem s_Or2 (t : Tok) (a b : Int) : EvP Γ 43 [.slice t 1 [.int .i64 a, .int .i64 b]] (.int .i64 (orI [a, b])) := s_Or t [a, b] (by simp)
theorem in_mid {l pre post : List Int} {x : Int} (h : l = pre ++ x :: post) : l[pre.length]? = some x := by rw [h]; simp
/-- A hop. -/
structure Hp where
  id : Int
  se : Int
  ar : Int
deriving DecidableEq
def Hp.e (r : Hp) : D := .agg [.int .i64 r.id, .int .i64 r.se, .int .i64 r.ar]
/-- The row of IDs is ahead, or the same. -/
def lexI : List Int → List Int → Int
  | [], [] => 0
  | [], _ :: _ => -1
  | _ :: _, [] => 1
  | a :: xs, b :: ys => if a < b then -1 else if b < a then 1 else lexI xs ys
theorem lexI_refl : ∀ a : List Int, lexI a a = 0
  | [] => rfl
  | a :: xs => by rw [lexI, if_neg (Int.lt_irrefl _), if_neg (Int.lt_irrefl _), lexI_refl xs]
theorem int_ele (a : Int) : Elem 1 (D.int .i64 a) := ⟨rfl, rfl⟩
theorem int_mk (a : Int) : (D.int .i64 a).cells.length = 1 ∧ mkD (D.int .i64 a).cells = D.int .i64 a := ⟨rfl, rfl⟩
theorem hp_mid {l pre post : List Hp} {x : Hp} (h : l = pre ++ x :: post) : l[pre.length]? = some x := by rw [h]; simp
/-! ### IDs -/
set_option maxHeartbeats 2000000 in
theorem l_IDs (hs : List Hp) (hll : hs.length ≤ 1000000) (t : Tok) (s : Nat) (hsz : s = 3 ∨ hs = []) : ∀ (post pre : List Hp), hs = pre ++ post → ∀ (ρ : Nat → D) (st : Store) (d : D), st.lim ≤ 0 → OutG (D.int .i64) 1 st d (pre.map Hp.id) →
    ρ 2 = d → ρ 6 = .slice t s (hs.map Hp.e) → ρ 7 = .int .i64 hs.length → ρ 8 = .int .i64 pre.length → ∀ (Q : X → (Nat → D) → Store → Prop),
    (∀ ρ' st' d', OutG (D.int .i64) 1 st' d' (hs.map Hp.id) → ρ' 2 = d' → Q (.exit 0) ρ' st') → WC Γ (.loop c_path_IDs_l0) ρ st Q := by
  intro post
  induction post with
  | nil =>
    intro pre hpp ρ st d hlim hO h2 h6 h7 h8 Q hQ
    rw [List.append_nil] at hpp
    subst hpp
    rw [← upd_self h2, ← upd_self h6, ← upd_self h7, ← upd_self h8]
    refine WC_loop ?_
    repeat' (first
 | (refine I_WS ?_; first
 | (refine I_bin ?_; first
 | refine W_lssF rfl rfl rfl rfl (by omega) ?_)
 | refine WS_nil ?_)
 | refine WC_seq ?_
 | refine WC_opsS ?_
 | refine WC_condF rfl ?_
 | refine WC_exit ?_)
    exact hQ _ _ d hO rfl
  | cons x post ih =>
    intro pre hpp ρ st d hlim hO h2 h6 h7 h8 Q hQ
    have hv := hp_mid hpp
    have hlen : hs.length = pre.length + (post.length + 1) := by rw [hpp]; simp
    have hz : s = 3 := hsz.resolve_right (by rintro rfl; simp at hlen)
    subst hz
    have hpl : pre.length < (hs.map Hp.e).length := by simp; omega
    have hltl : (pre.length : Int) < hs.length := by omega
    have hbd : ((pre.map Hp.id).length + 1) * 8 ≤ 140737488355328 := by simp; omega
    have hlim2 : st.lim ≤ st.next := by omega
    have hnext : ∀ (ρ' : Nat → D) (st' : Store) (d' : D), st'.lim ≤ 0 → OutG (D.int .i64) 1 st' d' (pre.map Hp.id ++ [x.id]) → ρ' 2 = d' → ρ' 6 = .slice t 3 (hs.map Hp.e) → ρ' 7 = .int .i64 hs.length → ρ' 8 = .int .i64 ((pre.length : Int) + 1) → WC Γ (.loop c_path_IDs_l0) ρ' st' Q := fun ρ' st' d' e1 e2 k2 k6 k7 k8 =>
      ih (pre ++ [x]) (by simp [hpp]) ρ' st' d' e1 (by rw [List.map_append]; exact e2) k2 k6 k7 (by rw [List.length_append]; exact k8) Q hQ
    have hO2 : OutG (D.int .i64) 1 { st with boxes := upd (upd st.boxes st.next (some (.cells [.int .i64 0, .int .i64 0, .int .i64 0]))) st.next (some (.cells x.e.cells)), next := st.next + 1 } d (pre.map Hp.id) := by
      rcases hO with h | ⟨q, n, c, g1, g2, g3, g4, g5, cs, g6, g7⟩
      · exact .inl h
      · exact .inr ⟨q, n, c, g1, g2, g3, g4, Nat.lt_succ_of_lt g5, cs, (upd_ne _ _ (Nat.ne_of_lt g5)).trans ((upd_ne _ _ (Nat.ne_of_lt g5)).trans g6), g7⟩
    clear ih hQ
    rw [← upd_self h2, ← upd_self h6, ← upd_self h7, ← upd_self h8]
    refine WC_loop ?_
    repeat' (first
 | (refine I_WS ?_; first
 | refine W_iaddr (j := pre.length) rfl rfl rfl rfl rfl hpl ?_
 | refine W_store (cs' := [_, _, _]) rfl rfl (upd_same _ _ _) rfl hlim2 rfl rfl rfl ?_
 | refine W_mov (v := d1) rfl rfl rfl ?_
 | refine W_mov (v := d) rfl rfl rfl ?_
 | (refine W_appG (r := x.id) (by decide) int_ele rfl rfl rfl rfl hO2 hbd hlim ?_; intro st1 d1 a1 a2)
 | (refine I_mov ?_; first
 | refine W_mov (v := .int _ _) rfl rfl rfl ?_)
 | (refine I_bin ?_; first
 | refine W_lssT rfl rfl rfl rfl (by omega) ?_
 | refine W_add rfl rfl rfl rfl (by first | exact w64 (by omega) | rfl) ?_)
 | (refine I_load ?_; first
 | refine W_loadE (agg := true) (d := .agg [_, _, _]) rfl rfl rfl hv rfl ?_
 | refine W_load (agg := false) (d := .int _ _) rfl rfl rfl (bxc rfl) (by first | exact Nat.zero_le _ | assumption | exact Nat.le_trans hlim (Nat.zero_le _) | omega) rfl ?_)
 | refine W_faddr rfl rfl rfl ?_
 | refine W_alloc rfl rfl ?_
 | refine W_bslice (ys := [_]) rfl rfl rfl (by decide) rfl ?_
 | refine WS_nil ?_)
 | refine WC_seq ?_
 | refine WC_opsS ?_
 | refine WC_skip ?_
 | refine WC_condT rfl ?_
 | refine WC_block ?_)
    exact hnext _ st1 d1 a1 a2 rfl rfl rfl rfl
theorem s_IDs (hs : List Hp) (hll : hs.length ≤ 1000000) (a : Int) (t : Tok) (s : Nat) (hsz : s = 3 ∨ hs = []) : EvX Γ 46 [.agg [.slice t s (hs.map Hp.e), .int .i64 a]] (IsN (D.int .i64) 1 (hs.map Hp.id)) := by
  refine EvX_code rfl rfl ?_
  repeat' (first
 | (refine I_WS ?_; first
 | refine W_lenM rfl rfl rfl ?_
 | (refine I_mov ?_; first
 | refine W_mov (v := .int _ _) rfl rfl rfl ?_
 | refine W_mov (v := .slice _ _ _) rfl rfl rfl ?_)
 | (refine I_load ?_; first
 | refine W_load (agg := false) (d := .slice _ _ _) rfl rfl rfl rfl (by first | exact Nat.zero_le _ | omega) rfl ?_)
 | (refine I_box ?_; first
 | refine W_boxA rfl rfl rfl rfl rfl ?_)
 | refine W_faddr rfl rfl rfl ?_
 | refine WS_nil ?_)
 | refine WC_seq ?_
 | refine WC_opsS ?_
 | refine WC_block ?_)
  refine l_IDs hs hll t s hsz hs [] rfl _ _ (.slice .isnil 0 []) (Nat.le_refl _) (.inl ⟨rfl, rfl⟩) ?_ ?_ ?_ ?_ _ (fun ρ' st' d hO h2 => ?_)
  all_goals first | rfl | skip
  rw [← upd_self h2]
  repeat' (first
 | (refine I_WS ?_; first
 | refine W_mov (v := d) rfl rfl rfl ?_
 | refine WS_nil ?_)
 | refine WC_seq ?_
 | refine WC_opsS ?_
 | refine WC_ret ?_)
  exact finX_G (by decide) int_mk (.inr rfl) rfl hO
/-! ### The same -/
/-! ### Which one is better -/
theorem lexI_app : ∀ (p a b : List Int), lexI (p ++ a) (p ++ b) = lexI a b
  | [], a, b => rfl
  | x :: p, a, b => by rw [List.cons_append, List.cons_append, lexI, if_neg (Int.lt_irrefl _), if_neg (Int.lt_irrefl _), lexI_app p]
theorem l_lex (a b : List Int) (hla : a.length ≤ 1073741824) (hlb : b.length ≤ 1073741824) (t t' : Tok) (sa sb : Nat) (ha : sa = 1 ∨ a = []) (hb : sb = 1 ∨ b = []) : ∀ (post pre rest : List Int), a = pre ++ post → b = pre ++ rest → ∀ (ρ : Nat → D) (st : Store),
    ρ 0 = .slice t sa (a.map (D.int .i64)) → ρ 1 = .slice t' sb (b.map (D.int .i64)) → ρ 9 = .slice t sa (a.map (D.int .i64)) → ρ 10 = .int .i64 a.length → ρ 11 = .int .i64 pre.length → ∀ (Q : X → (Nat → D) → Store → Prop),
    (lexI a b = (if a.length < b.length then -1 else 0) → ∀ ρ', ρ' 0 = .slice t sa (a.map (D.int .i64)) → ρ' 1 = .slice t' sb (b.map (D.int .i64)) → Q (.exit 0) ρ' st) → (∀ ρ', ρ' 4 = .int .i64 (lexI a b) → Q .ret ρ' st) → WC Γ (.loop c_slices_Compare_int_l0) ρ st Q := by
  intro post
  induction post with
  | nil =>
    intro pre rest hpp hpr ρ st h0 h1 h9 h10 h11 Q hQ hQ2
    have hL : lexI a b = (if a.length < b.length then -1 else 0) := by
      rw [hpp, hpr, lexI_app]
      cases rest with
      | nil => simp [lexI]
      | cons y r => simp [lexI]
    rw [List.append_nil] at hpp
    subst hpp
    rw [← upd_self h0, ← upd_self h1, ← upd_self h9, ← upd_self h10, ← upd_self h11]
    refine WC_loop ?_
    repeat' (first
 | (refine I_WS ?_; first
 | (refine I_bin ?_; first
 | refine W_lssF rfl rfl rfl rfl (by omega) ?_)
 | refine WS_nil ?_)
 | refine WC_seq ?_
 | refine WC_opsS ?_
 | refine WC_condF rfl ?_
 | refine WC_exit ?_)
    exact hQ hL _ rfl rfl
  | cons x post ih =>
    intro pre rest hpp hpr ρ st h0 h1 h9 h10 h11 Q hQ hQ2
    have hv := in_mid hpp
    have hlen : a.length = pre.length + (post.length + 1) := by rw [hpp]; simp
    have hz : sa = 1 := ha.resolve_right (by rintro rfl; simp at hlen)
    subst hz
    have hpl : pre.length < (a.map (D.int .i64)).length := by simp; omega
    have hltl : (pre.length : Int) < a.length := by omega
    cases rest with
    | nil =>
      have hbl : (b.length : Int) ≤ pre.length := by rw [hpr]; simp
      have hL : lexI a b = 1 := by rw [hpp, hpr, lexI_app]; rfl
      rw [hL] at hQ2
      clear ih hQ hpp
      rw [← upd_self h0, ← upd_self h1, ← upd_self h9, ← upd_self h10, ← upd_self h11]
      refine WC_loop ?_
      repeat' (first
 | (refine I_WS ?_; first
 | refine W_lenM rfl rfl rfl ?_
 | refine W_iaddr (j := pre.length) rfl rfl rfl rfl rfl hpl ?_
 | (refine I_mov ?_; first
 | refine W_mov (v := .int _ _) rfl rfl rfl ?_
 | refine W_mov (v := .slice _ _ _) rfl rfl rfl ?_)
 | (refine I_bin ?_; first
 | refine W_lssT rfl rfl rfl rfl (by omega) ?_
 | refine W_geqT rfl rfl rfl rfl (by omega) ?_)
 | (refine I_load ?_; first
 | refine W_loadE (agg := false) (d := .int _ _) rfl rfl rfl hv rfl ?_)
 | refine WS_nil ?_)
 | refine WC_seq ?_
 | refine WC_opsS ?_
 | refine WC_skip ?_
 | refine WC_condT rfl ?_
 | refine WC_block ?_
 | refine WC_ret ?_)
      exact hQ2 _ rfl
    | cons y rest =>
      have hv2 := in_mid hpr
      have hlen2 : b.length = pre.length + (rest.length + 1) := by rw [hpr]; simp
      have hz : sb = 1 := hb.resolve_right (by rintro rfl; simp at hlen2)
      subst hz
      have hpl2 : pre.length < (b.map (D.int .i64)).length := by simp; omega
      have hltl2 : (pre.length : Int) < b.length := by omega
      have hC := s_Compare x y
      by_cases hxy : x = y
      · subst hxy
        have hc : cmpI x x = 0 := by unfold cmpI; rw [if_neg (by omega), if_neg (by omega)]
        rw [hc] at hC
        have hnext : ∀ (ρ' : Nat → D), ρ' 0 = .slice t 1 (a.map (D.int .i64)) → ρ' 1 = .slice t' 1 (b.map (D.int .i64)) → ρ' 9 = .slice t 1 (a.map (D.int .i64)) → ρ' 10 = .int .i64 a.length → ρ' 11 = .int .i64 ((pre.length : Int) + 1) → WC Γ (.loop c_slices_Compare_int_l0) ρ' st Q := fun ρ' k0 k1 k9 k10 k11 =>
          ih (pre ++ [x]) rest (by simp [hpp]) (by simp [hpr]) ρ' st k0 k1 k9 k10 (by rw [List.length_append]; exact k11) Q hQ hQ2
        clear ih hQ hQ2 hpp hpr
        rw [← upd_self h0, ← upd_self h1, ← upd_self h9, ← upd_self h10, ← upd_self h11]
        refine WC_loop ?_
        repeat' (first
 | (refine I_WS ?_; first
 | refine W_lenM rfl rfl rfl ?_
 | refine W_iaddr (j := pre.length) rfl rfl rfl rfl rfl hpl ?_
 | refine W_iaddr (j := pre.length) rfl rfl rfl rfl rfl hpl2 ?_
 | (refine I_mov ?_; first
 | refine W_mov (v := .int _ _) rfl rfl rfl ?_
 | refine W_mov (v := .slice _ _ _) rfl rfl rfl ?_)
 | (refine I_bin ?_; first
 | refine W_lssT rfl rfl rfl rfl (by omega) ?_
 | refine W_geqF rfl rfl rfl rfl (by omega) ?_
 | refine W_neqF rfl rfl rfl rfl (by omega) ?_
 | refine W_add rfl rfl rfl rfl (by first | exact w64 (by omega) | rfl) ?_)
 | (refine I_load ?_; first
 | refine W_loadE (agg := false) (d := .int _ _) rfl rfl rfl hv rfl ?_
 | refine W_loadE (agg := false) (d := .int _ _) rfl rfl rfl hv2 rfl ?_)
 | (refine I_call ?_; first
 | refine W_call rfl rfl rfl hC rfl rfl ?_)
 | refine WS_nil ?_)
 | refine WC_seq ?_
 | refine WC_opsS ?_
 | refine WC_skip ?_
 | refine WC_condT rfl ?_
 | refine WC_condF rfl ?_
 | refine WC_block ?_)
        refine hnext _ ?_ ?_ ?_ ?_ ?_ <;> rfl
      · have hL : lexI a b = cmpI x y := by
          rw [hpp, hpr, lexI_app, lexI]
          unfold cmpI
          by_cases h : x < y
          · rw [if_pos h, if_pos h]
          · rw [if_neg h, if_neg h, if_pos (by omega), if_pos (by omega)]
        have hne : ¬ cmpI x y = 0 := by
          unfold cmpI
          by_cases h : x < y
          · rw [if_pos h]; omega
          · rw [if_neg h, if_pos (by omega)]; omega
        rw [hL] at hQ2
        generalize cmpI x y = c at *
        clear ih hQ hpp hpr
        rw [← upd_self h0, ← upd_self h1, ← upd_self h9, ← upd_self h10, ← upd_self h11]
        refine WC_loop ?_
        repeat' (first
 | (refine I_WS ?_; first
 | refine W_lenM rfl rfl rfl ?_
 | refine W_iaddr (j := pre.length) rfl rfl rfl rfl rfl hpl ?_
 | refine W_iaddr (j := pre.length) rfl rfl rfl rfl rfl hpl2 ?_
 | refine W_neqT rfl rfl rfl rfl hne ?_
 | (refine I_mov ?_; first
 | refine W_mov (v := .int _ _) rfl rfl rfl ?_
 | refine W_mov (v := .slice _ _ _) rfl rfl rfl ?_)
 | (refine I_bin ?_; first
 | refine W_lssT rfl rfl rfl rfl (by omega) ?_
 | refine W_geqF rfl rfl rfl rfl (by omega) ?_)
 | (refine I_load ?_; first
 | refine W_loadE (agg := false) (d := .int _ _) rfl rfl rfl hv rfl ?_
 | refine W_loadE (agg := false) (d := .int _ _) rfl rfl rfl hv2 rfl ?_)
 | (refine I_call ?_; first
 | refine W_call rfl rfl rfl hC rfl rfl ?_)
 | refine WS_nil ?_)
 | refine WC_seq ?_
 | refine WC_opsS ?_
 | refine WC_skip ?_
 | refine WC_condT rfl ?_
 | refine WC_condF rfl ?_
 | refine WC_block ?_
 | refine WC_ret ?_)
        exact hQ2 _ rfl
theorem s_lex (a b : List Int) (hla : a.length ≤ 1073741824) (hlb : b.length ≤ 1073741824) (t t' : Tok) (sa sb : Nat) (ha : sa = 1 ∨ a = []) (hb : sb = 1 ∨ b = []) : EvP Γ 45 [.slice t sa (a.map (D.int .i64)), .slice t' sb (b.map (D.int .i64))] (.int .i64 (lexI a b)) := by
  refine EvP_code rfl rfl ?_
  repeat' (first
 | (refine I_WS ?_; first
 | refine W_lenM rfl rfl rfl ?_
 | (refine I_mov ?_; first
 | refine W_mov (v := .int _ _) rfl rfl rfl ?_
 | refine W_mov (v := .slice _ _ _) rfl rfl rfl ?_)
 | refine WS_nil ?_)
 | refine WC_seq ?_
 | refine WC_opsS ?_
 | refine WC_block ?_)
  refine l_lex a b hla hlb t t' sa sb ha hb a [] b rfl rfl _ _ ?_ ?_ ?_ ?_ ?_ _ (fun hL ρ' h0 h1 => ?_) (fun ρ' h4 => ?_)
  all_goals first | rfl | skip
  · rw [← upd_self h0, ← upd_self h1, hL]
    by_cases h : a.length < b.length
    · rw [if_pos h]
      have h' : (a.length : Int) < b.length := by omega
      repeat' (first
 | (refine I_WS ?_; first
 | refine W_lenM rfl rfl rfl ?_
 | (refine I_mov ?_; first
 | refine W_mov (v := .int _ _) rfl rfl rfl ?_
 | refine W_mov (v := .slice _ _ _) rfl rfl rfl ?_)
 | (refine I_bin ?_; first
 | refine W_lssT rfl rfl rfl rfl (by omega) ?_)
 | refine WS_nil ?_)
 | refine WC_seq ?_
 | refine WC_opsS ?_
 | refine WC_condT rfl ?_
 | refine WC_ret ?_)
      exact fin_int (.inr rfl) rfl rfl
    · rw [if_neg h]
      have h' : (b.length : Int) ≤ a.length := by omega
      repeat' (first
 | (refine I_WS ?_; first
 | refine W_lenM rfl rfl rfl ?_
 | (refine I_mov ?_; first
 | refine W_mov (v := .int _ _) rfl rfl rfl ?_
 | refine W_mov (v := .slice _ _ _) rfl rfl rfl ?_)
 | (refine I_bin ?_; first
 | refine W_lssF rfl rfl rfl rfl (by omega) ?_)
 | refine WS_nil ?_)
 | refine WC_seq ?_
 | refine WC_opsS ?_
 | refine WC_skip ?_
 | refine WC_condF rfl ?_
 | refine WC_ret ?_)
      exact fin_int (.inr rfl) rfl rfl
  · rw [← upd_self h4]
    exact fin_int (.inr rfl) rfl rfl
/-- Which route is better: when they are there, how many hops, which IDs. -/
def cmpR (h : List Hp) (a : Int) (h' : List Hp) (a' : Int) : Int := orI [orI [cmpI a a', cmpI h.length h'.length], lexI (h.map Hp.id) (h'.map Hp.id)]
set_option maxHeartbeats 2000000 in
theorem s_CompareR (h : List Hp) (a : Int) (h' : List Hp) (a' : Int) (hl : h.length ≤ 1000000) (hl' : h'.length ≤ 1000000) (t t' : Tok) (s s' : Nat) (hs : s = 3 ∨ h = []) (hs' : s' = 3 ∨ h' = []) : EvP Γ 21 [.agg [.slice t s (h.map Hp.e), .int .i64 a], .agg [.slice t' s' (h'.map Hp.e), .int .i64 a']] (.int .i64 (cmpR h a h' a')) := by
  refine EvP_code rfl rfl ?_
  unfold cmpR
  have h1 := s_Compare a a'
  have h2 := s_Compare h.length h'.length
  have h3 := fun t => s_IDs h hl a t s hs
  have h4 := fun t => s_IDs h' hl' a' t s' hs'
  have h5 := fun t t' s s' h1 h2 => s_lex (h.map Hp.id) (h'.map Hp.id) (by simp; omega) (by simp; omega) t t' s s' h1 h2
  generalize cmpI a a' = c1 at *
  generalize cmpI h.length h'.length = c2 at *
  generalize lexI (h.map Hp.id) (h'.map Hp.id) = c3 at *
  have h6 := fun t => s_Or2 t c1 c2
  generalize orI [c1, c2] = c4 at *
  have h7 := fun t => s_Or2 t c4 c3
  generalize orI [c4, c3] = c5 at *
  repeat' (first
 | (refine I_WS ?_; first
 | refine W_lenM rfl rfl rfl ?_
 | (refine I_mov ?_; first
 | refine W_mov (v := .int _ _) rfl rfl rfl ?_)
 | (refine I_load ?_; first
 | refine W_load (agg := false) (d := .int _ _) rfl rfl rfl rfl (by first | exact Nat.zero_le _ | omega) rfl ?_
 | refine W_load (agg := false) (d := .slice _ _ _) rfl rfl rfl rfl (by first | exact Nat.zero_le _ | omega) rfl ?_
 | refine W_load (agg := true) (d := .agg [_, _]) rfl rfl rfl rfl (by first | exact Nat.zero_le _ | omega) rfl ?_)
 | (refine I_call ?_; first
 | refine W_call rfl rfl rfl h1 rfl rfl ?_
 | refine W_call rfl rfl rfl h2 rfl rfl ?_
 | refine W_call rfl rfl rfl (h6 _) rfl rfl ?_
 | refine W_call rfl rfl rfl (h7 _) rfl rfl ?_
 | (refine W_callN rfl rfl rfl (h3 _) rfl ?_; intro ta sa hsa hta)
 | (refine W_callN rfl rfl rfl (h4 _) rfl ?_; intro tb sb hsb htb)
 | refine W_call rfl rfl rfl (h5 _ _ _ _ hsa hsb) rfl rfl ?_)
 | (refine I_box ?_; first
 | refine W_boxA rfl rfl rfl rfl rfl ?_)
 | refine W_faddr rfl rfl rfl ?_
 | refine W_bslice (ys := [_, _]) rfl rfl rfl (by decide) rfl ?_
 | refine WS_nil ?_)
 | refine okF_intro (okFlags_onlyR rfl) ?_
 | refine WC_seq ?_
 | refine WC_opsS ?_
 | refine WC_drawS ?_
 | refine WC_ret ?_)
  exact fin_int (.inr rfl) rfl rfl
theorem cmpI_self (a : Int) : cmpI a a = 0 := by unfold cmpI; rw [if_neg (Int.lt_irrefl _), if_neg (Int.lt_irrefl _)]
theorem cmpR_l {h h' : List Hp} {a : Int} (e : h.length = h'.length) : cmpR h a h' a = lexI (h.map Hp.id) (h'.map Hp.id) := by
  unfold cmpR
  rw [cmpI_self, e, cmpI_self]
  simp only [orI, if_true]
  split
  · rename_i h0; rw [h0]
  · rfl
theorem lexI_anti : ∀ a b : List Int, lexI a b = - lexI b a
  | [], [] => rfl
  | [], _ :: _ => rfl
  | _ :: _, [] => rfl
  | a :: xs, b :: ys => by
    rw [lexI, lexI]
    by_cases h : a < b
    · rw [if_pos h, if_neg (by omega), if_pos h]
    · rw [if_neg h]
      by_cases h' : b < a
      · rw [if_pos h', if_pos h']; rfl
      · rw [if_neg h', if_neg h', if_neg h, lexI_anti xs ys]
end Go.Ord

/-
  A small case comes out right.
-/
namespace Go.Ord
open Go.Ev
set_option maxRecDepth 100000 in
theorem small_run : isT (callP Γ 400 12 []) = true := by decide +kernel
theorem s_small : EvP Γ 12 [] (.bool true) := EvP_of_run (isT_eq small_run)
end Go.Ord

/-
  The order is one.
-/
namespace Go.Ord
open Go.Ev
set_option linter.unusedVariables false
set_option linter.unusedSimpArgs false
theorem lexI_trans : ∀ a b c : List Int, (lexI a b ≤ 0 → lexI b c ≤ 0 → lexI a c ≤ 0) ∧ (lexI a b = 0 → lexI b c = lexI a c)
  | [], [], c => ⟨fun _ h => h, fun _ => rfl⟩
  | [], _ :: _, [] => ⟨fun _ h => by simp [lexI] at h, fun h => by simp [lexI] at h⟩
  | [], _ :: _, _ :: _ => ⟨fun _ _ => by simp [lexI], fun h => by simp [lexI] at h⟩
  | _ :: _, [], _ => ⟨fun h => by simp [lexI] at h, fun h => by simp [lexI] at h⟩
  | _ :: _, _ :: _, [] => ⟨fun _ h => by simp [lexI] at h, fun _ => rfl⟩
  | a :: xs, b :: ys, c :: zs => by
    obtain ⟨h1, h2⟩ := lexI_trans xs ys zs
    simp only [lexI]
    constructor
    · intro p q
      split at p <;> split at q <;> (repeat' split) <;> (repeat' split at p) <;> (repeat' split at q) <;> first | omega | exact h1 p q
    · intro p
      split at p
      · omega
      · split at p
        · omega
        · have : a = b := by omega
          subst this
          rw [h2 p]
theorem orI2 (x y : Int) : orI [x, y] = if x = 0 then y else x := by
  simp only [orI]
  split
  · split
    · rename_i h; exact h.symm
    · rfl
  · rfl
theorem cmpI_eq (a b : Int) : cmpI a b = if a < b then -1 else if b < a then 1 else 0 := rfl
/-- Which of two is ahead, by three measures. -/
theorem cmpR_eq (h : List Hp) (a : Int) (h' : List Hp) (a' : Int) : cmpR h a h' a' = if a < a' then -1 else if a' < a then 1 else if h.length < h'.length then -1 else if h'.length < h.length then 1 else lexI (h.map Hp.id) (h'.map Hp.id) := by
  unfold cmpR
  rw [orI2, orI2, cmpI_eq, cmpI_eq]
  by_cases h1 : a < a'
  · simp [h1]
  · by_cases h2 : a' < a
    · simp [h1, h2]
    · by_cases h3 : h.length < h'.length
      · simp [h1, h2, h3]
      · by_cases h4 : h'.length < h.length
        · simp [h1, h2, h3, h4]
        · simp [h1, h2, h3, h4]
theorem cmpR_anti (h : List Hp) (a : Int) (h' : List Hp) (a' : Int) : cmpR h a h' a' = - cmpR h' a' h a := by
  rw [cmpR_eq, cmpR_eq]
  have := lexI_anti (h.map Hp.id) (h'.map Hp.id)
  repeat' split
  all_goals omega
theorem cmpR_self (h : List Hp) (a : Int) : cmpR h a h a = 0 := by
  rw [cmpR_l rfl, lexI_refl]
theorem cmpR_trans (h : List Hp) (a : Int) (h' : List Hp) (a' : Int) (h'' : List Hp) (a'' : Int) : (cmpR h a h' a' ≤ 0 → cmpR h' a' h'' a'' ≤ 0 → cmpR h a h'' a'' ≤ 0) ∧ (cmpR h a h' a' = 0 → cmpR h' a' h'' a'' = cmpR h a h'' a'') := by
  rw [cmpR_eq, cmpR_eq, cmpR_eq]
  obtain ⟨h1, h2⟩ := lexI_trans (h.map Hp.id) (h'.map Hp.id) (h''.map Hp.id)
  generalize lexI (h.map Hp.id) (h'.map Hp.id) = x at *
  generalize lexI (h'.map Hp.id) (h''.map Hp.id) = y at *
  generalize lexI (h.map Hp.id) (h''.map Hp.id) = z at *
  constructor
  · intro p q
    repeat' split at p
    all_goals repeat' split at q
    all_goals repeat' split
    all_goals first | omega | exact h1 p q
  · intro p
    repeat' split at p
    all_goals repeat' split
    all_goals first | omega | exact h2 p
/-- A route. -/
structure Rt where
  hs : List Hp
  ar : Int
def Rt.e (r : Rt) : D := .agg [.slice .no 3 (r.hs.map Hp.e), .int .i64 r.ar]
end Go.Ord
