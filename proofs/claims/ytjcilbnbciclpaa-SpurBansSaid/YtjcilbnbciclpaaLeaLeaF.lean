/-
  Routes: their IDs, whether two are the same, which one is better.
-/
import Derived.Test.YtjcilbnbciclpaaLeaLeaP
import Derived.Test.YtjcilbnbciclpaaLeaEarX
import Derived.Test.YtjcilbnbciclpaaEvEvX11
import Derived.Test.YtjcilbnbciclpaaLeaLeaP
set_option linter.unusedVariables false
set_option linter.unusedSimpArgs false
set_option linter.unnecessarySimpa false
namespace Go.Lea
open Go.Ev
theorem int_ele (a : Int) : Elem 1 (D.int .i64 a) := ⟨rfl, rfl⟩
theorem int_mk (a : Int) : (D.int .i64 a).cells.length = 1 ∧ mkD (D.int .i64 a).cells = D.int .i64 a := ⟨rfl, rfl⟩
theorem hp_mid {l pre post : List Hp} {x : Hp} (h : l = pre ++ x :: post) : l[pre.length]? = some x := by rw [h]; simp
/-! ### IDs -/
set_option maxHeartbeats 2000000 in
theorem l_IDs (hs : List Hp) (hll : hs.length ≤ 1000000) (t : Tok) (s : Nat) (hsz : s = 3 ∨ hs = []) : ∀ (post pre : List Hp), hs = pre ++ post → ∀ (ρ : Nat → D) (st : Store) (d : D), st.lim ≤ 0 → OutG (D.int .i64) 1 st d (pre.map Hp.id) →
    ρ 2 = d → ρ 6 = .slice t s (hs.map Hp.e) → ρ 7 = .int .i64 hs.length → ρ 8 = .int .i64 pre.length → ∀ (Q : X → (Nat → D) → Store → Prop),
    (∀ ρ' st' d', OutG (D.int .i64) 1 st' d' (hs.map Hp.id) → ρ' 2 = d' → Q (.exit 0) ρ' st') → WC Γ (.loop c_path_IDs_l0) ρ st Q := by
  intro post
  induction post with
  | nil =>
    intro pre hpp ρ st d hlim hO h2 h6 h7 h8 Q hQ
    rw [List.append_nil] at hpp
    subst hpp
    rw [← upd_self h2, ← upd_self h6, ← upd_self h7, ← upd_self h8]
    refine WC_loop ?_
    repeat' (first
 | (refine I_WS ?_; first
 | (refine I_bin ?_; first
 | refine W_lssF rfl rfl rfl rfl (by omega) ?_)
 | refine WS_nil ?_)
 | refine WC_seq ?_
 | refine WC_opsS ?_
 | refine WC_condF rfl ?_
 | refine WC_exit ?_)
    exact hQ _ _ d hO rfl
  | cons x post ih =>
    intro pre hpp ρ st d hlim hO h2 h6 h7 h8 Q hQ
    have hv := hp_mid hpp
    have hlen : hs.length = pre.length + (post.length + 1) := by rw [hpp]; simp
    have hz : s = 3 := hsz.resolve_right (by rintro rfl; simp at hlen)
    subst hz
    have hpl : pre.length < (hs.map Hp.e).length := by simp; omega
    have hltl : (pre.length : Int) < hs.length := by omega
    have hbd : ((pre.map Hp.id).length + 1) * 8 ≤ 140737488355328 := by simp; omega
    have hlim2 : st.lim ≤ st.next := by omega
    have hnext : ∀ (ρ' : Nat → D) (st' : Store) (d' : D), st'.lim ≤ 0 → OutG (D.int .i64) 1 st' d' (pre.map Hp.id ++ [x.id]) → ρ' 2 = d' → ρ' 6 = .slice t 3 (hs.map Hp.e) → ρ' 7 = .int .i64 hs.length → ρ' 8 = .int .i64 ((pre.length : Int) + 1) → WC Γ (.loop c_path_IDs_l0) ρ' st' Q := fun ρ' st' d' e1 e2 k2 k6 k7 k8 =>
      ih (pre ++ [x]) (by simp [hpp]) ρ' st' d' e1 (by rw [List.map_append]; exact e2) k2 k6 k7 (by rw [List.length_append]; exact k8) Q hQ
    have hO2 : OutG (D.int .i64) 1 { st with boxes := upd (upd st.boxes st.next (some (.cells [.int .i64 0, .int .i64 0, .int .i64 0]))) st.next (some (.cells x.e.cells)), next := st.next + 1 } d (pre.map Hp.id) := by
      rcases hO with h | ⟨q, n, c, g1, g2, g3, g4, g5, cs, g6, g7⟩
      · exact .inl h
      · exact .inr ⟨q, n, c, g1, g2, g3, g4, Nat.lt_succ_of_lt g5, cs, (upd_ne _ _ (Nat.ne_of_lt g5)).trans ((upd_ne _ _ (Nat.ne_of_lt g5)).trans g6), g7⟩
    clear ih hQ
    rw [← upd_self h2, ← upd_self h6, ← upd_self h7, ← upd_self h8]
    refine WC_loop ?_
    repeat' (first
 | (refine I_WS ?_; first
 | refine W_iaddr (j := pre.length) rfl rfl rfl rfl rfl hpl ?_
 | refine W_store (cs' := [_, _, _]) rfl rfl (upd_same _ _ _) rfl hlim2 rfl rfl rfl ?_
 | refine W_mov (v := d1) rfl rfl rfl ?_
 | refine W_mov (v := d) rfl rfl rfl ?_
 | (refine W_appG (r := x.id) (by decide) int_ele rfl rfl rfl rfl hO2 hbd hlim ?_; intro st1 d1 a1 a2)
 | (refine I_mov ?_; first
 | refine W_mov (v := .int _ _) rfl rfl rfl ?_)
 | (refine I_bin ?_; first
 | refine W_lssT rfl rfl rfl rfl (by omega) ?_
 | refine W_add rfl rfl rfl rfl (by first | exact w64 (by omega) | rfl) ?_)
 | (refine I_load ?_; first
 | refine W_loadE (agg := true) (d := .agg [_, _, _]) rfl rfl rfl hv rfl ?_
 | refine W_load (agg := false) (d := .int _ _) rfl rfl rfl (bxc rfl) (by first | exact Nat.zero_le _ | assumption | exact Nat.le_trans hlim (Nat.zero_le _) | omega) rfl ?_)
 | refine W_faddr rfl rfl rfl ?_
 | refine W_alloc rfl rfl ?_
 | refine W_bslice (ys := [_]) rfl rfl rfl (by decide) rfl ?_
 | refine WS_nil ?_)
 | refine WC_seq ?_
 | refine WC_opsS ?_
 | refine WC_skip ?_
 | refine WC_condT rfl ?_
 | refine WC_block ?_)
    exact hnext _ st1 d1 a1 a2 rfl rfl rfl rfl
theorem s_IDs (hs : List Hp) (hll : hs.length ≤ 1000000) (a : Int) (t : Tok) (s : Nat) (hsz : s = 3 ∨ hs = []) : EvX Γ 17 [.agg [.slice t s (hs.map Hp.e), .int .i64 a]] (IsN (D.int .i64) 1 (hs.map Hp.id)) := by
  refine EvX_code rfl rfl ?_
  repeat' (first
 | (refine I_WS ?_; first
 | refine W_lenM rfl rfl rfl ?_
 | (refine I_mov ?_; first
 | refine W_mov (v := .int _ _) rfl rfl rfl ?_
 | refine W_mov (v := .slice _ _ _) rfl rfl rfl ?_)
 | (refine I_load ?_; first
 | refine W_load (agg := false) (d := .slice _ _ _) rfl rfl rfl rfl (by first | exact Nat.zero_le _ | omega) rfl ?_)
 | (refine I_box ?_; first
 | refine W_boxA rfl rfl rfl rfl rfl ?_)
 | refine W_faddr rfl rfl rfl ?_
 | refine WS_nil ?_)
 | refine WC_seq ?_
 | refine WC_opsS ?_
 | refine WC_block ?_)
  refine l_IDs hs hll t s hsz hs [] rfl _ _ (.slice .isnil 0 []) (Nat.le_refl _) (.inl ⟨rfl, rfl⟩) ?_ ?_ ?_ ?_ _ (fun ρ' st' d hO h2 => ?_)
  all_goals first | rfl | skip
  rw [← upd_self h2]
  repeat' (first
 | (refine I_WS ?_; first
 | refine W_mov (v := d) rfl rfl rfl ?_
 | refine WS_nil ?_)
 | refine WC_seq ?_
 | refine WC_opsS ?_
 | refine WC_ret ?_)
  exact finX_G (by decide) int_mk (.inr rfl) rfl hO
/-! ### The same -/
theorem eqAt3 (a b c a' b' c' : Int) : eqAt [.int .i64 a, .int .i64 b, .int .i64 c] [.int .i64 a', .int .i64 b', .int .i64 c'] [0, 1, 2] = some (decide (a = a' ∧ b = b' ∧ c = c')) := by
  simp [eqAt]
  by_cases h1 : a = a' <;> by_cases h2 : b = b' <;> by_cases h3 : c = c' <;> simp [h1, h2, h3]
theorem Hp.ext' {a b : Hp} : (a.id = b.id ∧ a.se = b.se ∧ a.ar = b.ar) ↔ a = b := by
  cases a
  cases b
  simp
theorem l_eqh (a b : List Hp) (hl : a.length ≤ 1073741824) (hab : a.length = b.length) (t t' : Tok) (sa sb : Nat) (ha : sa = 3 ∨ a = []) (hb : sb = 3 ∨ b = []) : ∀ (m i : Nat), a.length - i = m → i ≤ a.length → a.take i = b.take i →
    ∀ (ρ : Nat → D) (h0 : ρ 0 = .slice t sa (a.map Hp.e)) (h1 : ρ 1 = .slice t' sb (b.map Hp.e)) (h12 : ρ 12 = .int .i64 a.length) (h13 : ρ 13 = .int .i64 i) (Q : X → (Nat → D) → Store → Prop),
    (a = b → ∀ ρ', Q (.exit 0) ρ' Store.empty) → (a ≠ b → ∀ ρ', ρ' 4 = .bool false → Q .ret ρ' Store.empty) → WC Γ (.loop c_slices_Equal_Hop_l0) ρ Store.empty Q := by
  intro m
  induction m with
  | zero =>
    intro i hm hi he ρ h0 h1 h12 h13 Q hQ hQ2
    rw [← upd_self h0, ← upd_self h1, ← upd_self h12, ← upd_self h13]
    refine WC_loop ?_
    repeat' (first
 | (refine I_WS ?_; first
 | (refine I_bin ?_; first
 | refine W_lssF rfl rfl rfl rfl (by omega) ?_)
 | refine WS_nil ?_)
 | refine WC_seq ?_
 | refine WC_opsS ?_
 | refine WC_condF rfl ?_
 | refine WC_exit ?_)
    refine hQ ?_ _
    rw [List.take_of_length_le (by omega), List.take_of_length_le (by omega)] at he
    exact he
  | succ m ih =>
    intro i hm hi he ρ h0 h1 h12 h13 Q hQ hQ2
    rw [← upd_self h0, ← upd_self h1, ← upd_self h12, ← upd_self h13]
    obtain ⟨x, hx⟩ : ∃ v, a[i]? = some v := ⟨_, List.getElem?_eq_getElem (by omega)⟩
    obtain ⟨y, hy⟩ : ∃ v, b[i]? = some v := ⟨_, List.getElem?_eq_getElem (by omega)⟩
    have hz : sa = 3 := ha.resolve_right (by rintro rfl; simp at hx)
    have hz2 : sb = 3 := hb.resolve_right (by rintro rfl; simp at hy)
    subst hz hz2
    have hpa : i < (a.map Hp.e).length := by simp; omega
    have hpb : i < (b.map Hp.e).length := by simp; omega
    have hltl : (i : Int) < a.length := by omega
    refine WC_loop ?_
    repeat' (first
 | (refine I_WS ?_; first
 | refine W_iaddr (j := i) rfl rfl rfl rfl rfl hpa ?_
 | refine W_iaddr (j := i) rfl rfl rfl rfl rfl hpb ?_
 | (refine W_neqP rfl rfl rfl rfl rfl rfl (eqAt3 _ _ _ _ _ _) ?_ ?_ <;> intro)
 | (refine I_mov ?_; first
 | refine W_mov (v := .int _ _) rfl rfl rfl ?_
 | refine W_mov (v := .bool _) rfl rfl rfl ?_
 | refine W_mov (v := .slice _ _ _) rfl rfl rfl ?_)
 | (refine I_bin ?_; first
 | refine W_lssT rfl rfl rfl rfl (by omega) ?_
 | refine W_add rfl rfl rfl rfl (by first | exact w64 (by omega) | rfl) ?_)
 | (refine I_load ?_; first
 | refine W_loadE (agg := true) (d := .agg [_, _, _]) rfl rfl rfl hx rfl ?_
 | refine W_loadE (agg := true) (d := .agg [_, _, _]) rfl rfl rfl hy rfl ?_)
 | refine WS_nil ?_)
 | refine WC_seq ?_
 | refine WC_opsS ?_
 | refine WC_drawS ?_
 | refine WC_skip ?_
 | refine WC_condT rfl ?_
 | refine WC_condF rfl ?_
 | refine WC_block ?_
 | refine WC_ret ?_
 | refine okF_intro rfl ?_)
    · rename_i hq
      refine ih (i + 1) (by omega) (by omega) ?_ _ rfl rfl rfl rfl Q hQ hQ2
      rw [decide_eq_true_eq, Hp.ext'] at hq
      rw [List.take_add_one, List.take_add_one, he, hx, hy, hq]
    · rename_i hq
      refine hQ2 (fun hab => ?_) _ rfl
      rw [decide_eq_false_iff_not, Hp.ext'] at hq
      subst hab
      rw [hx] at hy
      exact hq (by cases hy; rfl)
theorem s_EqH (a b : List Hp) (hl : a.length ≤ 1073741824) (t t' : Tok) (sa sb : Nat) (ha : sa = 3 ∨ a = []) (hb : sb = 3 ∨ b = []) : EvP Γ 34 [.slice t sa (a.map Hp.e), .slice t' sb (b.map Hp.e)] (.bool (decide (a = b))) := by
  refine EvP_code rfl rfl ?_
  by_cases hab : a.length = b.length
  · have hab' : (a.length : Int) = b.length := by omega
    repeat' (first
 | (refine I_WS ?_; first
 | refine W_lenM rfl rfl rfl ?_
 | (refine I_mov ?_; first
 | refine W_mov (v := .int _ _) rfl rfl rfl ?_
 | refine W_mov (v := .bool _) rfl rfl rfl ?_
 | refine W_mov (v := .slice _ _ _) rfl rfl rfl ?_)
 | (refine I_bin ?_; first
 | refine W_neqF rfl rfl rfl rfl (by omega) ?_)
 | refine WS_nil ?_)
 | refine WC_seq ?_
 | refine WC_opsS ?_
 | refine WC_skip ?_
 | refine WC_condF rfl ?_
 | refine WC_block ?_)
    refine l_eqh a b hl hab t t' sa sb ha hb a.length 0 (by omega) (by omega) rfl _ ?_ ?_ ?_ ?_ _ (fun h ρ => ?_) (fun h ρ h4 => ?_)
    · rfl
    · rfl
    · rfl
    · rfl
    · rw [decide_eq_true h]
      repeat' (first
 | (refine I_WS ?_; first
 | (refine I_mov ?_; first
 | refine W_mov (v := .bool _) rfl rfl rfl ?_)
 | refine WS_nil ?_)
 | refine WC_seq ?_
 | refine WC_opsS ?_
 | refine WC_ret ?_)
      exact fin_bool (.inr rfl) rfl rfl
    · rw [decide_eq_false h, ← upd_self h4]
      exact fin_bool (.inr rfl) rfl rfl
  · have hab' : (a.length : Int) ≠ b.length := by omega
    rw [decide_eq_false (fun h => hab (by rw [h]))]
    repeat' (first
 | (refine I_WS ?_; first
 | refine W_lenM rfl rfl rfl ?_
 | (refine I_mov ?_; first
 | refine W_mov (v := .bool _) rfl rfl rfl ?_
 | refine W_mov (v := .slice _ _ _) rfl rfl rfl ?_)
 | (refine I_bin ?_; first
 | refine W_neqT rfl rfl rfl rfl (by omega) ?_)
 | refine WS_nil ?_)
 | refine WC_seq ?_
 | refine WC_opsS ?_
 | refine WC_condT rfl ?_
 | refine WC_ret ?_)
    exact fin_bool (.inr rfl) rfl rfl
theorem s_SameR (a b : List Hp) (x y : Int) (hl : a.length ≤ 1073741824) (t t' : Tok) (sa sb : Nat) (ha : sa = 3 ∨ a = []) (hb : sb = 3 ∨ b = []) : EvP Γ 18 [.agg [.slice t sa (a.map Hp.e), .int .i64 x], .agg [.slice t' sb (b.map Hp.e), .int .i64 y]] (.bool (decide (x = y ∧ a = b))) := by
  have h := fun t t' => s_EqH a b hl t t' sa sb ha hb
  refine EvP_code rfl rfl ?_
  by_cases hxy : x = y
  · rw [show decide (x = y ∧ a = b) = decide (a = b) by simp [hxy]]
    repeat' (first
 | (refine I_WS ?_; first
 | refine W_eqlT rfl rfl rfl rfl hxy ?_
 | (refine I_mov ?_; first
 | refine W_mov (v := .bool _) rfl rfl rfl ?_)
 | (refine I_load ?_; first
 | refine W_load (agg := false) (d := .int _ _) rfl rfl rfl rfl (by first | exact Nat.zero_le _ | omega) rfl ?_
 | refine W_load (agg := false) (d := .slice _ _ _) rfl rfl rfl rfl (by first | exact Nat.zero_le _ | omega) rfl ?_)
 | (refine I_call ?_; first
 | refine W_call rfl rfl rfl (h _ _) rfl rfl ?_)
 | (refine I_pick ?_; first
 | refine W_pick (v := .bool _) rfl rfl rfl rfl ?_)
 | (refine I_box ?_; first
 | refine W_boxA rfl rfl rfl rfl rfl ?_)
 | refine W_faddr rfl rfl rfl ?_
 | refine WS_nil ?_)
 | refine WC_seq ?_
 | refine WC_opsS ?_
 | refine WC_ret ?_)
    exact fin_bool (.inr rfl) rfl rfl
  · rw [decide_eq_false (fun h => hxy h.1)]
    repeat' (first
 | (refine I_WS ?_; first
 | refine W_eqlF rfl rfl rfl rfl hxy ?_
 | (refine I_mov ?_; first
 | refine W_mov (v := .bool _) rfl rfl rfl ?_)
 | (refine I_load ?_; first
 | refine W_skip rfl ?_
 | refine W_load (agg := false) (d := .int _ _) rfl rfl rfl rfl (by first | exact Nat.zero_le _ | omega) rfl ?_)
 | (refine I_call ?_; first
 | refine W_skip rfl ?_)
 | (refine I_pick ?_; first
 | refine W_pick (v := .bool _) rfl rfl rfl rfl ?_)
 | (refine I_box ?_; first
 | refine W_boxA rfl rfl rfl rfl rfl ?_)
 | refine W_faddr rfl rfl rfl ?_
 | refine W_skip rfl ?_
 | refine WS_nil ?_)
 | refine WC_seq ?_
 | refine WC_opsS ?_
 | refine WC_ret ?_)
    exact fin_bool (.inr rfl) rfl rfl
/-! ### Which one is better -/
theorem lexI_app : ∀ (p a b : List Int), lexI (p ++ a) (p ++ b) = lexI a b
  | [], a, b => rfl
  | x :: p, a, b => by rw [List.cons_append, List.cons_append, lexI, if_neg (Int.lt_irrefl _), if_neg (Int.lt_irrefl _), lexI_app p]
theorem l_lex (a b : List Int) (hla : a.length ≤ 1073741824) (hlb : b.length ≤ 1073741824) (t t' : Tok) (sa sb : Nat) (ha : sa = 1 ∨ a = []) (hb : sb = 1 ∨ b = []) : ∀ (post pre rest : List Int), a = pre ++ post → b = pre ++ rest → ∀ (ρ : Nat → D) (st : Store),
    ρ 0 = .slice t sa (a.map (D.int .i64)) → ρ 1 = .slice t' sb (b.map (D.int .i64)) → ρ 9 = .slice t sa (a.map (D.int .i64)) → ρ 10 = .int .i64 a.length → ρ 11 = .int .i64 pre.length → ∀ (Q : X → (Nat → D) → Store → Prop),
    (lexI a b = (if a.length < b.length then -1 else 0) → ∀ ρ', ρ' 0 = .slice t sa (a.map (D.int .i64)) → ρ' 1 = .slice t' sb (b.map (D.int .i64)) → Q (.exit 0) ρ' st) → (∀ ρ', ρ' 4 = .int .i64 (lexI a b) → Q .ret ρ' st) → WC Γ (.loop c_slices_Compare_int_l0) ρ st Q := by
  intro post
  induction post with
  | nil =>
    intro pre rest hpp hpr ρ st h0 h1 h9 h10 h11 Q hQ hQ2
    have hL : lexI a b = (if a.length < b.length then -1 else 0) := by
      rw [hpp, hpr, lexI_app]
      cases rest with
      | nil => simp [lexI]
      | cons y r => simp [lexI]
    rw [List.append_nil] at hpp
    subst hpp
    rw [← upd_self h0, ← upd_self h1, ← upd_self h9, ← upd_self h10, ← upd_self h11]
    refine WC_loop ?_
    repeat' (first
 | (refine I_WS ?_; first
 | (refine I_bin ?_; first
 | refine W_lssF rfl rfl rfl rfl (by omega) ?_)
 | refine WS_nil ?_)
 | refine WC_seq ?_
 | refine WC_opsS ?_
 | refine WC_condF rfl ?_
 | refine WC_exit ?_)
    exact hQ hL _ rfl rfl
  | cons x post ih =>
    intro pre rest hpp hpr ρ st h0 h1 h9 h10 h11 Q hQ hQ2
    have hv := in_mid hpp
    have hlen : a.length = pre.length + (post.length + 1) := by rw [hpp]; simp
    have hz : sa = 1 := ha.resolve_right (by rintro rfl; simp at hlen)
    subst hz
    have hpl : pre.length < (a.map (D.int .i64)).length := by simp; omega
    have hltl : (pre.length : Int) < a.length := by omega
    cases rest with
    | nil =>
      have hbl : (b.length : Int) ≤ pre.length := by rw [hpr]; simp
      have hL : lexI a b = 1 := by rw [hpp, hpr, lexI_app]; rfl
      rw [hL] at hQ2
      clear ih hQ hpp
      rw [← upd_self h0, ← upd_self h1, ← upd_self h9, ← upd_self h10, ← upd_self h11]
      refine WC_loop ?_
      repeat' (first
 | (refine I_WS ?_; first
 | refine W_lenM rfl rfl rfl ?_
 | refine W_iaddr (j := pre.length) rfl rfl rfl rfl rfl hpl ?_
 | (refine I_mov ?_; first
 | refine W_mov (v := .int _ _) rfl rfl rfl ?_
 | refine W_mov (v := .slice _ _ _) rfl rfl rfl ?_)
 | (refine I_bin ?_; first
 | refine W_lssT rfl rfl rfl rfl (by omega) ?_
 | refine W_geqT rfl rfl rfl rfl (by omega) ?_)
 | (refine I_load ?_; first
 | refine W_loadE (agg := false) (d := .int _ _) rfl rfl rfl hv rfl ?_)
 | refine WS_nil ?_)
 | refine WC_seq ?_
 | refine WC_opsS ?_
 | refine WC_skip ?_
 | refine WC_condT rfl ?_
 | refine WC_block ?_
 | refine WC_ret ?_)
      exact hQ2 _ rfl
    | cons y rest =>
      have hv2 := in_mid hpr
      have hlen2 : b.length = pre.length + (rest.length + 1) := by rw [hpr]; simp
      have hz : sb = 1 := hb.resolve_right (by rintro rfl; simp at hlen2)
      subst hz
      have hpl2 : pre.length < (b.map (D.int .i64)).length := by simp; omega
      have hltl2 : (pre.length : Int) < b.length := by omega
      have hC := s_Compare x y
      by_cases hxy : x = y
      · subst hxy
        have hc : cmpI x x = 0 := by unfold cmpI; rw [if_neg (by omega), if_neg (by omega)]
        rw [hc] at hC
        have hnext : ∀ (ρ' : Nat → D), ρ' 0 = .slice t 1 (a.map (D.int .i64)) → ρ' 1 = .slice t' 1 (b.map (D.int .i64)) → ρ' 9 = .slice t 1 (a.map (D.int .i64)) → ρ' 10 = .int .i64 a.length → ρ' 11 = .int .i64 ((pre.length : Int) + 1) → WC Γ (.loop c_slices_Compare_int_l0) ρ' st Q := fun ρ' k0 k1 k9 k10 k11 =>
          ih (pre ++ [x]) rest (by simp [hpp]) (by simp [hpr]) ρ' st k0 k1 k9 k10 (by rw [List.length_append]; exact k11) Q hQ hQ2
        clear ih hQ hQ2 hpp hpr
        rw [← upd_self h0, ← upd_self h1, ← upd_self h9, ← upd_self h10, ← upd_self h11]
        refine WC_loop ?_
        repeat' (first
 | (refine I_WS ?_; first
 | refine W_lenM rfl rfl rfl ?_
 | refine W_iaddr (j := pre.length) rfl rfl rfl rfl rfl hpl ?_
 | refine W_iaddr (j := pre.length) rfl rfl rfl rfl rfl hpl2 ?_
 | (refine I_mov ?_; first
 | refine W_mov (v := .int _ _) rfl rfl rfl ?_
 | refine W_mov (v := .slice _ _ _) rfl rfl rfl ?_)
 | (refine I_bin ?_; first
 | refine W_lssT rfl rfl rfl rfl (by omega) ?_
 | refine W_geqF rfl rfl rfl rfl (by omega) ?_
 | refine W_neqF rfl rfl rfl rfl (by omega) ?_
 | refine W_add rfl rfl rfl rfl (by first | exact w64 (by omega) | rfl) ?_)
 | (refine I_load ?_; first
 | refine W_loadE (agg := false) (d := .int _ _) rfl rfl rfl hv rfl ?_
 | refine W_loadE (agg := false) (d := .int _ _) rfl rfl rfl hv2 rfl ?_)
 | (refine I_call ?_; first
 | refine W_call rfl rfl rfl hC rfl rfl ?_)
 | refine WS_nil ?_)
 | refine WC_seq ?_
 | refine WC_opsS ?_
 | refine WC_skip ?_
 | refine WC_condT rfl ?_
 | refine WC_condF rfl ?_
 | refine WC_block ?_)
        refine hnext _ ?_ ?_ ?_ ?_ ?_ <;> rfl
      · have hL : lexI a b = cmpI x y := by
          rw [hpp, hpr, lexI_app, lexI]
          unfold cmpI
          by_cases h : x < y
          · rw [if_pos h, if_pos h]
          · rw [if_neg h, if_neg h, if_pos (by omega), if_pos (by omega)]
        have hne : ¬ cmpI x y = 0 := by
          unfold cmpI
          by_cases h : x < y
          · rw [if_pos h]; omega
          · rw [if_neg h, if_pos (by omega)]; omega
        rw [hL] at hQ2
        generalize cmpI x y = c at *
        clear ih hQ hpp hpr
        rw [← upd_self h0, ← upd_self h1, ← upd_self h9, ← upd_self h10, ← upd_self h11]
        refine WC_loop ?_
        repeat' (first
 | (refine I_WS ?_; first
 | refine W_lenM rfl rfl rfl ?_
 | refine W_iaddr (j := pre.length) rfl rfl rfl rfl rfl hpl ?_
 | refine W_iaddr (j := pre.length) rfl rfl rfl rfl rfl hpl2 ?_
 | refine W_neqT rfl rfl rfl rfl hne ?_
 | (refine I_mov ?_; first
 | refine W_mov (v := .int _ _) rfl rfl rfl ?_
 | refine W_mov (v := .slice _ _ _) rfl rfl rfl ?_)
 | (refine I_bin ?_; first
 | refine W_lssT rfl rfl rfl rfl (by omega) ?_
 | refine W_geqF rfl rfl rfl rfl (by omega) ?_)
 | (refine I_load ?_; first
 | refine W_loadE (agg := false) (d := .int _ _) rfl rfl rfl hv rfl ?_
 | refine W_loadE (agg := false) (d := .int _ _) rfl rfl rfl hv2 rfl ?_)
 | (refine I_call ?_; first
 | refine W_call rfl rfl rfl hC rfl rfl ?_)
 | refine WS_nil ?_)
 | refine WC_seq ?_
 | refine WC_opsS ?_
 | refine WC_skip ?_
 | refine WC_condT rfl ?_
 | refine WC_condF rfl ?_
 | refine WC_block ?_
 | refine WC_ret ?_)
        exact hQ2 _ rfl
theorem s_lex (a b : List Int) (hla : a.length ≤ 1073741824) (hlb : b.length ≤ 1073741824) (t t' : Tok) (sa sb : Nat) (ha : sa = 1 ∨ a = []) (hb : sb = 1 ∨ b = []) : EvP Γ 37 [.slice t sa (a.map (D.int .i64)), .slice t' sb (b.map (D.int .i64))] (.int .i64 (lexI a b)) := by
  refine EvP_code rfl rfl ?_
  repeat' (first
 | (refine I_WS ?_; first
 | refine W_lenM rfl rfl rfl ?_
 | (refine I_mov ?_; first
 | refine W_mov (v := .int _ _) rfl rfl rfl ?_
 | refine W_mov (v := .slice _ _ _) rfl rfl rfl ?_)
 | refine WS_nil ?_)
 | refine WC_seq ?_
 | refine WC_opsS ?_
 | refine WC_block ?_)
  refine l_lex a b hla hlb t t' sa sb ha hb a [] b rfl rfl _ _ ?_ ?_ ?_ ?_ ?_ _ (fun hL ρ' h0 h1 => ?_) (fun ρ' h4 => ?_)
  all_goals first | rfl | skip
  · rw [← upd_self h0, ← upd_self h1, hL]
    by_cases h : a.length < b.length
    · rw [if_pos h]
      have h' : (a.length : Int) < b.length := by omega
      repeat' (first
 | (refine I_WS ?_; first
 | refine W_lenM rfl rfl rfl ?_
 | (refine I_mov ?_; first
 | refine W_mov (v := .int _ _) rfl rfl rfl ?_
 | refine W_mov (v := .slice _ _ _) rfl rfl rfl ?_)
 | (refine I_bin ?_; first
 | refine W_lssT rfl rfl rfl rfl (by omega) ?_)
 | refine WS_nil ?_)
 | refine WC_seq ?_
 | refine WC_opsS ?_
 | refine WC_condT rfl ?_
 | refine WC_ret ?_)
      exact fin_int (.inr rfl) rfl rfl
    · rw [if_neg h]
      have h' : (b.length : Int) ≤ a.length := by omega
      repeat' (first
 | (refine I_WS ?_; first
 | refine W_lenM rfl rfl rfl ?_
 | (refine I_mov ?_; first
 | refine W_mov (v := .int _ _) rfl rfl rfl ?_
 | refine W_mov (v := .slice _ _ _) rfl rfl rfl ?_)
 | (refine I_bin ?_; first
 | refine W_lssF rfl rfl rfl rfl (by omega) ?_)
 | refine WS_nil ?_)
 | refine WC_seq ?_
 | refine WC_opsS ?_
 | refine WC_skip ?_
 | refine WC_condF rfl ?_
 | refine WC_ret ?_)
      exact fin_int (.inr rfl) rfl rfl
  · rw [← upd_self h4]
    exact fin_int (.inr rfl) rfl rfl
def cmpR (h : List Hp) (a : Int) (h' : List Hp) (a' : Int) : Int := orI [orI [cmpI a a', cmpI h.length h'.length], lexI (h.map Hp.id) (h'.map Hp.id)]
set_option maxHeartbeats 2000000 in
theorem s_CompareR (h : List Hp) (a : Int) (h' : List Hp) (a' : Int) (hl : h.length ≤ 1000000) (hl' : h'.length ≤ 1000000) (t t' : Tok) (s s' : Nat) (hs : s = 3 ∨ h = []) (hs' : s' = 3 ∨ h' = []) : EvP Γ 19 [.agg [.slice t s (h.map Hp.e), .int .i64 a], .agg [.slice t' s' (h'.map Hp.e), .int .i64 a']] (.int .i64 (cmpR h a h' a')) := by
  refine EvP_code rfl rfl ?_
  unfold cmpR
  have h1 := s_Compare a a'
  have h2 := s_Compare h.length h'.length
  have h3 := fun t => s_IDs h hl a t s hs
  have h4 := fun t => s_IDs h' hl' a' t s' hs'
  have h5 := fun t t' s s' h1 h2 => s_lex (h.map Hp.id) (h'.map Hp.id) (by simp; omega) (by simp; omega) t t' s s' h1 h2
  generalize cmpI a a' = c1 at *
  generalize cmpI h.length h'.length = c2 at *
  generalize lexI (h.map Hp.id) (h'.map Hp.id) = c3 at *
  have h6 := fun t => s_Or2 t c1 c2
  generalize orI [c1, c2] = c4 at *
  have h7 := fun t => s_Or2 t c4 c3
  generalize orI [c4, c3] = c5 at *
  repeat' (first
 | (refine I_WS ?_; first
 | refine W_lenM rfl rfl rfl ?_
 | (refine I_mov ?_; first
 | refine W_mov (v := .int _ _) rfl rfl rfl ?_)
 | (refine I_load ?_; first
 | refine W_load (agg := false) (d := .int _ _) rfl rfl rfl rfl (by first | exact Nat.zero_le _ | omega) rfl ?_
 | refine W_load (agg := false) (d := .slice _ _ _) rfl rfl rfl rfl (by first | exact Nat.zero_le _ | omega) rfl ?_
 | refine W_load (agg := true) (d := .agg [_, _]) rfl rfl rfl rfl (by first | exact Nat.zero_le _ | omega) rfl ?_)
 | (refine I_call ?_; first
 | refine W_call rfl rfl rfl h1 rfl rfl ?_
 | refine W_call rfl rfl rfl h2 rfl rfl ?_
 | refine W_call rfl rfl rfl (h6 _) rfl rfl ?_
 | refine W_call rfl rfl rfl (h7 _) rfl rfl ?_
 | (refine W_callN rfl rfl rfl (h3 _) rfl ?_; intro ta sa hsa hta)
 | (refine W_callN rfl rfl rfl (h4 _) rfl ?_; intro tb sb hsb htb)
 | refine W_call rfl rfl rfl (h5 _ _ _ _ hsa hsb) rfl rfl ?_)
 | (refine I_box ?_; first
 | refine W_boxA rfl rfl rfl rfl rfl ?_)
 | refine W_faddr rfl rfl rfl ?_
 | refine W_bslice (ys := [_, _]) rfl rfl rfl (by decide) rfl ?_
 | refine WS_nil ?_)
 | refine okF_intro (okFlags_onlyR rfl) ?_
 | refine WC_seq ?_
 | refine WC_opsS ?_
 | refine WC_drawS ?_
 | refine WC_ret ?_)
  exact fin_int (.inr rfl) rfl rfl
end Go.Lea
/-
  The nodes that are passed.
-/
namespace Go.Lea
open Go.Ev
theorem l_ends (m : List Eg) (hml : m.length ≤ 1073741824) (t : Tok) (s : Nat) (hs : s = 8 ∨ m = []) : ∀ (post pre : List Eg), m = pre ++ post → ∀ (ρ : Nat → D) (st : Store) (out : List Int) (tk : Tok) (so : Nat), out.length ≤ pre.length + 1 → st.lim ≤ st.next → st.tlim ≤ st.ntok → AppOK st 1 tk so (out.map (D.int .i64)) →
    ρ 10 = .slice tk so (out.map (D.int .i64)) → ρ 29 = .slice t s (m.map Eg.e) → ρ 30 = .int .i64 m.length → ρ 31 = .int .i64 pre.length → ∀ (Q : X → (Nat → D) → Store → Prop),
    (∀ ρ' st' tk' so', AppOK st' 1 tk' so' ((out ++ post.map Eg.to).map (D.int .i64)) → ρ' 10 = .slice tk' so' ((out ++ post.map Eg.to).map (D.int .i64)) → Q (.exit 0) ρ' st') → WC Γ (.loop c_path_Ends_l0) ρ st Q := by
  intro post
  induction post with
  | nil =>
    intro pre hpp ρ st out tk so hol hlim htl hO h10 h29 h30 h31 Q hQ
    rw [List.append_nil] at hpp
    subst hpp
    rw [← upd_self h10, ← upd_self h29, ← upd_self h30, ← upd_self h31]
    refine WC_loop ?_
    repeat' (first
 | (refine I_WS ?_; first
 | (refine I_bin ?_; first
 | refine W_lssF rfl rfl rfl rfl (by omega) ?_)
 | refine WS_nil ?_)
 | refine WC_seq ?_
 | refine WC_opsS ?_
 | refine WC_condF rfl ?_
 | refine WC_exit ?_)
    exact hQ _ _ tk so (by simpa using hO) (by rw [List.map_nil, List.append_nil]; rfl)
  | cons e post ih =>
    intro pre hpp ρ st out tk so hol hlim htl hO h10 h29 h30 h31 Q hQ
    have hv := eg_mid hpp
    have hlen : m.length = pre.length + (post.length + 1) := by rw [hpp]; simp
    have hz : s = 8 := hs.resolve_right (by rintro rfl; simp at hlen)
    subst hz
    have hpl : pre.length < (m.map Eg.e).length := by simp; omega
    have hltl : (pre.length : Int) < m.length := by omega
    have hbd : ((out.map (D.int .i64)).length + [D.int .i64 e.to].length) * 8 ≤ 140737488355328 := by simp; omega
    have hnext : ∀ (ρ' : Nat → D) (st' : Store) (tk' : Tok) (so' : Nat), st'.lim ≤ st'.next → st'.tlim ≤ st'.ntok → AppOK st' 1 tk' so' ((out ++ [e.to]).map (D.int .i64)) → ρ' 10 = .slice tk' so' ((out ++ [e.to]).map (D.int .i64)) → ρ' 29 = .slice t 8 (m.map Eg.e) → ρ' 30 = .int .i64 m.length → ρ' 31 = .int .i64 ((pre.length : Int) + 1) → WC Γ (.loop c_path_Ends_l0) ρ' st' Q := fun ρ' st' tk' so' e1 e2 e3 k10 k29 k30 k31 =>
      ih (pre ++ [e]) (by simp [hpp]) ρ' st' _ tk' so' (by simp; omega) e1 e2 e3 k10 k29 k30 (by rw [List.length_append]; exact k31) Q
        (fun ρ'' st'' tk'' so'' f1 f2 => hQ ρ'' st'' tk'' so'' (by simpa using f1) (by rw [f2]; simp))
    clear ih hQ
    rw [← upd_self h10, ← upd_self h29, ← upd_self h30, ← upd_self h31]
    refine WC_loop ?_
    repeat' (first
 | (refine I_WS ?_; first
 | refine W_iaddr (j := pre.length) rfl rfl rfl rfl rfl hpl ?_
 | refine W_store (cs' := [_, _, _, _, _, _, _, _]) rfl rfl (upd_same _ _ _) rfl hlim rfl rfl rfl ?_
 | (refine W_app rfl rfl rfl hO (.inl rfl) hbd htl rfl ?_ <;> intro k' st' c1 c2 c3 c4 c5 c6 c7)
 | (refine I_mov ?_; first
 | refine W_mov (v := .int _ _) rfl rfl rfl ?_
 | refine W_mov (v := .slice _ _ _) rfl rfl rfl ?_)
 | (refine I_bin ?_; first
 | refine W_lssT rfl rfl rfl rfl (by omega) ?_
 | refine W_add rfl rfl rfl rfl (by first | exact w64 (by omega) | rfl) ?_)
 | (refine I_load ?_; first
 | refine W_loadE (agg := true) (d := .agg [_, _, _, _, _, _, _, _]) rfl rfl rfl hv rfl ?_
 | refine W_load (agg := false) (d := .int _ _) rfl rfl rfl (bxc rfl) (by first | exact Nat.zero_le _ | assumption | exact Nat.le_trans hlim (Nat.zero_le _) | omega) rfl ?_)
 | refine W_faddr rfl rfl rfl ?_
 | refine W_alloc rfl rfl ?_
 | refine W_bslice (ys := [_]) rfl rfl rfl (by decide) rfl ?_
 | refine WS_nil ?_)
 | refine WC_seq ?_
 | refine WC_opsS ?_
 | refine WC_skip ?_
 | refine WC_condT rfl ?_
 | refine WC_block ?_)
    refine hnext _ _ (.own k') 1 ?_ c5 (.inr ⟨k', rfl, c6, c7, rfl⟩) ?_ ?_ ?_ ?_
    · rw [c3, c2]; exact Nat.le_succ_of_le hlim
    all_goals first | rfl | (rw [List.map_append]; rfl)
theorem s_Ends1 (l : List Eg) (hll : l.length ≤ 1073741824) (ids : List Int) (hil : ids.length ≤ 1073741824) (fr : Int) (ha : AskC l fr 0 0) (m : List Eg) (hm : stepsM l ids fr = some m) (t : Tok) (s : Nat) (hs : s = 8 ∨ l = []) (t' : Tok) (s' : Nat) (hs' : s' = 1 ∨ ids = []) :
    EvX Γ 16 [.slice t s (l.map Eg.e), .slice t' s' (ids.map (D.int .i64)), .int .i64 fr] (Go.Ev.IsT (D.int .i64) 1 (fr :: m.map Eg.to) [.bool true]) := by
  refine EvX_code rfl rfl ?_
  have hml := steps_len l ids fr m hm
  have hS := fun t t' => s_steps1 l hll ids hil fr m hm t s hs t' s' hs'
  have hA := fun t => s_pasked l hll fr 0 0 t s hs
  rw [decide_eq_true ha] at hA
  repeat' (first
 | (refine I_WS ?_; first
 | refine W_lenM rfl rfl rfl ?_
 | (refine I_mov ?_; first
 | refine W_mov (v := .int _ _) rfl rfl rfl ?_
 | refine W_mov (v := .bool _) rfl rfl rfl ?_
 | refine W_mov (v := .slice _ _ _) rfl rfl rfl ?_
 | refine W_mov (v := .tuple _) rfl rfl rfl ?_)
 | (refine I_call ?_; first
 | refine W_call rfl rfl rfl (hA _) rfl rfl ?_
 | (refine W_callT rfl rfl rfl (hS _ _) rfl ?_; intro tm sm hsm tk2 nt2))
 | (refine I_extract ?_; first
 | refine W_extract (d := .bool _) rfl rfl rfl rfl ?_
 | refine W_extract (d := .slice _ _ _) rfl rfl rfl rfl ?_)
 | refine W_not rfl rfl rfl ?_
 | refine W_bslice (ys := [_]) rfl rfl rfl (by decide) rfl ?_
 | refine WS_nil ?_)
 | refine WC_seq ?_
 | refine WC_opsS ?_
 | refine WC_skip ?_
 | refine WC_condF rfl ?_
 | refine WC_block ?_)
  refine l_ends m (by omega) tm sm hsm m [] rfl _ { Store.empty with toks := tk2, ntok := nt2 } [fr] .exact 1 (by simp) (Nat.le_refl _) (Nat.zero_le _) (.inl ⟨.inr rfl, .inl rfl⟩) ?_ ?_ ?_ ?_ _ (fun ρ' st' tk so hO h10 => ?_)
  all_goals first | rfl | skip
  rw [← upd_self h10]
  repeat' (first
 | (refine I_WS ?_; first
 | (refine I_mov ?_; first
 | refine W_mov (v := .bool _) rfl rfl rfl ?_
 | refine W_mov (v := .slice _ _ _) rfl rfl rfl ?_)
 | refine WS_nil ?_)
 | refine WC_seq ?_
 | refine WC_opsS ?_
 | refine WC_ret ?_)
  have hso : so = 1 ∨ (fr :: m.map Eg.to) = [] := by
    rcases hO with ⟨_, h | ⟨_, h⟩⟩ | ⟨_, _, _, _, h⟩
    · exact .inl h
    · simp at h
    · exact .inl h
  exact finX_T (us := [.bool true]) (.inr rfl) rfl rfl hso rfl rfl
theorem s_Ends0 (l : List Eg) (hll : l.length ≤ 1073741824) (ids : List Int) (hil : ids.length ≤ 1073741824) (fr : Int) (h : ¬ AskC l fr 0 0 ∨ stepsM l ids fr = none) (t : Tok) (s : Nat) (hs : s = 8 ∨ l = []) (t' : Tok) (s' : Nat) (hs' : s' = 1 ∨ ids = []) :
    EvP Γ 16 [.slice t s (l.map Eg.e), .slice t' s' (ids.map (D.int .i64)), .int .i64 fr] (.tuple [.slice .isnil 0 [], .bool false]) := by
  refine EvP_code rfl rfl ?_
  have hA := fun t => s_pasked l hll fr 0 0 t s hs
  by_cases ha : AskC l fr 0 0
  · have hm := h.resolve_left (fun h => h ha)
    have hS := fun t t' => s_steps0 l hll ids hil fr hm t s hs t' s' hs'
    rw [decide_eq_true ha] at hA
    repeat' (first
 | (refine I_WS ?_; first
 | (refine I_mov ?_; first
 | refine W_mov (v := .int _ _) rfl rfl rfl ?_
 | refine W_mov (v := .bool _) rfl rfl rfl ?_
 | refine W_mov (v := .slice _ _ _) rfl rfl rfl ?_
 | refine W_mov (v := .tuple _) rfl rfl rfl ?_)
 | (refine I_call ?_; first
 | refine W_call rfl rfl rfl (hA _) rfl rfl ?_
 | refine W_call rfl rfl rfl (hS _ _) rfl rfl ?_)
 | (refine I_extract ?_; first
 | refine W_extract (d := .bool _) rfl rfl rfl rfl ?_
 | refine W_extract (d := .slice _ _ _) rfl rfl rfl rfl ?_)
 | refine W_not rfl rfl rfl ?_
 | refine WS_nil ?_)
 | refine WC_seq ?_
 | refine WC_opsS ?_
 | refine WC_skip ?_
 | refine WC_condT rfl ?_
 | refine WC_condF rfl ?_
 | refine WC_ret ?_)
    exact ⟨.inr rfl, rfl⟩
  · rw [decide_eq_false ha] at hA
    repeat' (first
 | (refine I_WS ?_; first
 | (refine I_mov ?_; first
 | refine W_mov (v := .int _ _) rfl rfl rfl ?_
 | refine W_mov (v := .bool _) rfl rfl rfl ?_
 | refine W_mov (v := .slice _ _ _) rfl rfl rfl ?_)
 | (refine I_call ?_; first
 | refine W_call rfl rfl rfl (hA _) rfl rfl ?_)
 | refine W_not rfl rfl rfl ?_
 | refine WS_nil ?_)
 | refine WC_seq ?_
 | refine WC_opsS ?_
 | refine WC_condT rfl ?_
 | refine WC_ret ?_)
    exact ⟨.inr rfl, rfl⟩
theorem lastE_mem {id : Int} : ∀ {l : List Eg} {e : Eg}, lastE id l = some e → e ∈ l := fun {l} => by
  have key : ∀ (l : List Eg) (o : Option Eg) (e : Eg), l.foldl (fun o x => if id = x.id then some x else o) o = some e → e ∈ l ∨ o = some e := by
    intro l
    induction l with
    | nil => intro o e h; exact .inr h
    | cons x l ih =>
      intro o e h
      rw [List.foldl_cons] at h
      rcases ih _ e h with h | h
      · exact .inl (List.mem_cons_of_mem _ h)
      · split at h
        · cases h; exact .inl List.mem_cons_self
        · exact .inr h
  intro e h
  rcases key l none e h with h | h
  · exact h
  · cases h
end Go.Lea
/-
  The best route is the best one.
-/
namespace Go.Lea
variable {l : List Eg} {fr to now by' sz : Int} {shut : List Int}
theorem reach_way {n t : Int} (h : Reach (psz sz) (clS shut) l fr now n t) : ∃ es, Way sz l fr now es n t ∧ ∀ e ∈ es, e.to ∉ shut := by
  induction h with
  | here => exact ⟨[], .nil, by simp⟩
  | go hr he hf hp hc ih =>
    obtain ⟨es, h1, h2⟩ := ih
    obtain ⟨h3, rfl⟩ := psz_some.1 hp
    refine ⟨es ++ [_], h1.trans (.cons he hf h3 .nil), fun e h => ?_⟩
    rcases List.mem_append.1 h with h | h
    · exact h2 e h
    · rw [List.mem_singleton.1 h]
      simpa [clS] using hc
theorem way_cut {n t m u : Int} {es : List Eg} (h : Way sz l n t es m u) : ∃ es' u', Way sz l n t es' m u' ∧ u' ≤ u ∧ (∀ e ∈ es', e ∈ es) ∧ ∀ e ∈ es', e.fr ≠ m := by
  induction h with
  | nil => exact ⟨[], _, .nil, Int.le_refl _, by simp, by simp⟩
  | cons he hf hp h ih =>
    rename_i n t m u e es
    by_cases hn : n = m
    · subst hn
      exact ⟨[], t, .nil, (Way.cons he hf hp h).ge, by simp, by simp⟩
    · obtain ⟨es', u', h1, h2, h3, h4⟩ := ih
      refine ⟨e :: es', u', .cons he hf hp h1, h2, fun e' h => ?_, fun e' h => ?_⟩
      · rcases List.mem_cons.1 h with rfl | h
        · exact List.mem_cons_self
        · exact List.mem_cons_of_mem _ (h3 e' h)
      · rcases List.mem_cons.1 h with rfl | h
        · rw [hf]; exact hn
        · exact h4 e' h
theorem way_end {n t m u : Int} {es : List Eg} (h : Way sz l n t es m u) : m ∈ nodesW n es := by
  induction h with
  | nil => simp [nodesW]
  | cons he hf hp h ih =>
    rename_i n t m u e es
    exact List.mem_cons_of_mem _ ih
theorem way_nd {n t m u : Int} {es : List Eg} (h : Way sz l n t es m u) (hn : (nodesW n es).Nodup) : ∀ e ∈ es, e.fr ≠ m := by
  induction h with
  | nil => simp
  | cons he hf hp h ih =>
    rename_i n t m u e es
    have hn' := List.nodup_cons.1 hn
    intro e' he'
    rcases List.mem_cons.1 he' with rfl | he'
    · rw [hf]
      rintro rfl
      exact hn'.1 (way_end h)
    · exact ih hn'.2 e' he'
structure BestR (l : List Eg) (fr to now sz by' : Int) (shut : List Int) (es : List Eg) (a : Int) : Prop where
  at_ : atN to (timesM l fr now sz shut) = some a
  le : a ≤ by'
  way : Way sz l fr now es to a
  nd : (nodesW fr es).Nodup
  op : ∀ e ∈ es, e.to ∉ shut
  few : fewM l fr to now a sz shut = some es.length
  best : ∀ es' u', Way sz l fr now es' to u' → (nodesW fr es').Nodup → (∀ e ∈ es', e.to ∉ shut) → a < u' ∨ (a = u' ∧ (es.length < es'.length ∨ (es.length = es'.length ∧ (es = es' ∨ lexI (es.map Eg.id) (es'.map Eg.id) = -1))))
theorem few_want {n : Nat} (h : fewF to sz shut l fr now (l.length + 1) 0 [⟨to, by'⟩] = some n) : Want l to by' sz shut n fr now := by
  obtain ⟨_, h2, h3, h4⟩ := few_some _ _ _ h
  exact ⟨h3, h4⟩
theorem ask_to {a : Int} (h : atN to (timesM l fr now sz shut) = some a) : AskC l fr now sz ∧ AskC l to a sz := by
  have ha := times_mem (atN_some h)
  have hr := (times_isT ha shut).t1 _ (atN_some h)
  have h0 : now ≤ a := reach_ge hr
  exact ⟨ha, reach_node ha.1 hr, ha.2.1, ⟨by have := ha.2.2.1.1; omega, reach_top ha.2.2.1.2 hr⟩, ha.2.2.2⟩
theorem best_some {es : List Eg} {a : Int} (h : bestM l fr to now sz by' shut = some (es, a)) : BestR l fr to now sz by' shut es a := by
  unfold bestM at h
  split at h
  · cases h
  · rename_i a' h1
    split at h
    · cases h
    · rename_i hle
      split at h
      · cases h
      · rename_i n hn
        obtain ⟨ha, hb⟩ := ask_to h1
        have hn' := hn
        unfold fewM at hn'
        rw [if_pos ⟨ha, hb⟩] at hn'
        have hw := few_want hn'
        obtain ⟨es', g1, g2, g3⟩ := go_best hb n ha.2.2.1.1 hw
        rw [g1] at h
        cases h
        obtain ⟨u, hway, hu⟩ := g2.way
        have hT := times_isT ha shut
        have hr := hT.t1 _ (atN_some h1)
        have hop : ∀ e ∈ es, e.to ∉ shut := fun e he => by
          rcases g2.op e he with h2 | h2
          · rw [h2]
            rcases reach_cl hr with h3 | h3
            · -- to is where it begins: there is no hop
              exfalso
              have h3 : to = fr := h3
              have hnd := way_nd hway g2.nd
              cases hway with
              | nil => cases he
              | cons _ hf _ _ => exact hnd _ List.mem_cons_self (by rw [hf, h3])
            · simpa [clS] using h3
          · exact h2
        have hau : a = u := by
          obtain ⟨v, h2, h3⟩ := hT.at_ (hway.reach hop .here)
          rw [h1] at h2
          cases h2
          omega
        refine ⟨h1, by omega, by subst hau; exact hway, g2.nd, hop, by rw [g2.len]; exact hn, fun es' u' hw' hnd' hop' => ?_⟩
        have hau' : a ≤ u' := by
          obtain ⟨v, h2, h3⟩ := hT.at_ (hw'.reach hop' .here)
          rw [h1] at h2
          cases h2
          exact h3
        rcases Int.lt_or_eq_of_le hau' with h2 | h2
        · exact .inl h2
        · refine .inr ⟨h2, ?_⟩
          subst h2
          have hnd2 := way_nd hw' hnd'
          have hl := hw'.late rfl (Int.le_refl _) hb.2.2.1.2 hnd2 (fun e h => .inr (hop' e h))
          have hnl : n ≤ es'.length := by
            rcases Nat.lt_or_ge es'.length n with h3 | h3
            · rw [hw.2 _ h3] at hl; cases hl
            · exact h3
          rw [g2.len]
          rcases Nat.lt_or_eq_of_le hnl with h3 | h3
          · exact .inl h3
          · exact .inr ⟨h3, g2.best ha.2.2.2 es' a hw' (Int.le_refl _) h3.symm hnd2 (fun e h => .inr (hop' e h))⟩
theorem best_ex (ha : AskC l fr now sz) {es' : List Eg} {u' : Int} (hw : Way sz l fr now es' to u') (hop : ∀ e ∈ es', e.to ∉ shut) (hu : u' ≤ by') : ∃ es a, bestM l fr to now sz by' shut = some (es, a) := by
  have hT := times_isT ha shut
  obtain ⟨a, h1, h2⟩ := hT.at_ (hw.reach hop .here)
  obtain ⟨_, hb⟩ := ask_to h1
  unfold bestM
  rw [h1]
  simp only
  rw [if_neg (by omega)]
  obtain ⟨es1, h3, h4⟩ := reach_way (hT.t1 _ (atN_some h1))
  obtain ⟨es2, u2, h5, h6, h7, h8⟩ := way_cut h3
  have hl := h5.late rfl h6 hb.2.2.1.2 h8 (fun e h => .inr (h4 e (h7 e h)))
  have hfull := iter_full (to := to) (sz := sz) (shut := shut) (l := l) hb.2.2.1.2 es2.length
  obtain ⟨c, c1, c2⟩ := has_iff.1 hl
  obtain ⟨d, d1, d2⟩ := hfull _ _ c1
  cases hf : fewM l fr to now a sz shut with
  | none =>
    exfalso
    unfold fewM at hf
    rw [if_pos ⟨ha, hb⟩] at hf
    have := few_none _ _ _ hf l.length (by omega)
    rw [has_iff.2 ⟨d, d1, by have : now ≤ c := c2; omega⟩] at this
    cases this
  | some n =>
    have hn := hf
    unfold fewM at hn
    rw [if_pos ⟨ha, hb⟩] at hn
    obtain ⟨es, g1, _⟩ := go_best hb n ha.2.2.1.1 (few_want hn)
    exact ⟨es, a, by simp only [g1]; rfl⟩
theorem best_iff : (bestM l fr to now sz by' shut).isSome = (match atN to (timesM l fr now sz shut) with | some a => decide (a ≤ by') | none => false) := by
  cases h : atN to (timesM l fr now sz shut) with
  | none => unfold bestM; rw [h]; rfl
  | some a =>
    obtain ⟨ha, hb⟩ := ask_to h
    by_cases hle : a ≤ by'
    · obtain ⟨es, h1, h2⟩ := reach_way ((times_isT ha shut).t1 _ (atN_some h))
      obtain ⟨es', a', h3⟩ := best_ex ha h1 h2 hle
      rw [h3]
      simp [hle]
    · unfold bestM
      rw [h]
      simp [hle]
end Go.Lea
/-
  A route by IDs.
-/
namespace Go.Lea
open Go.Ev
/-! ### Plain -/
def hopsW (sz : Int) : List Eg → Int → List Hp
  | [], _ => []
  | e :: r, t => hop1 e t sz :: hopsW sz r (thereE e t sz)
def lastA (now : Int) (h : List Hp) : Int := h.foldl (fun _ x => x.ar) now
theorem hopsW_len (sz : Int) : ∀ (es : List Eg) (t : Int), (hopsW sz es t).length = es.length
  | [], _ => rfl
  | e :: r, t => by simp [hopsW, hopsW_len sz r]
theorem hopsW_ids (sz : Int) : ∀ (es : List Eg) (t : Int), (hopsW sz es t).map Hp.id = es.map Eg.id
  | [], _ => rfl
  | e :: r, t => by simp [hopsW, hopsW_ids sz r, hop1]
theorem lastE_id {id : Int} : ∀ {l : List Eg} {e : Eg}, lastE id l = some e → id = e.id := fun {l} => by
  have key : ∀ (l : List Eg) (o : Option Eg) (e : Eg), (∀ x, o = some x → id = x.id) → l.foldl (fun o x => if id = x.id then some x else o) o = some e → id = e.id := by
    intro l
    induction l with
    | nil => intro o e ho h; exact ho e h
    | cons x l ih =>
      intro o e ho h
      rw [List.foldl_cons] at h
      refine ih _ e (fun y hy => ?_) h
      split at hy
      · cases hy; assumption
      · exact ho y hy
  exact fun {e} h => key l none e (fun x h => by cases h) h
theorem lastE_of {l : List Eg} (hl : RL l) {e : Eg} (he : e ∈ l) : lastE e.id l = some e := by
  have key : ∀ (m : List Eg) (o : Option Eg), (∀ x ∈ m, e.id = x.id → x = e) → (o = some e ∨ e ∈ m) → m.foldl (fun o x => if e.id = x.id then some x else o) o = some e := by
    intro m
    induction m with
    | nil => intro o hu ho; exact ho.resolve_right (by simp)
    | cons x m ih =>
      intro o hu ho
      rw [List.foldl_cons]
      refine ih _ (fun y hy => hu y (List.mem_cons_of_mem _ hy)) ?_
      by_cases hx : e.id = x.id
      · rw [if_pos hx, hu x List.mem_cons_self hx]; exact .inl rfl
      · rw [if_neg hx]
        rcases ho with h | h
        · exact .inl h
        · rcases List.mem_cons.1 h with rfl | h
          · exact absurd rfl hx
          · exact .inr h
  exact key l none (fun x hx h => (id_inj hl hx he h.symm)) (.inr he)
def Chain (l : List Eg) : Int → List Eg → Int → Prop
  | n, [], m => n = m
  | n, e :: es, m => e ∈ l ∧ e.fr = n ∧ Chain l e.to es m
theorem steps_chain {l : List Eg} : ∀ {ids : List Int} {n : Int} {es : List Eg}, stepsM l ids n = some es → es.map Eg.id = ids ∧ ∃ m, Chain l n es m
  | [], n, es, h => by cases h; exact ⟨rfl, n, rfl⟩
  | id :: ids, n, es, h => by
    simp only [stepsM] at h
    split at h
    · rename_i e hl
      split at h
      · rename_i hf
        obtain ⟨es', h1, rfl⟩ := Option.map_eq_some_iff.mp h
        obtain ⟨h2, m, h3⟩ := steps_chain h1
        exact ⟨by rw [List.map_cons, h2, ← lastE_id hl], m, lastE_mem hl, hf, h3⟩
      · cases h
    · cases h
theorem chain_steps {l : List Eg} (hl : RL l) : ∀ {es : List Eg} {n m : Int}, Chain l n es m → stepsM l (es.map Eg.id) n = some es
  | [], n, m, h => rfl
  | e :: es, n, m, h => by
    obtain ⟨h1, h2, h3⟩ := h
    rw [List.map_cons, stepsM, lastE_of hl h1]
    simp only
    rw [if_pos h2, chain_steps hl h3]; rfl
theorem Way.chain {sz : Int} {l : List Eg} {n t m u : Int} {es : List Eg} (h : Way sz l n t es m u) : Chain l n es m := by
  induction h with
  | nil => rfl
  | cons he hf hp h ih => exact ⟨he, hf, ih⟩
theorem Way.hops {sz : Int} {l : List Eg} {n t m u : Int} {es : List Eg} (h : Way sz l n t es m u) : hopsM sz es t = some (hopsW sz es t) ∧ lastA t (hopsW sz es t) = u := by
  induction h with
  | nil => exact ⟨rfl, rfl⟩
  | cons he hf hp h ih =>
    rename_i n t m u e es
    refine ⟨by simp only [hopsM, if_pos hp, ih.1, hopsW, Option.map_some], ?_⟩
    simp only [hopsW, lastA, List.foldl_cons] at ih ⊢
    exact ih.2
theorem hops_way {sz : Int} {l : List Eg} : ∀ {es : List Eg} {n m t : Int} {h : List Hp}, Chain l n es m → hopsM sz es t = some h → ∃ u, Way sz l n t es m u ∧ h = hopsW sz es t
  | [], n, m, t, h, hc, hh => by
    cases hh
    have hc : n = m := hc
    subst hc
    exact ⟨t, .nil, rfl⟩
  | e :: es, n, m, t, h, hc, hh => by
    simp only [hopsM] at hh
    split at hh
    · rename_i hp
      obtain ⟨h', h1, rfl⟩ := Option.map_eq_some_iff.mp hh
      obtain ⟨c1, c2, c3⟩ := hc
      obtain ⟨u, h2, h3⟩ := hops_way c3 h1
      exact ⟨u, .cons c1 c2 hp h2, by rw [h3]; rfl⟩
    · cases hh
theorem chain_end {l : List Eg} : ∀ {es : List Eg} {n m : Int}, Chain l n es m → (nodesW n es)[(nodesW n es).length - 1]? = some m
  | [], n, m, h => by
    have h : n = m := h
    subst h; rfl
  | e :: es, n, m, h => by
    have := chain_end h.2.2
    simp [nodesW] at this ⊢
    exact this
structure IsRoute (l : List Eg) (fr to now sz : Int) (es : List Eg) (u : Int) : Prop where
  ask : AskC l fr now sz
  way : Way sz l fr now es to u
  nd : (nodesW fr es).Nodup
theorem walk_way {l : List Eg} {ids : List Int} {fr now sz : Int} {h : List Hp} : walkM l ids fr now sz = some h ↔ AskC l fr now sz ∧ ∃ es m u, stepsM l ids fr = some es ∧ es.map Eg.id = ids ∧ Way sz l fr now es m u ∧ h = hopsW sz es now := by
  unfold walkM
  by_cases ha : AskC l fr now sz
  · rw [if_pos ha]
    constructor
    · intro hh
      obtain ⟨es, h1, h2⟩ := Option.bind_eq_some_iff.mp hh
      obtain ⟨h3, m, h4⟩ := steps_chain h1
      obtain ⟨u, h5, h6⟩ := hops_way h4 h2
      exact ⟨ha, es, m, u, h1, h3, h5, h6⟩
    · rintro ⟨_, es, m, u, h1, h3, h5, rfl⟩
      rw [h1, Option.bind_some]
      exact h5.hops.1
  · rw [if_neg ha]
    simp [ha]
theorem IsRoute.last {l : List Eg} {fr to now sz : Int} {es : List Eg} {u : Int} (h : IsRoute l fr to now sz es u) : lastA now (hopsW sz es now) = u := h.way.hops.2
theorem nd_len {l : List Eg} {fr to now sz : Int} {es : List Eg} {u : Int} (h : IsRoute l fr to now sz es u) : es.length ≤ l.length := by
  have hn : es.Nodup := by
    have h1 : (es.map Eg.to).Nodup := (List.nodup_cons.1 h.nd).2
    exact (List.pairwise_map.1 h1).imp fun {a b} hab e => hab (by rw [e])
  exact nd_le hn h.way.mem
/-! ### The code -/
theorem KVC.set {kv : List (Int × D)} {pre : List Int} (h : KVC kv (clS pre)) (x : Int) : KVC (kvSet x (.bool true) kv) (clS (pre ++ [x])) := fun n => by
  rw [kvGet_set]
  by_cases e : n = x
  · rw [if_pos e]; simp [clS, e]
  · rw [if_neg e, h n]; simp [clS, e]
end Go.Lea
/-
  A route by IDs, as the code finds it; the next hop.
-/
namespace Go.Lea
open Go.Ev
theorem res_A {ρ : Nat → D} {st : Store} {i j q : Nat} {a b d : D} (h1 : ρ i = .ptr q 0) (h2 : st.boxes q = some (.cells [a, b])) (h3 : st.lim ≤ q) (h4 : ρ j = d) : resAll ρ st [.cell i true 2, .tmp j] = some (.tuple [.agg [a, b], d]) := by
  simp [resAll, resD, h1, h4, Store.cellsAt, h2, Box.cs, Nat.not_lt.2 h3, cut]
theorem fin_A0 {ρ : Nat → D} {st : Store} {i j q : Nat} (h1 : ρ i = .ptr q 0) (h2 : st.boxes q = some (.cells [.slice .isnil 0 [], .int .i64 0])) (h3 : st.lim ≤ q) (h4 : ρ j = .bool false) : (X.ret = .normal ∨ X.ret = .ret) ∧ (resAll ρ st [.cell i true 2, .tmp j]).bind (finP st) = some (.tuple [.agg [.slice .isnil 0 [], .int .i64 0], .bool false]) := ⟨.inr rfl, by rw [res_A h1 h2 h3 h4]; rfl⟩
theorem last_ne {a : List Int} (h : a ≠ []) : a.length - 1 < a.length := by
  have := List.length_pos_iff.2 h
  omega
end Go.Lea
/-
  The next hop of the best route.
-/
namespace Go.Lea
open Go.Ev
theorem s_At1 (n : Int) (l : List Rd) (hll : l.length ≤ 1073741824) (u : Int) (hu : atN n l = some u) (t : Tok) (sz : Nat) (hs : sz = 2 ∨ l = []) : EvP Γ2 20 [.slice t sz (l.map Rd.e), .int .i64 n] (.tuple [.int .i64 u, .bool true]) := by
  have h := s_At n l hll t sz hs
  rw [hu] at h
  exact h.grow hx2
theorem s_At0 (n : Int) (l : List Rd) (hll : l.length ≤ 1073741824) (hu : atN n l = none) (t : Tok) (sz : Nat) (hs : sz = 2 ∨ l = []) : EvP Γ2 20 [.slice t sz (l.map Rd.e), .int .i64 n] (.tuple [.int .i64 0, .bool false]) := by
  have h := s_At n l hll t sz hs
  rw [hu] at h
  exact h.grow hx2
theorem at_any (n : Int) (l : List Rd) (hll : l.length ≤ 1073741824) (sz : Nat) (hs : sz = 2 ∨ l = []) : ∃ v b, ∀ t, EvP Γ2 20 [.slice t sz (l.map Rd.e), .int .i64 n] (.tuple [.int .i64 v, .bool b]) := by
  cases h : atN n l with
  | none => exact ⟨_, _, fun t => s_At0 n l hll h t sz hs⟩
  | some u => exact ⟨_, _, fun t => s_At1 n l hll u h t sz hs⟩
def nextD (t sz : Int) : Option Eg → D
  | some e => .tuple [.agg [.int .i64 e.id, .int .i64 (mx t e.op), .int .i64 (thereE e t sz)], .int .i64 e.to, .bool true]
  | none => .tuple [.agg [.int .i64 0, .int .i64 0, .int .i64 0], .int .i64 0, .bool false]
theorem fin_N {ρ : Nat → D} {st : Store} {X0 : X} {i j k q : Nat} {a b c n : Int} {o : Bool} {r : D} (hx : X0 = .normal ∨ X0 = .ret) (h1 : ρ i = .ptr q 0) (h2 : st.boxes q = some (.cells [.int .i64 a, .int .i64 b, .int .i64 c])) (h3 : st.lim ≤ q) (h4 : ρ j = .int .i64 n) (h5 : ρ k = .bool o) (hr : r = .tuple [.agg [.int .i64 a, .int .i64 b, .int .i64 c], .int .i64 n, .bool o]) : (X0 = .normal ∨ X0 = .ret) ∧ (resAll ρ st [.cell i true 3, .tmp j, .tmp k]).bind (finP st) = some r := by
  subst hr
  refine ⟨hx, ?_⟩
  have : resAll ρ st [.cell i true 3, .tmp j, .tmp k] = some (.tuple [.agg [.int .i64 a, .int .i64 b, .int .i64 c], .int .i64 n, .bool o]) := by
    simp [resAll, resD, h1, h4, h5, Store.cellsAt, h2, Box.cs, Nat.not_lt.2 h3, cut]
  rw [this]
  rfl
set_option maxHeartbeats 16000000 in
theorem l_next (to sz by' : Int) (shut : List Int) (hsl : shut.length ≤ 1000000) (node now : Int) (L : List Rd) (hLl : L.length ≤ 1000000) (E : D) (te tl t' : Tok) (se sl s' : Nat) (hs' : s' = 1 ∨ shut = []) (hsl' : sl = 2 ∨ L = []) (es : List Eg) (hel : es.length ≤ 1000000) (hse : se = 8 ∨ es = []) : ∀ (post pre : List Eg), es = pre ++ post → ∀ (ρ : Nat → D) (st : Store), st.lim ≤ 0 → 2 ≤ st.next → st.boxes 0 = some (.cells [E, .int .i64 to, .int .i64 sz, .int .i64 by', .slice t' s' (shut.map (D.int .i64))]) → st.boxes 1 = some (.cells [.int .i64 0, .int .i64 0, .int .i64 0]) →
    ρ 2 = .int .i64 now → ρ 4 = .ptr 0 0 → ρ 8 = .ptr 1 0 → ρ 11 = .slice tl sl (L.map Rd.e) → ρ 34 = .slice te se (es.map Eg.e) → ρ 35 = .int .i64 es.length → ρ 36 = .int .i64 pre.length → ∀ (Q : X → (Nat → D) → Store → Prop),
    (post.find? (okN to sz shut L now) = none → ∀ ρ' st', st'.lim = st.lim → st'.boxes 1 = some (.cells [.int .i64 0, .int .i64 0, .int .i64 0]) → ρ' 8 = .ptr 1 0 → Q (.exit 0) ρ' st') → (∀ e, post.find? (okN to sz shut L now) = some e → ∀ ρ' st', st'.lim = st.lim → st'.boxes 1 = some (.cells [.int .i64 e.id, .int .i64 (mx now e.op), .int .i64 (thereE e now sz)]) → ρ' 8 = .ptr 1 0 → ρ' 9 = .int .i64 e.to → ρ' 10 = .bool true → Q .ret ρ' st') → WC Γ2 (.loop c_least_search_next_l0) ρ st Q := by
  intro post
  induction post with
  | nil =>
    intro pre hpp ρ st hlim hnx hb0 hb1 h2 h4 h8 h11 h34 h35 h36 Q hQ hQ2
    rw [List.append_nil] at hpp
    subst hpp
    rw [← upd_self h2, ← upd_self h4, ← upd_self h8, ← upd_self h11, ← upd_self h34, ← upd_self h35, ← upd_self h36]
    refine WC_loop ?_
    repeat' (first
 | (refine I_WS ?_; first
 | (refine I_bin ?_; first
 | refine W_lssF rfl rfl rfl rfl (by omega) ?_)
 | refine WS_nil ?_)
 | refine WC_seq ?_
 | refine WC_opsS ?_
 | refine WC_condF rfl ?_
 | refine WC_exit ?_)
    exact hQ rfl _ _ rfl hb1 rfl
  | cons e post ih =>
    intro pre hpp ρ st hlim hnx hb0 hb1 h2 h4 h8 h11 h34 h35 h36 Q hQ hQ2
    have hv := eg_mid hpp
    have hlen : es.length = pre.length + (post.length + 1) := by rw [hpp]; simp
    have hz : se = 8 := hse.resolve_right (by rintro rfl; simp at hlen)
    subst hz
    have hpl : pre.length < (es.map Eg.e).length := by simp; omega
    have hltl : (pre.length : Int) < es.length := by omega
    have hlim2 : st.lim ≤ st.next := by omega
    have hlim0 : st.lim ≤ 0 := hlim
    have hlim1 : st.lim ≤ 1 := by omega
    have hn0 : 0 ≠ st.next := by omega
    have hn1 : 1 ≠ st.next := by omega
    have q0 : ∀ {x y : Option Box}, ((upd (upd st.boxes st.next x) st.next y) 0).bind Box.cs = some [E, .int .i64 to, .int .i64 sz, .int .i64 by', .slice t' s' (shut.map (D.int .i64))] := fun {x y} => by rw [upd_ne _ _ hn0, upd_ne _ _ hn0, hb0]; rfl
    have q0' : ∀ {x y : Option Box}, upd (upd st.boxes st.next x) st.next y 0 = some (.cells [E, .int .i64 to, .int .i64 sz, .int .i64 by', .slice t' s' (shut.map (D.int .i64))]) := fun {x y} => (upd_ne _ _ hn0).trans ((upd_ne _ _ hn0).trans hb0)
    have q1' : ∀ {x y : Option Box}, upd (upd st.boxes st.next x) st.next y 1 = some (.cells [.int .i64 0, .int .i64 0, .int .i64 0]) := fun {x y} => (upd_ne _ _ hn1).trans ((upd_ne _ _ hn1).trans hb1)
    have q1 : ∀ {x : Option Box}, ((upd (upd st.boxes st.next x) st.next (some (Box.cells e.e.cells))) st.next).bind Box.cs = some e.e.cells := fun {x} => by rw [upd_same]; rfl
    have hN1 : (st.next == 1) = false := by simp; omega
    have hN2 : (1 == st.next) = false := by simp; omega
    have hnext : okN to sz shut L now e = false → ∀ (ρ' : Nat → D) (st' : Store), st'.lim = st.lim → st.next ≤ st'.next → st'.boxes 0 = some (.cells [E, .int .i64 to, .int .i64 sz, .int .i64 by', .slice t' s' (shut.map (D.int .i64))]) → st'.boxes 1 = some (.cells [.int .i64 0, .int .i64 0, .int .i64 0]) → ρ' 2 = .int .i64 now → ρ' 4 = .ptr 0 0 → ρ' 8 = .ptr 1 0 → ρ' 11 = .slice tl sl (L.map Rd.e) → ρ' 34 = .slice te 8 (es.map Eg.e) → ρ' 35 = .int .i64 es.length → ρ' 36 = .int .i64 ((pre.length : Int) + 1) → WC Γ2 (.loop c_least_search_next_l0) ρ' st' Q := fun ho ρ' st' e1 e2 e3 e4 k2 k4 k8 k11 k34 k35 k36 =>
      ih (pre ++ [e]) (by simp [hpp]) ρ' st' (by omega) (by omega) e3 e4 k2 k4 k8 k11 k34 k35 (by rw [List.length_append]; exact k36) Q
        (fun h ρ'' st'' f1 => hQ (by rw [List.find?_cons, ho]; exact h) ρ'' st'' (f1.trans e1)) (fun x h ρ'' st'' f1 => hQ2 x (by rw [List.find?_cons, ho]; exact h) ρ'' st'' (f1.trans e1))
    have hgo : okN to sz shut L now e = true → ∀ ρ' st', st'.lim = st.lim → st'.boxes 1 = some (.cells [.int .i64 e.id, .int .i64 (mx now e.op), .int .i64 (thereE e now sz)]) → ρ' 8 = .ptr 1 0 → ρ' 9 = .int .i64 e.to → ρ' 10 = .bool true → Q .ret ρ' st' := fun ho => hQ2 e (by rw [List.find?_cons, ho])
    have hP := (s_Pass e now sz).grow hx2
    unfold passT at hP
    have hC := fun t => (s_Contains e.to shut (by omega) t s' hs').grow hx2
    obtain ⟨v1, b1, hAny⟩ := at_any e.to L (by omega) sl hsl'
    clear ih hQ hQ2 hpp
    rw [← upd_self h2, ← upd_self h4, ← upd_self h8, ← upd_self h11, ← upd_self h34, ← upd_self h35, ← upd_self h36]
    refine WC_loop ?_
    by_cases hc : passC e now sz
    · rw [if_pos hc] at hP
      cases ha : atN e.to L with
      | none =>
        have ho : okN to sz shut L now e = false := by unfold okN; rw [ha]
        have hA := fun t => s_At0 e.to L (by omega) ha t sl hsl'
        have hnext := hnext ho
        clear hgo
        repeat' (first
 | (refine I_WS ?_; first
 | refine W_iaddr (j := pre.length) rfl rfl rfl rfl rfl hpl ?_
 | refine W_store (cs' := [_, _, _, _, _, _, _, _]) rfl rfl (upd_same _ _ _) rfl hlim2 rfl rfl rfl ?_
 | (refine I_mov ?_; first
 | refine W_skip rfl ?_
 | refine W_mov (v := .int _ _) rfl rfl rfl ?_
 | refine W_mov (v := .bool _) rfl rfl rfl ?_
 | refine W_mov (v := .slice _ _ _) rfl rfl rfl ?_
 | refine W_mov (v := .tuple _) rfl rfl rfl ?_)
 | (refine I_bin ?_; first
 | refine W_skip rfl ?_
 | refine W_lssT rfl rfl rfl rfl (by omega) ?_
 | refine W_add rfl rfl rfl rfl (by first | exact w64 (by omega) | rfl) ?_)
 | (refine I_load ?_; first
 | refine W_skip rfl ?_
 | refine W_loadE (agg := true) (d := .agg [_, _, _, _, _, _, _, _]) rfl rfl rfl hv rfl ?_
 | refine W_load (agg := true) (d := .agg [_, _, _, _, _, _, _, _]) rfl rfl rfl q1 hlim2 rfl ?_
 | refine W_load (agg := false) (d := .int _ _) rfl rfl rfl q1 hlim2 rfl ?_
 | refine W_load (agg := false) (d := .int _ _) rfl rfl rfl q0 hlim0 rfl ?_)
 | (refine I_call ?_; first
 | refine W_skip rfl ?_
 | refine W_call rfl rfl rfl hP rfl rfl ?_
 | refine W_call rfl rfl rfl (hA _) rfl rfl ?_)
 | (refine I_pick ?_; first
 | refine W_pick (v := .bool _) rfl rfl rfl rfl ?_
 | refine W_skip rfl ?_)
 | (refine I_extract ?_; first
 | refine W_extract (d := .int _ _) rfl rfl rfl rfl ?_
 | refine W_extract (d := .bool _) rfl rfl rfl rfl ?_)
 | refine W_faddr rfl rfl rfl ?_
 | refine W_alloc rfl rfl ?_
 | refine W_skip rfl ?_
 | refine WS_nil ?_)
 | refine WC_seq ?_
 | refine WC_opsS ?_
 | refine WC_skip ?_
 | refine WC_condT rfl ?_
 | refine WC_condF rfl ?_
 | refine WC_block ?_)
        refine hnext _ _ rfl (Nat.le_succ _) q0' q1' ?_ ?_ ?_ ?_ ?_ ?_ ?_ <;> rfl
      | some b =>
        have hA := fun t => s_At1 e.to L (by omega) b ha t sl hsl'
        by_cases hle : thereE e now sz ≤ b
        · by_cases hto : e.to = to
          · have hgo := hgo (okN_iff.2 ⟨b, ha, hc, hle, .inl hto⟩)
            clear hnext
            generalize thereE e now sz = th at *
            generalize mx now e.op = sd at *
            repeat' (first
 | (refine I_WS ?_; first
 | refine W_iaddr (j := pre.length) rfl rfl rfl rfl rfl hpl ?_
 | refine W_store (cs' := [_, _, _, _, _, _, _, _]) rfl rfl (upd_same _ _ _) rfl hlim2 rfl rfl rfl ?_
 | refine W_leqT rfl rfl rfl rfl hle ?_
 | refine W_eqlT rfl rfl rfl rfl hto ?_
 | refine W_store (cs' := [_, _, _]) rfl rfl q1' rfl hlim1 rfl rfl rfl ?_
 | (refine I_mov ?_; first
 | refine W_mov (v := .int _ _) rfl rfl rfl ?_
 | refine W_mov (v := .bool _) rfl rfl rfl ?_
 | refine W_mov (v := .slice _ _ _) rfl rfl rfl ?_
 | refine W_mov (v := .tuple _) rfl rfl rfl ?_)
 | (refine I_bin ?_; first
 | refine W_lssT rfl rfl rfl rfl (by omega) ?_)
 | (refine I_load ?_; first
 | refine W_skip rfl ?_
 | refine W_loadE (agg := true) (d := .agg [_, _, _, _, _, _, _, _]) rfl rfl rfl hv rfl ?_
 | refine W_load (agg := true) (d := .agg [_, _, _, _, _, _, _, _]) rfl rfl rfl q1 hlim2 rfl ?_
 | refine W_load (agg := false) (d := .int _ _) rfl rfl rfl q1 hlim2 rfl ?_
 | refine W_load (agg := false) (d := .int _ _) rfl rfl rfl q0 hlim0 rfl ?_)
 | (refine I_call ?_; first
 | refine W_skip rfl ?_
 | refine W_call rfl rfl rfl hP rfl rfl ?_
 | refine W_call rfl rfl rfl (hA _) rfl rfl ?_)
 | (refine I_pick ?_; first
 | refine W_pick (v := .bool _) rfl rfl rfl rfl ?_)
 | (refine I_extract ?_; first
 | refine W_extract (d := .int _ _) rfl rfl rfl rfl ?_
 | refine W_extract (d := .bool _) rfl rfl rfl rfl ?_)
 | (refine I_build ?_; first
 | refine W_build (cs := [_, _, _]) rfl rfl rfl ?_)
 | refine W_faddr rfl rfl rfl ?_
 | refine W_alloc rfl rfl ?_
 | refine W_skip rfl ?_
 | refine WS_nil ?_)
 | refine okF_intro (by simp [okFlags, List.range, List.range.loop, Fl.clash, hN1, hN2]) ?_
 | refine WC_seq ?_
 | refine WC_opsS ?_
 | refine WC_drawS ?_
 | refine WC_skip ?_
 | refine WC_condT rfl ?_
 | refine WC_block ?_
 | refine WC_ret ?_)
            refine hgo _ _ rfl rfl ?_ ?_ ?_ <;> rfl
          · by_cases hin : e.to ∈ shut
            · have ho : okN to sz shut L now e = false := by
                cases h : okN to sz shut L now e with
                | false => rfl
                | true =>
                  obtain ⟨_, _, _, _, h | h⟩ := okN_iff.1 h
                  · exact absurd h hto
                  · exact absurd hin h
              have hnext := hnext ho
              rw [decide_eq_true hin] at hC
              clear hgo
              repeat' (first
 | (refine I_WS ?_; first
 | refine W_iaddr (j := pre.length) rfl rfl rfl rfl rfl hpl ?_
 | refine W_store (cs' := [_, _, _, _, _, _, _, _]) rfl rfl (upd_same _ _ _) rfl hlim2 rfl rfl rfl ?_
 | refine W_leqT rfl rfl rfl rfl hle ?_
 | refine W_eqlF rfl rfl rfl rfl hto ?_
 | (refine I_mov ?_; first
 | refine W_mov (v := .int _ _) rfl rfl rfl ?_
 | refine W_mov (v := .bool _) rfl rfl rfl ?_
 | refine W_mov (v := .slice _ _ _) rfl rfl rfl ?_
 | refine W_mov (v := .tuple _) rfl rfl rfl ?_)
 | (refine I_bin ?_; first
 | refine W_lssT rfl rfl rfl rfl (by omega) ?_
 | refine W_add rfl rfl rfl rfl (by first | exact w64 (by omega) | rfl) ?_)
 | (refine I_load ?_; first
 | refine W_loadE (agg := true) (d := .agg [_, _, _, _, _, _, _, _]) rfl rfl rfl hv rfl ?_
 | refine W_load (agg := true) (d := .agg [_, _, _, _, _, _, _, _]) rfl rfl rfl q1 hlim2 rfl ?_
 | refine W_load (agg := false) (d := .int _ _) rfl rfl rfl q1 hlim2 rfl ?_
 | refine W_load (agg := false) (d := .int _ _) rfl rfl rfl q0 hlim0 rfl ?_
 | refine W_load (agg := false) (d := .slice _ _ _) rfl rfl rfl q0 hlim0 rfl ?_)
 | (refine I_call ?_; first
 | refine W_call rfl rfl rfl (hC _) rfl rfl ?_
 | refine W_call rfl rfl rfl hP rfl rfl ?_
 | refine W_call rfl rfl rfl (hA _) rfl rfl ?_)
 | (refine I_pick ?_; first
 | refine W_pick (v := .bool _) rfl rfl rfl rfl ?_)
 | (refine I_extract ?_; first
 | refine W_extract (d := .int _ _) rfl rfl rfl rfl ?_
 | refine W_extract (d := .bool _) rfl rfl rfl rfl ?_)
 | refine W_not rfl rfl rfl ?_
 | refine W_faddr rfl rfl rfl ?_
 | refine W_alloc rfl rfl ?_
 | refine WS_nil ?_)
 | refine WC_seq ?_
 | refine WC_opsS ?_
 | refine WC_skip ?_
 | refine WC_condT rfl ?_
 | refine WC_condF rfl ?_
 | refine WC_block ?_)
              refine hnext _ _ rfl (Nat.le_succ _) q0' q1' ?_ ?_ ?_ ?_ ?_ ?_ ?_ <;> rfl
            · have hgo := hgo (okN_iff.2 ⟨b, ha, hc, hle, .inr hin⟩)
              rw [decide_eq_false hin] at hC
              clear hnext
              generalize thereE e now sz = th at *
              generalize mx now e.op = sd at *
              repeat' (first
 | (refine I_WS ?_; first
 | refine W_iaddr (j := pre.length) rfl rfl rfl rfl rfl hpl ?_
 | refine W_store (cs' := [_, _, _, _, _, _, _, _]) rfl rfl (upd_same _ _ _) rfl hlim2 rfl rfl rfl ?_
 | refine W_leqT rfl rfl rfl rfl hle ?_
 | refine W_eqlF rfl rfl rfl rfl hto ?_
 | refine W_store (cs' := [_, _, _]) rfl rfl q1' rfl hlim1 rfl rfl rfl ?_
 | (refine I_mov ?_; first
 | refine W_mov (v := .int _ _) rfl rfl rfl ?_
 | refine W_mov (v := .bool _) rfl rfl rfl ?_
 | refine W_mov (v := .slice _ _ _) rfl rfl rfl ?_
 | refine W_mov (v := .tuple _) rfl rfl rfl ?_)
 | (refine I_bin ?_; first
 | refine W_lssT rfl rfl rfl rfl (by omega) ?_)
 | (refine I_load ?_; first
 | refine W_loadE (agg := true) (d := .agg [_, _, _, _, _, _, _, _]) rfl rfl rfl hv rfl ?_
 | refine W_load (agg := true) (d := .agg [_, _, _, _, _, _, _, _]) rfl rfl rfl q1 hlim2 rfl ?_
 | refine W_load (agg := false) (d := .int _ _) rfl rfl rfl q1 hlim2 rfl ?_
 | refine W_load (agg := false) (d := .int _ _) rfl rfl rfl q0 hlim0 rfl ?_
 | refine W_load (agg := false) (d := .slice _ _ _) rfl rfl rfl q0 hlim0 rfl ?_)
 | (refine I_call ?_; first
 | refine W_call rfl rfl rfl (hC _) rfl rfl ?_
 | refine W_call rfl rfl rfl hP rfl rfl ?_
 | refine W_call rfl rfl rfl (hA _) rfl rfl ?_)
 | (refine I_pick ?_; first
 | refine W_pick (v := .bool _) rfl rfl rfl rfl ?_)
 | (refine I_extract ?_; first
 | refine W_extract (d := .int _ _) rfl rfl rfl rfl ?_
 | refine W_extract (d := .bool _) rfl rfl rfl rfl ?_)
 | (refine I_build ?_; first
 | refine W_build (cs := [_, _, _]) rfl rfl rfl ?_)
 | refine W_not rfl rfl rfl ?_
 | refine W_faddr rfl rfl rfl ?_
 | refine W_alloc rfl rfl ?_
 | refine WS_nil ?_)
 | refine okF_intro (by simp [okFlags, List.range, List.range.loop, Fl.clash, hN1, hN2]) ?_
 | refine WC_seq ?_
 | refine WC_opsS ?_
 | refine WC_drawS ?_
 | refine WC_skip ?_
 | refine WC_condT rfl ?_
 | refine WC_block ?_
 | refine WC_ret ?_)
              refine hgo _ _ rfl rfl ?_ ?_ ?_ <;> rfl
        · have ho : okN to sz shut L now e = false := by
            cases h : okN to sz shut L now e with
            | false => rfl
            | true =>
              obtain ⟨b', h1, _, h2, _⟩ := okN_iff.1 h
              rw [ha] at h1
              cases h1
              exact absurd h2 hle
          have hnext := hnext ho
          have hle' : b < thereE e now sz := by omega
          clear hgo
          repeat' (first
 | (refine I_WS ?_; first
 | refine W_iaddr (j := pre.length) rfl rfl rfl rfl rfl hpl ?_
 | refine W_store (cs' := [_, _, _, _, _, _, _, _]) rfl rfl (upd_same _ _ _) rfl hlim2 rfl rfl rfl ?_
 | refine W_leqF rfl rfl rfl rfl hle' ?_
 | (refine I_mov ?_; first
 | refine W_skip rfl ?_
 | refine W_mov (v := .int _ _) rfl rfl rfl ?_
 | refine W_mov (v := .bool _) rfl rfl rfl ?_
 | refine W_mov (v := .slice _ _ _) rfl rfl rfl ?_
 | refine W_mov (v := .tuple _) rfl rfl rfl ?_)
 | (refine I_bin ?_; first
 | refine W_skip rfl ?_
 | refine W_lssT rfl rfl rfl rfl (by omega) ?_
 | refine W_add rfl rfl rfl rfl (by first | exact w64 (by omega) | rfl) ?_)
 | (refine I_load ?_; first
 | refine W_skip rfl ?_
 | refine W_loadE (agg := true) (d := .agg [_, _, _, _, _, _, _, _]) rfl rfl rfl hv rfl ?_
 | refine W_load (agg := true) (d := .agg [_, _, _, _, _, _, _, _]) rfl rfl rfl q1 hlim2 rfl ?_
 | refine W_load (agg := false) (d := .int _ _) rfl rfl rfl q1 hlim2 rfl ?_
 | refine W_load (agg := false) (d := .int _ _) rfl rfl rfl q0 hlim0 rfl ?_)
 | (refine I_call ?_; first
 | refine W_skip rfl ?_
 | refine W_call rfl rfl rfl hP rfl rfl ?_
 | refine W_call rfl rfl rfl (hA _) rfl rfl ?_)
 | (refine I_pick ?_; first
 | refine W_pick (v := .bool _) rfl rfl rfl rfl ?_
 | refine W_skip rfl ?_)
 | (refine I_extract ?_; first
 | refine W_extract (d := .int _ _) rfl rfl rfl rfl ?_
 | refine W_extract (d := .bool _) rfl rfl rfl rfl ?_)
 | refine W_faddr rfl rfl rfl ?_
 | refine W_alloc rfl rfl ?_
 | refine W_skip rfl ?_
 | refine WS_nil ?_)
 | refine WC_seq ?_
 | refine WC_opsS ?_
 | refine WC_skip ?_
 | refine WC_condT rfl ?_
 | refine WC_condF rfl ?_
 | refine WC_block ?_)
          refine hnext _ _ rfl (Nat.le_succ _) q0' q1' ?_ ?_ ?_ ?_ ?_ ?_ ?_ <;> rfl
    · rw [if_neg hc] at hP
      have ho : okN to sz shut L now e = false := by
        cases h : okN to sz shut L now e with
        | false => rfl
        | true =>
          obtain ⟨_, _, h1, _⟩ := okN_iff.1 h
          exact absurd h1 hc
      have hnext := hnext ho
      clear hgo
      repeat' (first
 | (refine I_WS ?_; first
 | refine W_iaddr (j := pre.length) rfl rfl rfl rfl rfl hpl ?_
 | refine W_store (cs' := [_, _, _, _, _, _, _, _]) rfl rfl (upd_same _ _ _) rfl hlim2 rfl rfl rfl ?_
 | (refine I_mov ?_; first
 | refine W_skip rfl ?_
 | refine W_mov (v := .int _ _) rfl rfl rfl ?_
 | refine W_mov (v := .bool _) rfl rfl rfl ?_
 | refine W_mov (v := .slice _ _ _) rfl rfl rfl ?_
 | refine W_mov (v := .tuple _) rfl rfl rfl ?_)
 | (refine I_bin ?_; first
 | refine W_skip rfl ?_
 | refine W_lssT rfl rfl rfl rfl (by omega) ?_
 | refine W_add rfl rfl rfl rfl (by first | exact w64 (by omega) | rfl) ?_)
 | (refine I_load ?_; first
 | refine W_skip rfl ?_
 | refine W_loadE (agg := true) (d := .agg [_, _, _, _, _, _, _, _]) rfl rfl rfl hv rfl ?_
 | refine W_load (agg := true) (d := .agg [_, _, _, _, _, _, _, _]) rfl rfl rfl q1 hlim2 rfl ?_
 | refine W_load (agg := false) (d := .int _ _) rfl rfl rfl q1 hlim2 rfl ?_
 | refine W_load (agg := false) (d := .int _ _) rfl rfl rfl q0 hlim0 rfl ?_)
 | (refine I_call ?_; first
 | refine W_skip rfl ?_
 | refine W_call rfl rfl rfl hP rfl rfl ?_
 | refine W_call rfl rfl rfl (hAny _) rfl rfl ?_)
 | (refine I_pick ?_; first
 | refine W_pick (v := .bool _) rfl rfl rfl rfl ?_
 | refine W_skip rfl ?_)
 | (refine I_extract ?_; first
 | refine W_extract (d := .int _ _) rfl rfl rfl rfl ?_
 | refine W_extract (d := .bool _) rfl rfl rfl rfl ?_)
 | refine W_faddr rfl rfl rfl ?_
 | refine W_alloc rfl rfl ?_
 | refine W_skip rfl ?_
 | refine WS_nil ?_)
 | refine WC_seq ?_
 | refine WC_opsS ?_
 | refine WC_skip ?_
 | refine WC_condT rfl ?_
 | refine WC_condF rfl ?_
 | refine WC_block ?_)
      refine hnext _ _ rfl (Nat.le_succ _) q0' q1' ?_ ?_ ?_ ?_ ?_ ?_ ?_ <;> rfl
set_option maxHeartbeats 8000000 in
theorem s_next (l : List Eg) (hll : l.length ≤ 900) (to sz by' : Int) (shut : List Int) (hsl : shut.length ≤ 1000000) (node now hops : Int) (t t' : Tok) (s s' : Nat) (hs : s = 8 ∨ l = []) (hs' : s' = 1 ∨ shut = []) :
    EvP Γ2 30 [.agg [.slice t s (l.map Eg.e), .int .i64 to, .int .i64 sz, .int .i64 by', .slice t' s' (shut.map (D.int .i64))], .int .i64 node, .int .i64 now, .int .i64 hops] (nextD now sz (nextM l to by' sz shut node now hops)) := by
  refine EvP_code rfl rfl ?_
  have hT := fun t t' => s_lTimes l hll to by' sz hops shut hsl t t' s s' hs hs'
  have hF := fun t => (s_From node l (by omega) t s hs).grow hx2
  have hLl := lateM_len l to by' sz hops shut
  have hsq := sq900 hll
  have hel : (fromE node l).length ≤ l.length := List.length_filter_le _ _
  unfold nextM
  generalize lateM l to by' sz hops shut = L at *
  generalize fromE node l = es at *
  repeat' (first
 | (refine I_WS ?_; first
 | refine W_lenM rfl rfl rfl ?_
 | (refine I_mov ?_; first
 | refine W_mov (v := .int _ _) rfl rfl rfl ?_
 | refine W_mov (v := .bool _) rfl rfl rfl ?_
 | refine W_mov (v := .slice _ _ _) rfl rfl rfl ?_)
 | (refine I_load ?_; first
 | refine W_load (agg := false) (d := .int _ _) rfl rfl rfl rfl (by first | exact Nat.zero_le _ | omega) rfl ?_
 | refine W_load (agg := false) (d := .slice _ _ _) rfl rfl rfl rfl (by first | exact Nat.zero_le _ | omega) rfl ?_)
 | (refine I_call ?_; first
 | (refine W_callN rfl rfl rfl (hT _ _) rfl ?_; intro ta sa hsa hta)
 | (refine W_callS rfl rfl rfl (hF _) rfl ?_; intro tf sf hsf tk nt))
 | (refine I_box ?_; first
 | refine W_boxA rfl rfl rfl rfl rfl ?_)
 | refine W_faddr rfl rfl rfl ?_
 | refine W_alloc rfl rfl ?_
 | refine WS_nil ?_)
 | refine WC_seq ?_
 | refine WC_opsS ?_
 | refine WC_block ?_)
  refine l_next to sz by' shut hsl node now L (by omega) (.slice t s (l.map Eg.e)) tf ta t' sf sa s' hs' hsa es (by omega) hsf es [] rfl _ _ ?_ ?_ ?_ ?_ ?_ ?_ ?_ ?_ ?_ ?_ ?_ _ (fun h ρ' st' e1 e2 k8 => ?_) (fun e h ρ' st' e1 e2 k8 k9 k10 => ?_)
  · exact Nat.le_refl _
  · exact Nat.le_refl _
  all_goals first | rfl | skip
  · rw [h]
    have e1' : st'.lim = 0 := e1
    have hl1 : st'.lim ≤ 1 := by omega
    rw [← upd_self k8]
    repeat' (first
 | (refine I_WS ?_; first
 | refine W_store (cs' := [_, _, _]) rfl rfl e2 rfl hl1 rfl rfl rfl ?_
 | (refine I_mov ?_; first
 | refine W_mov (v := .int _ _) rfl rfl rfl ?_
 | refine W_mov (v := .bool _) rfl rfl rfl ?_)
 | (refine I_build ?_; first
 | refine W_build (cs := [_, _, _]) rfl rfl rfl ?_)
 | refine WS_nil ?_)
 | refine WC_seq ?_
 | refine WC_opsS ?_
 | refine WC_ret ?_)
    exact fin_N (q := 1) (i := 8) (j := 9) (k := 10) (.inr rfl) rfl rfl hl1 rfl rfl rfl
  · rw [h]
    have e1' : st'.lim = 0 := e1
    exact fin_N (.inr rfl) k8 e2 (by omega) k9 k10 rfl
end Go.Lea
/-
  The best route, as the code finds it.
-/
namespace Go.Lea
open Go.Ev
theorem few_len {l : List Eg} {fr to now a sz : Int} {shut : List Int} {n : Nat} (h : fewM l fr to now a sz shut = some n) : n ≤ l.length := by
  unfold fewM at h
  split at h
  · have := (few_some _ _ _ h).2.1
    omega
  · cases h
set_option maxHeartbeats 16000000 in
theorem l_go (l : List Eg) (hll : l.length ≤ 900) (to sz by' : Int) (shut : List Int) (hsl : shut.length ≤ 1000000) (t t' : Tok) (s s' : Nat) (hs : s = 8 ∨ l = []) (hs' : s' = 1 ∨ shut = []) (arr : Int) (z : List D) : ∀ (k : Nat), k ≤ 1000 → ∀ (node now : Int) (out : List Hp) (tk : Tok) (so : Nat) (ρ : Nat → D) (st : Store), out.length + k ≤ 1000 → st.lim ≤ 0 → 3 ≤ st.next → st.tlim ≤ st.ntok → AppOK st 3 tk so (out.map Hp.e) → st.boxes 0 = some (.cells z) → st.boxes 1 = some (.cells [.slice t s (l.map Eg.e), .int .i64 to, .int .i64 sz, .int .i64 by', .slice t' s' (shut.map (D.int .i64))]) → st.boxes 2 = some (.cells [.slice tk so (out.map Hp.e), .int .i64 arr]) →
    ρ 14 = .ptr 0 0 → ρ 17 = .bool true → ρ 18 = .int .i64 k → ρ 19 = .ptr 1 0 → ρ 20 = .ptr 2 0 → ρ 21 = .int .i64 node → ρ 22 = .int .i64 now → ∀ (Q : X → (Nat → D) → Store → Prop),
    (∀ es, goM l to by' sz shut k node now = some es → ∀ ρ' st' tk' so', st'.lim = st.lim → st'.boxes 0 = some (.cells z) → (so' = 3 ∨ out ++ hopsW sz es now = []) → st'.boxes 2 = some (.cells [.slice tk' so' ((out ++ hopsW sz es now).map Hp.e), .int .i64 arr]) → ρ' 14 = .ptr 0 0 → ρ' 17 = .bool true → ρ' 20 = .ptr 2 0 → Q (.exit 0) ρ' st') → (goM l to by' sz shut k node now = none → ∀ ρ' st', st'.lim = st.lim → st'.boxes 0 = some (.cells z) → ρ' 14 = .ptr 0 0 → ρ' 17 = .bool false → Q (.exit 0) ρ' st') → WC Γ2 (.loop c_least_Route_l0) ρ st Q := by
  intro k
  induction k with
  | zero =>
    intro hk node now out tk so ρ st hol hlim hnx htl hO hb0 hb1 hb2 h14 h17 h18 h19 h20 h21 h22 Q hQ hQ2
    rw [← upd_self h14, ← upd_self h17, ← upd_self h18, ← upd_self h19, ← upd_self h20, ← upd_self h21, ← upd_self h22]
    refine WC_loop ?_
    repeat' (first
 | (refine I_WS ?_; first
 | (refine I_mov ?_; first
 | refine W_mov (v := .int _ _) rfl rfl rfl ?_
 | refine W_mov (v := .bool _) rfl rfl rfl ?_)
 | (refine I_bin ?_; first
 | refine W_gtrF rfl rfl rfl rfl (by omega) ?_)
 | (refine I_pick ?_; first
 | refine W_pick (v := .bool _) rfl rfl rfl rfl ?_)
 | refine WS_nil ?_)
 | refine WC_seq ?_
 | refine WC_opsS ?_
 | refine WC_condF rfl ?_
 | refine WC_exit ?_)
    refine hQ [] rfl _ _ tk so rfl hb0 ?_ (by simpa [hopsW] using hb2) rfl rfl rfl
    rcases hO with ⟨_, h | ⟨_, h⟩⟩ | ⟨_, _, _, _, h⟩
    · exact .inl h
    · exact .inr (by simpa [hopsW] using h)
    · exact .inl h
  | succ k ih =>
    intro hk node now out tk so ρ st hol hlim hnx htl hO hb0 hb1 hb2 h14 h17 h18 h19 h20 h21 h22 Q hQ hQ2
    have hgt : (0 : Int) < ((k + 1 : Nat) : Int) := by omega
    have hw : IntKind.i64.wrap (((k + 1 : Nat) : Int) - 1) = (k : Int) := by rw [w64 (by omega)]; omega
    have hN := fun t t' => s_next l hll to sz by' shut hsl node now k t t' s s' hs hs'
    have hlim2 : st.lim ≤ st.next := by omega
    have hl1 : st.lim ≤ 1 := by omega
    have hl2 : st.lim ≤ 2 := by omega
    have hn0 : 0 ≠ st.next := by omega
    have hn1 : 1 ≠ st.next := by omega
    have hn2 : 2 ≠ st.next := by omega
    have hN1 : (st.next == 2) = false := by simp; omega
    have hN2 : (2 == st.next) = false := by simp; omega
    have q1 : ∀ {x : Option Box}, ((upd st.boxes st.next x) 1).bind Box.cs = some [.slice t s (l.map Eg.e), .int .i64 to, .int .i64 sz, .int .i64 by', .slice t' s' (shut.map (D.int .i64))] := fun {x} => by rw [upd_ne _ _ hn1, hb1]; rfl
    have q1' : ∀ {x y : Option Box}, upd (upd st.boxes st.next x) st.next y 1 = some (.cells [.slice t s (l.map Eg.e), .int .i64 to, .int .i64 sz, .int .i64 by', .slice t' s' (shut.map (D.int .i64))]) := fun {x y} => (upd_ne _ _ hn1).trans ((upd_ne _ _ hn1).trans hb1)
    have q0' : ∀ {x y : Option Box}, upd (upd st.boxes st.next x) st.next y 0 = some (.cells z) := fun {x y} => (upd_ne _ _ hn0).trans ((upd_ne _ _ hn0).trans hb0)
    have q2 : ∀ {x y : Option Box}, ((upd (upd st.boxes st.next x) st.next y) 2).bind Box.cs = some [.slice tk so (out.map Hp.e), .int .i64 arr] := fun {x y} => by rw [upd_ne _ _ hn2, upd_ne _ _ hn2, hb2]; rfl
    have q2' : ∀ {x y : Option Box}, upd (upd st.boxes st.next x) st.next y 2 = some (.cells [.slice tk so (out.map Hp.e), .int .i64 arr]) := fun {x y} => (upd_ne _ _ hn2).trans ((upd_ne _ _ hn2).trans hb2)
    have qh : ∀ {x : Option Box} {a b c : Int}, ((upd (upd st.boxes st.next x) st.next (some (.cells [.int .i64 a, .int .i64 b, .int .i64 c]))) st.next).bind Box.cs = some [.int .i64 a, .int .i64 b, .int .i64 c] := fun {x a b c} => by rw [upd_same]; rfl
    have hbd : ∀ a b c : Int, ((out.map Hp.e).length + [D.agg [.int .i64 a, .int .i64 b, .int .i64 c]].length) * 24 ≤ 140737488355328 := fun a b c => by simp; omega
    have hgo : goM l to by' sz shut (k + 1) node now = match nextM l to by' sz shut node now k with
      | none => none
      | some e => (goM l to by' sz shut k e.to (thereE e now sz)).map (e :: ·) := rfl
    rw [hgo] at hQ hQ2
    clear hgo
    unfold nextD at hN
    cases hn : nextM l to by' sz shut node now k with
    | none =>
      rw [hn] at hN hQ2
      have hQ2 := hQ2 rfl
      clear ih hQ hn
      rw [← upd_self h14, ← upd_self h17, ← upd_self h18, ← upd_self h19, ← upd_self h20, ← upd_self h21, ← upd_self h22]
      refine WC_loop ?_
      repeat' (first
 | (refine I_WS ?_; first
 | refine W_sub (s := (k : Int)) rfl rfl rfl rfl hw ?_
 | refine W_store (cs' := [_, _, _]) rfl rfl (upd_same _ _ _) rfl hlim2 rfl rfl rfl ?_
 | (refine W_app rfl rfl rfl hO (.inl rfl) (hbd _ _ _) htl rfl ?_; intro k' st' c1 c2 c3 c4 c5 c6 c7)
 | refine W_store (cs' := [_, _]) rfl rfl ((congrFun c1 2).trans q2') rfl (c3 ▸ hl2) rfl rfl rfl ?_
 | (refine I_mov ?_; first
 | refine W_mov (v := .int _ _) rfl rfl rfl ?_
 | refine W_mov (v := .bool _) rfl rfl rfl ?_
 | refine W_mov (v := .tuple _) rfl rfl rfl ?_)
 | (refine I_bin ?_; first
 | refine W_gtrT rfl rfl rfl rfl (by omega) ?_)
 | (refine I_load ?_; first
 | refine W_load (agg := true) (d := .agg [_, _, _, _, _]) rfl rfl rfl q1 hl1 rfl ?_
 | refine W_load (agg := false) (d := .slice _ _ _) rfl rfl rfl q2 hl2 rfl ?_
 | refine W_load (agg := true) (d := .agg [_, _, _]) rfl rfl rfl qh hlim2 rfl ?_
 | refine W_load (agg := false) (d := .int _ _) rfl rfl rfl ((congrArg (Option.bind · Box.cs) (congrFun c1 _)).trans qh) (c3 ▸ hlim2) rfl ?_)
 | (refine I_call ?_; first
 | refine W_call rfl rfl rfl (hN _ _) rfl rfl ?_)
 | (refine I_pick ?_; first
 | refine W_pick (v := .bool _) rfl rfl rfl rfl ?_)
 | (refine I_extract ?_; first
 | refine W_extract (d := .int _ _) rfl rfl rfl rfl ?_
 | refine W_extract (d := .bool _) rfl rfl rfl rfl ?_
 | refine W_extract (d := .agg _) rfl rfl rfl rfl ?_)
 | refine W_faddr rfl rfl rfl ?_
 | refine W_alloc rfl rfl ?_
 | refine W_bslice (ys := [_]) rfl rfl rfl (by decide) rfl ?_
 | refine WS_nil ?_)
 | refine okF_intro (by simp [okFlags, List.range, List.range.loop, Fl.clash, hN1, hN2]) ?_
 | refine WC_seq ?_
 | refine WC_opsS ?_
 | refine WC_drawS ?_
 | refine WC_skip ?_
 | refine WC_condT rfl ?_
 | refine WC_block ?_)
      refine WC_loop ?_
      repeat' (first
 | (refine I_WS ?_; first
 | (refine I_mov ?_; first
 | refine W_skip rfl ?_
 | refine W_mov (v := .bool _) rfl rfl rfl ?_)
 | (refine I_bin ?_; first
 | refine W_skip rfl ?_)
 | (refine I_pick ?_; first
 | refine W_pick (v := .bool _) rfl rfl rfl rfl ?_)
 | refine WS_nil ?_)
 | refine WC_seq ?_
 | refine WC_opsS ?_
 | refine WC_condF rfl ?_
 | refine WC_exit ?_)
      refine hQ2 _ _ ?_ ?_ ?_ ?_
      · exact c3
      · exact (congrFun c1 0).trans q0'
      all_goals rfl
    | some e =>
      rw [hn] at hN hQ hQ2
      simp only at hN hQ hQ2
      have hnext : ∀ (tk' : Tok) (so' : Nat) (ρ' : Nat → D) (st' : Store), st'.lim = st.lim → 3 ≤ st'.next → st'.tlim ≤ st'.ntok → AppOK st' 3 tk' so' (out.map Hp.e ++ [.agg [.int .i64 e.id, .int .i64 (mx now e.op), .int .i64 (thereE e now sz)]]) → st'.boxes 0 = some (.cells z) → st'.boxes 1 = some (.cells [.slice t s (l.map Eg.e), .int .i64 to, .int .i64 sz, .int .i64 by', .slice t' s' (shut.map (D.int .i64))]) → st'.boxes 2 = some (.cells [.slice tk' so' (out.map Hp.e ++ [.agg [.int .i64 e.id, .int .i64 (mx now e.op), .int .i64 (thereE e now sz)]]), .int .i64 arr]) →
          ρ' 14 = .ptr 0 0 → ρ' 17 = .bool true → ρ' 18 = .int .i64 k → ρ' 19 = .ptr 1 0 → ρ' 20 = .ptr 2 0 → ρ' 21 = .int .i64 e.to → ρ' 22 = .int .i64 (thereE e now sz) → WC Γ2 (.loop c_least_Route_l0) ρ' st' Q := fun tk' so' ρ' st' g1 g2 g3 g4 g5 g6 g7 k14 k17 k18 k19 k20 k21 k22 => by
        have hm : (out ++ [hop1 e now sz]).map Hp.e = out.map Hp.e ++ [.agg [.int .i64 e.id, .int .i64 (mx now e.op), .int .i64 (thereE e now sz)]] := by rw [List.map_append]; rfl
        have hh : ∀ es, out ++ [hop1 e now sz] ++ hopsW sz es (thereE e now sz) = out ++ hopsW sz (e :: es) now := fun es => by rw [hopsW, List.append_assoc]; rfl
        refine ih (by omega) e.to (thereE e now sz) (out ++ [hop1 e now sz]) tk' so' ρ' st' (by simp; omega) (by omega) g2 g3 (by rw [hm]; exact g4) g5 g6 (by rw [hm]; exact g7) k14 k17 k18 k19 k20 k21 k22 Q (fun es he ρ2 st2 tk2 so2 f1 f2 f3 f4 => ?_) (fun he ρ2 st2 f1 => hQ2 (by rw [he]; rfl) ρ2 st2 (f1.trans g1))
        rw [hh] at f3 f4
        exact hQ (e :: es) (by rw [he]; rfl) ρ2 st2 tk2 so2 (f1.trans g1) f2 f3 f4
      clear ih hn hQ hQ2
      rw [← upd_self h14, ← upd_self h17, ← upd_self h18, ← upd_self h19, ← upd_self h20, ← upd_self h21, ← upd_self h22]
      generalize thereE e now sz = th at *
      generalize mx now e.op = sd at *
      refine WC_loop ?_
      repeat' (first
 | (refine I_WS ?_; first
 | refine W_sub (s := (k : Int)) rfl rfl rfl rfl hw ?_
 | refine W_store (cs' := [_, _, _]) rfl rfl (upd_same _ _ _) rfl hlim2 rfl rfl rfl ?_
 | (refine W_app rfl rfl rfl hO (.inl rfl) (hbd _ _ _) htl rfl ?_; intro k' st' c1 c2 c3 c4 c5 c6 c7)
 | refine W_store (cs' := [_, _]) rfl rfl ((congrFun c1 2).trans q2') rfl (c3 ▸ hl2) rfl rfl rfl ?_
 | (refine I_mov ?_; first
 | refine W_mov (v := .int _ _) rfl rfl rfl ?_
 | refine W_mov (v := .bool _) rfl rfl rfl ?_
 | refine W_mov (v := .tuple _) rfl rfl rfl ?_)
 | (refine I_bin ?_; first
 | refine W_gtrT rfl rfl rfl rfl (by omega) ?_)
 | (refine I_load ?_; first
 | refine W_load (agg := true) (d := .agg [_, _, _, _, _]) rfl rfl rfl q1 hl1 rfl ?_
 | refine W_load (agg := false) (d := .slice _ _ _) rfl rfl rfl q2 hl2 rfl ?_
 | refine W_load (agg := true) (d := .agg [_, _, _]) rfl rfl rfl qh hlim2 rfl ?_
 | refine W_load (agg := false) (d := .int _ _) rfl rfl rfl ((congrArg (Option.bind · Box.cs) (congrFun c1 _)).trans qh) (c3 ▸ hlim2) rfl ?_)
 | (refine I_call ?_; first
 | refine W_call rfl rfl rfl (hN _ _) rfl rfl ?_)
 | (refine I_pick ?_; first
 | refine W_pick (v := .bool _) rfl rfl rfl rfl ?_)
 | (refine I_extract ?_; first
 | refine W_extract (d := .int _ _) rfl rfl rfl rfl ?_
 | refine W_extract (d := .bool _) rfl rfl rfl rfl ?_
 | refine W_extract (d := .agg _) rfl rfl rfl rfl ?_)
 | refine W_faddr rfl rfl rfl ?_
 | refine W_alloc rfl rfl ?_
 | refine W_bslice (ys := [_]) rfl rfl rfl (by decide) rfl ?_
 | refine WS_nil ?_)
 | refine okF_intro (by simp [okFlags, List.range, List.range.loop, Fl.clash, hN1, hN2]) ?_
 | refine WC_seq ?_
 | refine WC_opsS ?_
 | refine WC_drawS ?_
 | refine WC_skip ?_
 | refine WC_condT rfl ?_
 | refine WC_block ?_)
      refine hnext (.own k') 3 _ _ ?_ ?_ ?_ ?_ ?_ ?_ ?_ ?_ ?_ ?_ ?_ ?_ ?_ ?_
      · exact c3
      · show 3 ≤ st'.next
        rw [show st'.next = st.next + 1 from c2]
        exact Nat.le_succ_of_le hnx
      · exact c5
      · exact .inr ⟨k', rfl, c6, c7, rfl⟩
      · exact (congrFun c1 0).trans q0'
      · exact (congrFun c1 1).trans q1'
      all_goals rfl
set_option maxHeartbeats 16000000 in
theorem s_Best (l : List Eg) (hll : l.length ≤ 900) (fr to now sz by' : Int) (shut : List Int) (hsl : shut.length ≤ 1000000) (t t' : Tok) (s s' : Nat) (hs : s = 8 ∨ l = []) (hs' : s' = 1 ∨ shut = []) (es : List Eg) (a : Int) (hB : bestM l fr to now sz by' shut = some (es, a)) :
    EvX Γ2 13 [.slice t s (l.map Eg.e), .int .i64 fr, .int .i64 to, .int .i64 now, .int .i64 sz, .int .i64 by', .slice t' s' (shut.map (D.int .i64))] (IsA Hp.e 3 (hopsW sz es now) [.int .i64 a] [.bool true]) := by
  refine EvX_code rfl rfl ?_
  have hT := fun t t' => (s_Times l (by omega) fr now sz shut (by omega) t t' s s' hs hs').grow hx2
  have hTl := times_len l fr now sz shut
  unfold bestM at hB
  generalize timesM l fr now sz shut = T at *
  cases ha : atN to T with
  | none => rw [ha] at hB; cases hB
  | some a' =>
    rw [ha] at hB
    simp only at hB
    have hA := fun t s h => s_At1 to T (by omega) a' ha t s h
    by_cases hle : by' < a'
    · rw [if_pos hle] at hB; cases hB
    · rw [if_neg hle] at hB
      have hle' : a' ≤ by' := by omega
      have hF := fun t t' => s_Fewest l hll fr to now a' sz shut hsl t t' s s' hs hs'
      cases hf : fewM l fr to now a' sz shut with
      | none => rw [hf] at hB; cases hB
      | some n =>
        rw [hf] at hB hF
        simp only at hB
        obtain ⟨es', hg, he⟩ := Option.map_eq_some_iff.1 hB
        cases he
        have hn := few_len hf
        repeat' (first
 | (refine I_WS ?_; first
 | refine W_store (cs' := [_, _]) rfl rfl rfl rfl (Nat.zero_le _) rfl rfl rfl ?_
 | refine W_store (cs' := [_, _, _, _, _]) rfl rfl rfl rfl (Nat.zero_le _) rfl rfl rfl ?_
 | (refine I_mov ?_; first
 | refine W_mov (v := .int _ _) rfl rfl rfl ?_
 | refine W_mov (v := .bool _) rfl rfl rfl ?_
 | refine W_mov (v := .slice _ _ _) rfl rfl rfl ?_
 | refine W_mov (v := .tuple _) rfl rfl rfl ?_)
 | (refine I_bin ?_; first
 | refine W_gtrF rfl rfl rfl rfl (by omega) ?_)
 | (refine I_call ?_; first
 | refine W_call rfl rfl rfl (hA _ _ hsa) rfl rfl ?_
 | refine W_call rfl rfl rfl (hF _ _) rfl rfl ?_
 | (refine W_callN rfl rfl rfl (hT _ _) rfl ?_; intro ta sa hsa hta))
 | (refine I_pick ?_; first
 | refine W_pick (v := .bool _) rfl rfl rfl rfl ?_)
 | (refine I_extract ?_; first
 | refine W_extract (d := .int _ _) rfl rfl rfl rfl ?_
 | refine W_extract (d := .bool _) rfl rfl rfl rfl ?_)
 | (refine I_build ?_; first
 | refine W_build (cs := [_, _]) rfl rfl rfl ?_
 | refine W_build (cs := [_, _, _, _, _]) rfl rfl rfl ?_)
 | refine W_not rfl rfl rfl ?_
 | refine W_alloc rfl rfl ?_
 | refine WS_nil ?_)
 | refine WC_seq ?_
 | refine WC_opsS ?_
 | refine WC_skip ?_
 | refine WC_condF rfl ?_
 | refine WC_block ?_)
        refine l_go l hll to sz a shut hsl t t' s s' hs hs' a [.slice .isnil 0 [], .int .i64 0] n (by omega) fr now [] .isnil 0 _ _ (by simp; omega) ?_ ?_ ?_ (.inl ⟨.inl rfl, .inr ⟨rfl, rfl⟩⟩) ?_ ?_ ?_ ?_ ?_ ?_ ?_ ?_ ?_ ?_ _ (fun es2 he ρ' st' tk so e1 e2 e3 e4 k14 k17 k20 => ?_) (fun he => by rw [hg] at he; cases he)
        all_goals first | rfl | exact Nat.le_refl _ | exact Nat.zero_le _ | skip
        rw [hg] at he
        cases he
        rw [List.nil_append] at e3 e4
        have e1' : st'.lim = 0 := e1
        have hl0 : st'.lim ≤ 0 := by omega
        have hl2 : st'.lim ≤ 2 := by omega
        have hbx : (st'.boxes 2).bind Box.cs = some [.slice tk so ((hopsW sz es now).map Hp.e), .int .i64 a] := by rw [e4]; rfl
        rw [← upd_self k14, ← upd_self k17, ← upd_self k20]
        repeat' (first
 | (refine I_WS ?_; first
 | refine W_store (cs' := [_, _]) rfl rfl e2 rfl hl0 rfl rfl rfl ?_
 | (refine I_mov ?_; first
 | refine W_mov (v := .bool _) rfl rfl rfl ?_)
 | (refine I_load ?_; first
 | refine W_load (agg := true) (d := .agg [_, _]) rfl rfl rfl hbx hl2 rfl ?_)
 | refine W_not rfl rfl rfl ?_
 | refine WS_nil ?_)
 | refine WC_seq ?_
 | refine WC_opsS ?_
 | refine WC_skip ?_
 | refine WC_condF rfl ?_
 | refine WC_ret ?_)
        exact finX_A (.inr rfl) (res_A (q := 0) rfl rfl hl0 rfl) rfl rfl e3 rfl rfl rfl
set_option maxHeartbeats 16000000 in
theorem s_Best0 (l : List Eg) (hll : l.length ≤ 900) (fr to now sz by' : Int) (shut : List Int) (hsl : shut.length ≤ 1000000) (t t' : Tok) (s s' : Nat) (hs : s = 8 ∨ l = []) (hs' : s' = 1 ∨ shut = []) (hB : bestM l fr to now sz by' shut = none) :
    EvP Γ2 13 [.slice t s (l.map Eg.e), .int .i64 fr, .int .i64 to, .int .i64 now, .int .i64 sz, .int .i64 by', .slice t' s' (shut.map (D.int .i64))] (.tuple [.agg [.slice .isnil 0 [], .int .i64 0], .bool false]) := by
  refine EvP_code rfl rfl ?_
  have hT := fun t t' => (s_Times l (by omega) fr now sz shut (by omega) t t' s s' hs hs').grow hx2
  have hTl := times_len l fr now sz shut
  have hi := best_iff (l := l) (fr := fr) (to := to) (now := now) (sz := sz) (by' := by') (shut := shut)
  rw [hB] at hi
  generalize timesM l fr now sz shut = T at *
  cases ha : atN to T with
  | none =>
    have hA := fun t s h => s_At0 to T (by omega) ha t s h
    repeat' (first
 | (refine I_WS ?_; first
 | refine W_store (cs' := [_, _]) rfl rfl rfl rfl (Nat.zero_le _) rfl rfl rfl ?_
 | (refine I_mov ?_; first
 | refine W_skip rfl ?_
 | refine W_mov (v := .int _ _) rfl rfl rfl ?_
 | refine W_mov (v := .bool _) rfl rfl rfl ?_
 | refine W_mov (v := .slice _ _ _) rfl rfl rfl ?_
 | refine W_mov (v := .tuple _) rfl rfl rfl ?_)
 | (refine I_bin ?_; first
 | refine W_skip rfl ?_)
 | (refine I_call ?_; first
 | refine W_call rfl rfl rfl (hA _ _ hsa) rfl rfl ?_
 | (refine W_callN rfl rfl rfl (hT _ _) rfl ?_; intro ta sa hsa hta))
 | (refine I_pick ?_; first
 | refine W_pick (v := .bool _) rfl rfl rfl rfl ?_)
 | (refine I_extract ?_; first
 | refine W_extract (d := .int _ _) rfl rfl rfl rfl ?_
 | refine W_extract (d := .bool _) rfl rfl rfl rfl ?_)
 | (refine I_build ?_; first
 | refine W_build (cs := [_, _]) rfl rfl rfl ?_)
 | refine W_not rfl rfl rfl ?_
 | refine W_alloc rfl rfl ?_
 | refine WS_nil ?_)
 | refine WC_seq ?_
 | refine WC_opsS ?_
 | refine WC_condT rfl ?_
 | refine WC_ret ?_)
    exact ⟨.inr rfl, rfl⟩
  | some a' =>
    rw [ha] at hi
    have hle : by' < a' := by simpa using hi
    have hA := fun t s h => s_At1 to T (by omega) a' ha t s h
    repeat' (first
 | (refine I_WS ?_; first
 | refine W_store (cs' := [_, _]) rfl rfl rfl rfl (Nat.zero_le _) rfl rfl rfl ?_
 | (refine I_mov ?_; first
 | refine W_mov (v := .int _ _) rfl rfl rfl ?_
 | refine W_mov (v := .bool _) rfl rfl rfl ?_
 | refine W_mov (v := .slice _ _ _) rfl rfl rfl ?_
 | refine W_mov (v := .tuple _) rfl rfl rfl ?_)
 | (refine I_bin ?_; first
 | refine W_gtrT rfl rfl rfl rfl (by omega) ?_)
 | (refine I_call ?_; first
 | refine W_call rfl rfl rfl (hA _ _ hsa) rfl rfl ?_
 | (refine W_callN rfl rfl rfl (hT _ _) rfl ?_; intro ta sa hsa hta))
 | (refine I_pick ?_; first
 | refine W_pick (v := .bool _) rfl rfl rfl rfl ?_)
 | (refine I_extract ?_; first
 | refine W_extract (d := .int _ _) rfl rfl rfl rfl ?_
 | refine W_extract (d := .bool _) rfl rfl rfl rfl ?_)
 | (refine I_build ?_; first
 | refine W_build (cs := [_, _]) rfl rfl rfl ?_)
 | refine W_not rfl rfl rfl ?_
 | refine W_alloc rfl rfl ?_
 | refine WS_nil ?_)
 | refine WC_seq ?_
 | refine WC_opsS ?_
 | refine WC_condT rfl ?_
 | refine WC_ret ?_)
    exact ⟨.inr rfl, rfl⟩
end Go.Lea
