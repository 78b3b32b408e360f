/-
  Contacts and ranges: which stands ahead, which overlap, what may be, which is found.
-/
import Derived.Test.YtdjokmfncammeaaVitVieA
import Derived.Test.YtdjokmfncammeaaEvEvM
import Derived.Test.YtdjokmfncammeaaVitVieC
set_option linter.unusedVariables false
set_option linter.unusedSimpArgs false
set_option linter.unnecessarySimpa false

namespace Go.Vit
open Go.Ev
set_option linter.unusedVariables false
set_option linter.unusedSimpArgs false
/-- The first one that is not 0. -/
def orI : List Int → Int
  | [] => 0
  | x :: l => if x = 0 then orI l else x
theorem l_Or (t : Tok) (ls : List Int) (hl : ls.length ≤ 1073741824) : ∀ (post pre : List Int), ls = pre ++ post → (∀ x ∈ pre, x = 0) →
    ∀ (ρ : Nat → D) (h3 : ρ 3 = .int .i64 0) (h6 : ρ 6 = .slice t 1 (ls.map (D.int .i64))) (h7 : ρ 7 = .int .i64 ls.length) (h8 : ρ 8 = .int .i64 pre.length) (Q : X → (Nat → D) → Store → Prop),
    (orI ls = 0 → ∀ ρ', ρ' 3 = .int .i64 0 → Q (.exit 0) ρ' Store.empty) → (∀ ρ', ρ' 2 = .int .i64 (orI ls) → Q .ret ρ' Store.empty) → WC Γ (.loop c_cmp_Or_int_l0) ρ Store.empty Q := by
  intro post
  induction post with
  | nil =>
    intro pre hp hz ρ h3 h6 h7 h8 Q hQ hQ2
    rw [List.append_nil] at hp
    subst hp
    have : orI ls = 0 := by
      clear hl h6 h7 h8 hQ hQ2
      induction ls with
      | nil => rfl
      | cons x l ih => rw [orI, if_pos (hz x (by simp)), ih (fun y hy => hz y (by simp [hy]))]
    rw [← upd_self h3, ← upd_self h6, ← upd_self h7, ← upd_self h8]
    refine WC_loop ?_
    repeat' (first
 | (refine I_WS ?_; first
 | (refine I_bin ?_; first
 | refine W_lssF rfl rfl rfl rfl (by omega) ?_)
 | refine WS_nil ?_)
 | refine WC_seq ?_
 | refine WC_opsS ?_
 | refine WC_condF rfl ?_
 | refine WC_exit ?_)
    exact hQ this _ rfl
  | cons x post ih =>
    intro pre hp hz ρ h3 h6 h7 h8 Q hQ hQ2
    have hv : ls[pre.length]? = some x := by rw [hp]; simp
    have hlen : ls.length = pre.length + (post.length + 1) := by rw [hp]; simp
    rw [← upd_self h3, ← upd_self h6, ← upd_self h7, ← upd_self h8]
    refine WC_loop ?_
    repeat' (first
 | (refine I_WS ?_; first
 | (refine I_mov ?_; first
 | refine W_mov (v := .int _ _) rfl rfl rfl ?_)
 | (refine I_bin ?_; first
 | refine W_lssT rfl rfl rfl rfl (by omega) ?_
 | (refine W_neq rfl rfl rfl rfl ?_ ?_ <;> intro _)
 | refine W_add rfl rfl rfl rfl (by first | exact w64 (by omega) | rfl) ?_)
 | (refine I_load ?_; first
 | refine W_loadE (agg := false) (d := .int _ _) rfl rfl rfl hv rfl ?_)
 | refine W_iaddr rfl rfl rfl rfl (by first | rfl | exact sz_of (by assumption) (by omega)) (by first | decide | (simp only [List.length_map]; omega)) ?_
 | refine WS_nil ?_)
 | refine WC_seq ?_
 | refine WC_opsS ?_
 | refine WC_skip ?_
 | refine WC_condT rfl ?_
 | refine WC_condF rfl ?_
 | refine WC_block ?_
 | refine WC_ret ?_)
    · rename_i hx
      exact ih (pre ++ [x]) (by simp [hp]) (fun y hy => by
        rcases List.mem_append.mp hy with h | h
        · exact hz y h
        · rw [List.mem_singleton.mp h]; exact hx) _ rfl rfl rfl (by rw [List.length_append]; rfl) Q hQ hQ2
    · rename_i hx
      refine hQ2 _ ?_
      have : orI ls = x := by
        rw [hp]
        clear hp hl h6 h7 h8 hQ hQ2 ih hv hlen
        induction pre with
        | nil => simp only [List.nil_append, orI]; rw [if_neg hx]
        | cons y pre ih => rw [List.cons_append, orI, if_pos (hz y (by simp)), ih (fun z hz' => hz z (by simp [hz']))]
      rw [this]
      rfl
theorem s_Or (t : Tok) (ls : List Int) (hl : ls.length ≤ 1073741824) : EvP Γ 93 [.slice t 1 (ls.map (D.int .i64))] (.int .i64 (orI ls)) := by
  refine EvP_code rfl rfl ?_
  repeat' (first
 | (refine I_WS ?_; first
 | (refine I_mov ?_; first
 | refine W_mov (v := .int _ _) rfl rfl rfl ?_
 | refine W_mov (v := .slice _ _ _) rfl rfl rfl ?_)
 | refine W_lenM rfl rfl rfl ?_
 | refine WS_nil ?_)
 | refine WC_seq ?_
 | refine WC_opsS ?_
 | refine WC_block ?_)
  refine l_Or t ls hl ls [] rfl (by simp) _ rfl rfl rfl rfl _ (fun h0 ρ h3 => ?_) (fun ρ h2 => ?_)
  · rw [← upd_self h3]
    repeat' (first
 | (refine I_WS ?_; first
 | (refine I_mov ?_; first
 | refine W_mov (v := .int _ _) rfl rfl rfl ?_)
 | refine WS_nil ?_)
 | refine WC_seq ?_
 | refine WC_opsS ?_
 | refine WC_ret ?_)
    exact fin_int (by simp) rfl h0.symm
  · exact fin_int (by simp) (show some (ρ 2) = _ by rw [h2]) rfl

/-- A contact. -/
structure Ct where
  id : Int
  fr : Int
  to : Int
  st : Int
  en : Int
  ra : Int
deriving DecidableEq
def Ct.e (c : Ct) : D := .agg [.int .i64 c.id, .int .i64 c.fr, .int .i64 c.to, .int .i64 c.st, .int .i64 c.en, .int .i64 c.ra]
def Ct.ok (c : Ct) : Prop := okC c.id c.fr c.to c.st c.en c.ra
instance (c : Ct) : Decidable c.ok := by unfold Ct.ok; infer_instance
/-- A range. -/
structure Rg where
  fr : Int
  to : Int
  st : Int
  en : Int
  ow : Int
deriving DecidableEq
def Rg.e (r : Rg) : D := .agg [.int .i64 r.fr, .int .i64 r.to, .int .i64 r.st, .int .i64 r.en, .int .i64 r.ow]
def In64 (n : Int) : Prop := -9223372036854775808 ≤ n ∧ n ≤ 9223372036854775807
theorem nf2 {a b : D} (h : b.freeA = false) : ([a, b] : List D).all D.freeA = false := by simp [h]
theorem s_cok (c : Ct) (h : In64 c.en) : EvP Γ 33 [c.e] (.bool (decide c.ok)) := s_check_Contact _ _ _ _ _ _ h
theorem s_rok (r : Rg) (h : In64 r.en) : EvP Γ 77 [r.e] (.bool (decide (((1 ≤ r.fr ∧ r.fr ≤ 255) ∧ (1 ≤ r.to ∧ r.to ≤ 255) ∧ r.fr ≠ r.to) ∧ (0 ≤ r.st ∧ r.st < r.en ∧ r.en ≤ 2147483647) ∧ 0 ≤ r.ow ∧ r.ow ≤ 2147483647))) := by
  refine EvP_code rfl rfl ?_
  repeat' (first
 | (refine I_WS ?_; first
 | (refine I_mov ?_; first
 | refine W_mov (v := .bool _) rfl rfl rfl ?_)
 | (refine I_load ?_; first
 | refine W_skip rfl ?_
 | refine W_load (agg := false) (d := .int _ _) rfl rfl rfl rfl (by first | exact Nat.zero_le _ | omega) rfl ?_)
 | (refine I_call ?_; first
 | refine W_skip rfl ?_
 | refine W_callB rfl rfl rfl (s_check_way _ _) rfl ?_ ?_ <;> intro _
 | refine W_callB rfl rfl rfl (s_check_span _ _ h) rfl ?_ ?_ <;> intro _
 | refine W_callB rfl rfl rfl (s_num_In _ _ _) rfl ?_ ?_ <;> intro _)
 | (refine I_pick ?_; first
 | refine W_pick (v := .bool _) rfl rfl rfl rfl ?_)
 | (refine I_box ?_; first
 | refine W_boxA rfl rfl rfl rfl rfl ?_)
 | refine W_faddr rfl rfl rfl ?_
 | refine W_skip rfl ?_
 | refine WS_nil ?_)
 | refine WC_seq ?_
 | refine WC_opsS ?_
 | refine WC_ret ?_)
  all_goals (refine fin_bool (by simp) rfl ?_; first | (simp_all; done) | (simp_all; omega) | (simp only [eq_comm (a := true), eq_comm (a := false), decide_eq_true_eq, decide_eq_false_iff_not] at *; omega) | grind)
theorem s_cCompare (a b : Ct) : EvP Γ 75 [a.e, b.e] (.int .i64 (orI [cmpI a.fr b.fr, cmpI a.to b.to, cmpI a.st b.st, cmpI a.id b.id])) := by
  refine EvP_code rfl rfl ?_
  repeat' (first
 | (refine I_WS ?_; first
 | refine W_bslice (ys := [_, _, _, _]) rfl rfl rfl (by decide) rfl ?_
 | (refine I_mov ?_; first
 | refine W_mov (v := .int _ _) rfl rfl rfl ?_)
 | (refine I_load ?_; first
 | refine W_load (agg := false) (d := .int _ _) rfl rfl rfl rfl (by first | exact Nat.zero_le _ | omega) rfl ?_)
 | (refine I_call ?_; first
 | refine W_call rfl rfl rfl (s_Compare _ _) rfl rfl ?_
 | refine W_call rfl rfl rfl (s_Or _ [_, _, _, _] (by simp)) rfl rfl ?_)
 | (refine I_box ?_; first
 | refine W_boxA rfl rfl rfl rfl rfl ?_)
 | refine W_faddr rfl rfl rfl ?_
 | refine WS_nil ?_)
 | refine WC_seq ?_
 | refine WC_opsS ?_
 | refine WC_drawS ?_
 | refine WC_ret ?_
 | refine okF_intro rfl ?_)
  exact fin_int (by simp) rfl rfl
theorem s_rCompare (a b : Rg) : EvP Γ 78 [a.e, b.e] (.int .i64 (orI [cmpI a.fr b.fr, cmpI a.to b.to, cmpI a.st b.st])) := by
  refine EvP_code rfl rfl ?_
  repeat' (first
 | (refine I_WS ?_; first
 | (refine I_mov ?_; first
 | refine W_mov (v := .int _ _) rfl rfl rfl ?_)
 | (refine I_load ?_; first
 | refine W_load (agg := false) (d := .int _ _) rfl rfl rfl rfl (by first | exact Nat.zero_le _ | omega) rfl ?_)
 | (refine I_call ?_; first
 | refine W_call rfl rfl rfl (s_Compare _ _) rfl rfl ?_
 | refine W_call rfl rfl rfl (s_Or _ [_, _, _] (by simp)) rfl rfl ?_)
 | (refine I_box ?_; first
 | refine W_boxA rfl rfl rfl rfl rfl ?_)
 | refine W_faddr rfl rfl rfl ?_
 | refine W_bslice (ys := [_, _, _]) rfl rfl rfl (by decide) rfl ?_
 | refine WS_nil ?_)
 | refine WC_seq ?_
 | refine WC_opsS ?_
 | refine WC_drawS ?_
 | refine WC_ret ?_
 | refine okF_intro rfl ?_)
  exact fin_int (by simp) rfl rfl
def mx (m n : Int) : Int := if n > m then n else m
def mn (m n : Int) : Int := if n < m then n else m
theorem s_cOver (a b : Ct) : EvX Γ 76 [a.e, b.e] (fun r => ∃ t, r = .bool t) := by
  refine EvX_code rfl rfl ?_
  repeat' (first
 | (refine I_WS ?_; first
 | (refine I_mov ?_; first
 | refine W_mov (v := .bool _) rfl rfl rfl ?_)
 | (refine I_bin ?_; first
 | refine W_skip rfl ?_
 | (refine W_lss rfl rfl rfl rfl ?_ ?_ <;> intro _)
 | (refine W_eql rfl rfl rfl rfl ?_ ?_ <;> intro _))
 | (refine I_load ?_; first
 | refine W_skip rfl ?_
 | refine W_load (agg := false) (d := .int _ _) rfl rfl rfl rfl (by first | exact Nat.zero_le _ | omega) rfl ?_)
 | (refine I_pick ?_; first
 | refine W_pick (v := .bool _) rfl rfl rfl rfl ?_)
 | (refine I_box ?_; first
 | refine W_boxA rfl rfl rfl rfl rfl ?_)
 | refine W_min2 rfl rfl rfl rfl ?_
 | refine W_max2 rfl rfl rfl rfl ?_
 | refine W_faddr rfl rfl rfl ?_
 | refine W_skip rfl ?_
 | refine WS_nil ?_)
 | refine WC_seq ?_
 | refine WC_opsS ?_
 | refine WC_ret ?_)
  all_goals exact ⟨.inr rfl, _, rfl, _, rfl⟩
theorem s_rOver (a b : Rg) : EvX Γ 79 [a.e, b.e] (fun r => ∃ t, r = .bool t) := by
  refine EvX_code rfl rfl ?_
  repeat' (first
 | (refine I_WS ?_; first
 | (refine I_mov ?_; first
 | refine W_mov (v := .bool _) rfl rfl rfl ?_)
 | (refine I_bin ?_; first
 | refine W_skip rfl ?_
 | (refine W_lss rfl rfl rfl rfl ?_ ?_ <;> intro _)
 | (refine W_eql rfl rfl rfl rfl ?_ ?_ <;> intro _))
 | (refine I_load ?_; first
 | refine W_skip rfl ?_
 | refine W_load (agg := false) (d := .int _ _) rfl rfl rfl rfl (by first | exact Nat.zero_le _ | omega) rfl ?_)
 | (refine I_pick ?_; first
 | refine W_pick (v := .bool _) rfl rfl rfl rfl ?_)
 | (refine I_box ?_; first
 | refine W_boxA rfl rfl rfl rfl rfl ?_)
 | refine W_min2 rfl rfl rfl rfl ?_
 | refine W_max2 rfl rfl rfl rfl ?_
 | refine W_faddr rfl rfl rfl ?_
 | refine W_skip rfl ?_
 | refine WS_nil ?_)
 | refine WC_seq ?_
 | refine WC_opsS ?_
 | refine WC_ret ?_)
  all_goals exact ⟨.inr rfl, _, rfl, _, rfl⟩
end Go.Vit

/-
  Contacts and ranges: the place of the first one that a test takes; a right table.
-/
namespace Go.Vit
open Go.Ev
set_option linter.unusedVariables false
set_option linter.unusedSimpArgs false
/-- The place of the first one that a test takes, or -1. -/
def idx {α : Type} (f : α → Bool) : List α → Nat → Int
  | [], _ => -1
  | x :: l, n => if f x = true then n else idx f l (n + 1)
theorem idx_mid {α : Type} {f : α → Bool} : ∀ {pre post : List α} {x : α} (n : Nat), (∀ y ∈ pre, f y = false) → f x = true → idx f (pre ++ x :: post) n = ((n + pre.length : Nat) : Int)
  | [], post, x, n, _, hx => by simp only [List.nil_append, idx]; rw [if_pos hx]; rfl
  | y :: pre, post, x, n, h, hx => by
    simp only [List.cons_append, idx]
    rw [if_neg (by rw [h y (by simp)]; simp), idx_mid (n + 1) (fun z hz => h z (by simp [hz])) hx, List.length_cons]
    congr 1
    omega
theorem idx_none {α : Type} {f : α → Bool} : ∀ {l : List α} (n : Nat), (∀ y ∈ l, f y = false) → idx f l n = -1
  | [], _, _ => rfl
  | y :: l, n, h => by
    simp only [idx]
    rw [if_neg (by rw [h y (by simp)]; simp), idx_none (n + 1) (fun z hz => h z (by simp [hz]))]
theorem idx_cases {α : Type} (f : α → Bool) : ∀ (l : List α), (idx f l 0 = -1 ∧ (∀ y ∈ l, f y = false) ∧ l.find? f = none) ∨ ∃ pre x post, l = pre ++ x :: post ∧ idx f l 0 = (pre.length : Nat) ∧ f x = true ∧ l.find? f = some x := by
  intro l
  by_cases h : ∀ y ∈ l, f y = false
  · exact .inl ⟨idx_none 0 h, h, List.find?_eq_none.mpr (fun x hx => by rw [h x hx]; simp)⟩
  · refine .inr ?_
    have : ∃ pre x post, l = pre ++ x :: post ∧ (∀ y ∈ pre, f y = false) ∧ f x = true := by
      induction l with
      | nil => exact absurd (by simp) h
      | cons a l ih =>
        by_cases ha : f a = true
        · exact ⟨[], a, l, rfl, by simp, ha⟩
        · obtain ⟨pre, x, post, h1, h2, h3⟩ := ih (fun hh => h (fun y hy => by
            rcases List.mem_cons.mp hy with rfl | hy
            · simpa using ha
            · exact hh y hy))
          refine ⟨a :: pre, x, post, by rw [h1]; rfl, fun y hy => ?_, h3⟩
          rcases List.mem_cons.mp hy with rfl | hy
          · simpa using ha
          · exact h2 y hy
    obtain ⟨pre, x, post, h1, h2, h3⟩ := this
    refine ⟨pre, x, post, h1, ?_, h3, ?_⟩
    · rw [h1, idx_mid 0 h2 h3]; simp
    · rw [h1, List.find?_append, List.find?_eq_none.mpr (fun y hy => by rw [h2 y hy]; simp), List.find?_cons_of_pos h3]
      rfl
theorem l_mid {α : Type} {l pre post : List α} {x : α} (h : l = pre ++ x :: post) : l[pre.length]? = some x := by rw [h]; simp
theorem l_cIdx (f : Ct → Bool) (fn q : Nat) (l : List Ct) (hll : l.length ≤ 1073741824) (t : Tok) (sz : Nat) (hs : sz = 6 ∨ l = []) (st : Store) (hp : ∀ c ∈ l, EvRO Γ fn [c.e, .ptr q 0] st (.bool (f c))) : ∀ (post pre : List Ct), l = pre ++ post → (∀ y ∈ pre, f y = false) →
    ∀ (ρ : Nat → D), ρ 0 = .slice t sz (l.map Ct.e) → ρ 1 = .func fn [.ptr q 0] → ρ 7 = .int .i64 l.length → ρ 8 = .int .i64 pre.length → ∀ (Q : X → (Nat → D) → Store → Prop),
    ((∀ y ∈ l, f y = false) → ∀ ρ', Q (.exit 0) ρ' st) → (∀ ρ', ρ' 4 = .int .i64 (idx f l 0) → Q .ret ρ' st) → WC Γ (.loop c_slices_IndexFunc_Contact_l0) ρ st Q := by
  intro post
  induction post with
  | nil =>
    intro pre hpp hn ρ h0 h1 h7 h8 Q hQ hQ2
    rw [List.append_nil] at hpp
    subst hpp
    rw [← upd_self h0, ← upd_self h1, ← upd_self h7, ← upd_self h8]
    refine WC_loop ?_
    repeat' (first
 | (refine I_WS ?_; first
 | (refine I_bin ?_; first
 | refine W_lssF rfl rfl rfl rfl (by omega) ?_)
 | refine WS_nil ?_)
 | refine WC_seq ?_
 | refine WC_opsS ?_
 | refine WC_condF rfl ?_
 | refine WC_exit ?_)
    exact hQ hn _
  | cons x post ih =>
    intro pre hpp hn ρ h0 h1 h7 h8 Q hQ hQ2
    have hv := l_mid hpp
    have hlen : l.length = pre.length + (post.length + 1) := by rw [hpp]; simp
    have hpx := hp x (by rw [hpp]; simp)
    have hsz : sz = 6 := by
      rcases hs with h | h
      · exact h
      · rw [h] at hlen; simp at hlen
    subst hsz
    have hpl : pre.length < (l.map Ct.e).length := by simp; omega
    rw [← upd_self h0, ← upd_self h1, ← upd_self h7, ← upd_self h8]
    refine WC_loop ?_
    repeat' (first
 | (refine I_WS ?_; first
 | refine W_iaddr (j := pre.length) rfl rfl rfl rfl rfl hpl ?_
 | (refine I_mov ?_; first
 | refine W_mov (v := .int _ _) rfl rfl rfl ?_
 | refine W_mov (v := .slice _ _ _) rfl rfl rfl ?_
 | refine W_mov (v := .func _ _) rfl rfl rfl ?_)
 | (refine I_bin ?_; first
 | refine W_lssT rfl rfl rfl rfl (by omega) ?_
 | refine W_add rfl rfl rfl rfl (by first | exact w64 (by omega) | rfl) ?_)
 | (refine I_load ?_; first
 | refine W_loadE (agg := true) (d := .agg [_, _, _, _, _, _]) rfl rfl rfl hv rfl ?_)
 | (refine I_call ?_; first
 | (refine W_callROB rfl rfl rfl hpx rfl ?_ ?_ <;> intro _))
 | refine WS_nil ?_)
 | refine WC_seq ?_
 | refine WC_opsS ?_
 | refine WC_skip ?_
 | refine WC_condT rfl ?_
 | refine WC_condF rfl ?_
 | refine WC_block ?_
 | refine WC_ret ?_)
    · rename_i hx
      refine hQ2 _ ?_
      have e : idx f l 0 = (pre.length : Nat) := by rw [hpp, idx_mid 0 hn hx]; simp
      rw [e]
      rfl
    · rename_i hx
      refine ih (pre ++ [x]) (by simp [hpp]) (fun b hb => ?_) _ rfl rfl rfl (by rw [List.length_append]; rfl) Q hQ hQ2
      rcases List.mem_append.mp hb with hb | hb
      · exact hn b hb
      · rw [List.mem_singleton.mp hb]
        exact hx
theorem s_cIdx (f : Ct → Bool) (fn q : Nat) (l : List Ct) (hll : l.length ≤ 1073741824) (t : Tok) (sz : Nat) (hs : sz = 6 ∨ l = []) (st : Store) (hp : ∀ c ∈ l, EvRO Γ fn [c.e, .ptr q 0] { st with lim := st.next, tlim := st.ntok } (.bool (f c))) : EvRO Γ 53 [.slice t sz (l.map Ct.e), .func fn [.ptr q 0]] st (.int .i64 (idx f l 0)) := by
  refine EvRO_code rfl rfl rfl ?_
  repeat' (first
 | (refine I_WS ?_; first
 | (refine I_mov ?_; first
 | refine W_mov (v := .int _ _) rfl rfl rfl ?_
 | refine W_mov (v := .slice _ _ _) rfl rfl rfl ?_)
 | refine W_lenM rfl rfl rfl ?_
 | refine WS_nil ?_)
 | refine WC_seq ?_
 | refine WC_opsS ?_
 | refine WC_block ?_)
  refine l_cIdx f fn q l hll t.strip sz hs _ hp l [] rfl (by simp) _ rfl rfl rfl rfl _ (fun hn ρ => ?_) (fun ρ h4 => ?_)
  · rw [idx_none 0 hn]
    repeat' (first
 | (refine I_WS ?_; first
 | (refine I_mov ?_; first
 | refine W_mov (v := .int _ _) rfl rfl rfl ?_)
 | refine WS_nil ?_)
 | refine WC_seq ?_
 | refine WC_opsS ?_
 | refine WC_ret ?_)
    exact ⟨.inr rfl, rfl⟩
  · rw [← upd_self h4]
    exact ⟨.inr rfl, rfl⟩
theorem s_cCont (f : Ct → Bool) (fn q : Nat) (l : List Ct) (hll : l.length ≤ 1073741824) (t : Tok) (sz : Nat) (hs : sz = 6 ∨ l = []) (st : Store) (hp : ∀ st', st'.boxes q = st.boxes q → st.next ≤ st'.next → ∀ c ∈ l, EvRO Γ fn [c.e, .ptr q 0] st' (.bool (f c))) : EvRO Γ 49 [.slice t sz (l.map Ct.e), .func fn [.ptr q 0]] st (.bool (decide (0 ≤ idx f l 0))) := by
  refine EvRO_code rfl rfl rfl ?_
  have hI := fun t => s_cIdx f fn q l hll t sz hs { st with lim := st.next, tlim := st.ntok } (hp _ rfl (Nat.le_refl _))
  repeat' (first
 | (refine I_WS ?_; first
 | (refine I_mov ?_; first
 | refine W_mov (v := .bool _) rfl rfl rfl ?_
 | refine W_mov (v := .slice _ _ _) rfl rfl rfl ?_
 | refine W_mov (v := .func _ _) rfl rfl rfl ?_)
 | (refine I_bin ?_; first
 | (refine W_geq rfl rfl rfl rfl ?_ ?_ <;> intro _))
 | (refine I_call ?_; first
 | refine W_callRO rfl rfl (nf2 rfl) (hI _) rfl rfl ?_)
 | refine WS_nil ?_)
 | refine WC_seq ?_
 | refine WC_opsS ?_
 | refine WC_ret ?_)
  all_goals
    rename_i h
    exact ⟨.inr rfl, by simp only [h, decide_true, decide_false]; rfl⟩
end Go.Vit

/-
  Ranges: the place of the first one that a test takes; the tests; contacts.Find, ranges.Owlt.
-/
namespace Go.Vit
open Go.Ev
set_option linter.unusedVariables false
set_option linter.unusedSimpArgs false
theorem l_rIdx (f : Rg → Bool) (fn q : Nat) (l : List Rg) (hll : l.length ≤ 1073741824) (t : Tok) (sz : Nat) (hs : sz = 5 ∨ l = []) (st : Store) (hp : ∀ c ∈ l, EvRO Γ fn [c.e, .ptr q 0] st (.bool (f c))) : ∀ (post pre : List Rg), l = pre ++ post → (∀ y ∈ pre, f y = false) →
    ∀ (ρ : Nat → D), ρ 0 = .slice t sz (l.map Rg.e) → ρ 1 = .func fn [.ptr q 0] → ρ 7 = .int .i64 l.length → ρ 8 = .int .i64 pre.length → ∀ (Q : X → (Nat → D) → Store → Prop),
    ((∀ y ∈ l, f y = false) → ∀ ρ', Q (.exit 0) ρ' st) → (∀ ρ', ρ' 4 = .int .i64 (idx f l 0) → Q .ret ρ' st) → WC Γ (.loop c_slices_IndexFunc_Range_l0) ρ st Q := by
  intro post
  induction post with
  | nil =>
    intro pre hpp hn ρ h0 h1 h7 h8 Q hQ hQ2
    rw [List.append_nil] at hpp
    subst hpp
    rw [← upd_self h0, ← upd_self h1, ← upd_self h7, ← upd_self h8]
    refine WC_loop ?_
    repeat' (first
 | (refine I_WS ?_; first
 | (refine I_bin ?_; first
 | refine W_lssF rfl rfl rfl rfl (by omega) ?_)
 | refine WS_nil ?_)
 | refine WC_seq ?_
 | refine WC_opsS ?_
 | refine WC_condF rfl ?_
 | refine WC_exit ?_)
    exact hQ hn _
  | cons x post ih =>
    intro pre hpp hn ρ h0 h1 h7 h8 Q hQ hQ2
    have hv := l_mid hpp
    have hlen : l.length = pre.length + (post.length + 1) := by rw [hpp]; simp
    have hpx := hp x (by rw [hpp]; simp)
    have hsz : sz = 5 := by
      rcases hs with h | h
      · exact h
      · rw [h] at hlen; simp at hlen
    subst hsz
    have hpl : pre.length < (l.map Rg.e).length := by simp; omega
    rw [← upd_self h0, ← upd_self h1, ← upd_self h7, ← upd_self h8]
    refine WC_loop ?_
    repeat' (first
 | (refine I_WS ?_; first
 | refine W_iaddr (j := pre.length) rfl rfl rfl rfl rfl hpl ?_
 | (refine I_mov ?_; first
 | refine W_mov (v := .int _ _) rfl rfl rfl ?_
 | refine W_mov (v := .slice _ _ _) rfl rfl rfl ?_
 | refine W_mov (v := .func _ _) rfl rfl rfl ?_)
 | (refine I_bin ?_; first
 | refine W_lssT rfl rfl rfl rfl (by omega) ?_
 | refine W_add rfl rfl rfl rfl (by first | exact w64 (by omega) | rfl) ?_)
 | (refine I_load ?_; first
 | refine W_loadE (agg := true) (d := .agg [_, _, _, _, _]) rfl rfl rfl hv rfl ?_)
 | (refine I_call ?_; first
 | (refine W_callROB rfl rfl rfl hpx rfl ?_ ?_ <;> intro _))
 | refine WS_nil ?_)
 | refine WC_seq ?_
 | refine WC_opsS ?_
 | refine WC_skip ?_
 | refine WC_condT rfl ?_
 | refine WC_condF rfl ?_
 | refine WC_block ?_
 | refine WC_ret ?_)
    · rename_i hx
      refine hQ2 _ ?_
      have e : idx f l 0 = (pre.length : Nat) := by rw [hpp, idx_mid 0 hn hx]; simp
      rw [e]
      rfl
    · rename_i hx
      refine ih (pre ++ [x]) (by simp [hpp]) (fun b hb => ?_) _ rfl rfl rfl (by rw [List.length_append]; rfl) Q hQ hQ2
      rcases List.mem_append.mp hb with hb | hb
      · exact hn b hb
      · rw [List.mem_singleton.mp hb]
        exact hx
theorem s_rIdx (f : Rg → Bool) (fn q : Nat) (l : List Rg) (hll : l.length ≤ 1073741824) (t : Tok) (sz : Nat) (hs : sz = 5 ∨ l = []) (st : Store) (hp : ∀ c ∈ l, EvRO Γ fn [c.e, .ptr q 0] { st with lim := st.next, tlim := st.ntok } (.bool (f c))) : EvRO Γ 58 [.slice t sz (l.map Rg.e), .func fn [.ptr q 0]] st (.int .i64 (idx f l 0)) := by
  refine EvRO_code rfl rfl rfl ?_
  repeat' (first
 | (refine I_WS ?_; first
 | (refine I_mov ?_; first
 | refine W_mov (v := .int _ _) rfl rfl rfl ?_
 | refine W_mov (v := .slice _ _ _) rfl rfl rfl ?_)
 | refine W_lenM rfl rfl rfl ?_
 | refine WS_nil ?_)
 | refine WC_seq ?_
 | refine WC_opsS ?_
 | refine WC_block ?_)
  refine l_rIdx f fn q l hll t.strip sz hs _ hp l [] rfl (by simp) _ rfl rfl rfl rfl _ (fun hn ρ => ?_) (fun ρ h4 => ?_)
  · rw [idx_none 0 hn]
    repeat' (first
 | (refine I_WS ?_; first
 | (refine I_mov ?_; first
 | refine W_mov (v := .int _ _) rfl rfl rfl ?_)
 | refine WS_nil ?_)
 | refine WC_seq ?_
 | refine WC_opsS ?_
 | refine WC_ret ?_)
    exact ⟨.inr rfl, rfl⟩
  · rw [← upd_self h4]
    exact ⟨.inr rfl, rfl⟩
theorem s_rCont (f : Rg → Bool) (fn q : Nat) (l : List Rg) (hll : l.length ≤ 1073741824) (t : Tok) (sz : Nat) (hs : sz = 5 ∨ l = []) (st : Store) (hp : ∀ st', st'.boxes q = st.boxes q → st.next ≤ st'.next → ∀ c ∈ l, EvRO Γ fn [c.e, .ptr q 0] st' (.bool (f c))) : EvRO Γ 50 [.slice t sz (l.map Rg.e), .func fn [.ptr q 0]] st (.bool (decide (0 ≤ idx f l 0))) := by
  refine EvRO_code rfl rfl rfl ?_
  have hI := fun t => s_rIdx f fn q l hll t sz hs { st with lim := st.next, tlim := st.ntok } (hp _ rfl (Nat.le_refl _))
  repeat' (first
 | (refine I_WS ?_; first
 | (refine I_mov ?_; first
 | refine W_mov (v := .bool _) rfl rfl rfl ?_
 | refine W_mov (v := .slice _ _ _) rfl rfl rfl ?_
 | refine W_mov (v := .func _ _) rfl rfl rfl ?_)
 | (refine I_bin ?_; first
 | (refine W_geq rfl rfl rfl rfl ?_ ?_ <;> intro _))
 | (refine I_call ?_; first
 | refine W_callRO rfl rfl (nf2 rfl) (hI _) rfl rfl ?_)
 | refine WS_nil ?_)
 | refine WC_seq ?_
 | refine WC_opsS ?_
 | refine WC_ret ?_)
  all_goals
    rename_i h
    exact ⟨.inr rfl, by first | (rw [decide_eq_true h]; rfl) | (rw [decide_eq_false h]; rfl) | (rw [decide_eq_false (by omega)]; rfl) | (rw [decide_eq_true (by omega)]; rfl)⟩

theorem s_old1 (c : Ct) (q : Nat) (a b d : D) (n : Int) (st : Store) (h0 : (st.boxes q).bind Box.cs = some [a, b, .int .i64 n, d]) (hn : q < st.next) : EvRO Γ 47 [c.e, .ptr q 0] st (.bool (decide (c.en ≤ n))) := by
  refine EvRO_code rfl rfl rfl ?_
  repeat' (first
 | (refine I_WS ?_; first
 | (refine I_mov ?_; first
 | refine W_mov (v := .bool _) rfl rfl rfl ?_)
 | (refine I_bin ?_; first
 | (refine W_leq rfl rfl rfl rfl ?_ ?_ <;> intro _))
 | (refine I_load ?_; first
 | refine W_loadC (agg := false) (d := .int _ _) rfl rfl rfl (bxs (Nat.ne_of_lt hn) h0) hn rfl ?_
 | refine W_load (agg := false) (d := .int _ _) rfl rfl rfl (bxc rfl) (Nat.le_refl _) rfl ?_)
 | (refine I_box ?_; first
 | refine W_boxA rfl rfl rfl rfl rfl ?_)
 | refine W_faddr rfl rfl rfl ?_
 | refine WS_nil ?_)
 | refine WC_seq ?_
 | refine WC_opsS ?_
 | refine WC_ret ?_)
  all_goals
    rename_i h
    exact ⟨.inr rfl, by first | (rw [decide_eq_true h]; rfl) | (rw [decide_eq_false h]; rfl) | (rw [decide_eq_false (by omega)]; rfl) | (rw [decide_eq_true (by omega)]; rfl)⟩
theorem s_old2 (c : Rg) (q : Nat) (a b d : D) (n : Int) (st : Store) (h0 : (st.boxes q).bind Box.cs = some [a, b, .int .i64 n, d]) (hn : q < st.next) : EvRO Γ 48 [c.e, .ptr q 0] st (.bool (decide (c.en ≤ n))) := by
  refine EvRO_code rfl rfl rfl ?_
  repeat' (first
 | (refine I_WS ?_; first
 | (refine I_mov ?_; first
 | refine W_mov (v := .bool _) rfl rfl rfl ?_)
 | (refine I_bin ?_; first
 | (refine W_leq rfl rfl rfl rfl ?_ ?_ <;> intro _))
 | (refine I_load ?_; first
 | refine W_loadC (agg := false) (d := .int _ _) rfl rfl rfl (bxs (Nat.ne_of_lt hn) h0) hn rfl ?_
 | refine W_load (agg := false) (d := .int _ _) rfl rfl rfl (bxc rfl) (Nat.le_refl _) rfl ?_)
 | (refine I_box ?_; first
 | refine W_boxA rfl rfl rfl rfl rfl ?_)
 | refine W_faddr rfl rfl rfl ?_
 | refine WS_nil ?_)
 | refine WC_seq ?_
 | refine WC_opsS ?_
 | refine WC_ret ?_)
  all_goals
    rename_i h
    exact ⟨.inr rfl, by first | (rw [decide_eq_true h]; rfl) | (rw [decide_eq_false h]; rfl) | (rw [decide_eq_false (by omega)]; rfl) | (rw [decide_eq_true (by omega)]; rfl)⟩
theorem s_of1 (c : Ct) (q : Nat) (n : Int) (st : Store) (h0 : (st.boxes q).bind Box.cs = some [.int .i64 n]) (hn : q < st.next) : EvRO Γ 80 [c.e, .ptr q 0] st (.bool (decide (c.id = n))) := by
  refine EvRO_code rfl rfl rfl ?_
  repeat' (first
 | (refine I_WS ?_; first
 | (refine I_mov ?_; first
 | refine W_mov (v := .bool _) rfl rfl rfl ?_)
 | (refine I_bin ?_; first
 | (refine W_eql rfl rfl rfl rfl ?_ ?_ <;> intro _))
 | (refine I_load ?_; first
 | refine W_loadC (agg := false) (d := .int _ _) rfl rfl rfl (bxs (Nat.ne_of_lt hn) h0) hn rfl ?_
 | refine W_load (agg := false) (d := .int _ _) rfl rfl rfl (bxc rfl) (Nat.le_refl _) rfl ?_)
 | (refine I_box ?_; first
 | refine W_boxA rfl rfl rfl rfl rfl ?_)
 | refine W_faddr rfl rfl rfl ?_
 | refine WS_nil ?_)
 | refine WC_seq ?_
 | refine WC_opsS ?_
 | refine WC_ret ?_)
  all_goals
    rename_i h
    exact ⟨.inr rfl, by first | (rw [decide_eq_true h]; rfl) | (rw [decide_eq_false h]; rfl) | (rw [decide_eq_false (by omega)]; rfl) | (rw [decide_eq_true (by omega)]; rfl)⟩
/-- Is it a range of a contact? -/
def cov (c : Ct) (r : Rg) : Bool := decide (r.fr = c.fr ∧ r.to = c.to ∧ r.st ≤ c.st ∧ c.en ≤ r.en)
theorem s_cov (r : Rg) (c : Ct) (q : Nat) (st : Store) (h0 : (st.boxes q).bind Box.cs = some c.e.cells) (hn : q < st.next) : EvRO Γ 57 [r.e, .ptr q 0] st (.bool (cov c r)) := by
  refine EvRO_code rfl rfl rfl ?_
  unfold cov
  repeat' (first
 | (refine I_WS ?_; first
 | (refine I_mov ?_; first
 | refine W_mov (v := .bool _) rfl rfl rfl ?_)
 | (refine I_bin ?_; first
 | refine W_skip rfl ?_
 | (refine W_leq rfl rfl rfl rfl ?_ ?_ <;> intro _)
 | (refine W_eql rfl rfl rfl rfl ?_ ?_ <;> intro _))
 | (refine I_load ?_; first
 | refine W_skip rfl ?_
 | refine W_loadC (agg := false) (d := .int _ _) rfl rfl rfl (bxs (Nat.ne_of_lt hn) h0) hn rfl ?_
 | refine W_load (agg := false) (d := .int _ _) rfl rfl rfl (bxc rfl) (Nat.le_refl _) rfl ?_)
 | (refine I_pick ?_; first
 | refine W_pick (v := .bool _) rfl rfl rfl rfl ?_)
 | (refine I_box ?_; first
 | refine W_boxA rfl rfl rfl rfl rfl ?_)
 | refine W_faddr rfl rfl rfl ?_
 | refine W_skip rfl ?_
 | refine WS_nil ?_)
 | refine WC_seq ?_
 | refine WC_opsS ?_
 | refine WC_ret ?_)
  all_goals
    refine ⟨.inr rfl, ?_⟩
    first
    | (rw [decide_eq_true (by refine ⟨?_, ?_, ?_, ?_⟩ <;> assumption)]; rfl)
    | (rw [decide_eq_false (by rintro ⟨_, _, _, _⟩; contradiction)]; rfl)
/-- How long signals take at a contact. -/
def owl (rs : List Rg) (c : Ct) : Option Int := (rs.find? (cov c)).map Rg.ow
theorem s_Owlt (rs : List Rg) (c : Ct) (hll : rs.length ≤ 1073741824) (t : Tok) (sz : Nat) (hs : sz = 5 ∨ rs = []) : EvP Γ 29 [.slice t sz (rs.map Rg.e), c.e] (.tuple [.int .i64 ((owl rs c).getD 0), .bool (owl rs c).isSome]) := by
  refine EvP_code rfl rfl ?_
  have hI := fun (st : Store) (h0 : (st.boxes 0).bind Box.cs = some c.e.cells) (hn : 0 < st.next) (t : Tok) => s_rIdx (cov c) 57 0 rs hll t sz hs st (fun r _ => s_cov r c 0 { st with lim := st.next, tlim := st.ntok } h0 hn)
  unfold owl
  rcases idx_cases (cov c) rs with ⟨e1, _, e2⟩ | ⟨pre, x, post, e0, e1, e3, e2⟩
  · rw [e2]
    rw [e1] at hI
    repeat' (first
 | (refine I_WS ?_; first
 | (refine I_mov ?_; first
 | refine W_mov (v := .int _ _) rfl rfl rfl ?_
 | refine W_mov (v := .bool _) rfl rfl rfl ?_
 | refine W_mov (v := .slice _ _ _) rfl rfl rfl ?_
 | refine W_mov (v := .func _ _) rfl rfl rfl ?_)
 | (refine I_bin ?_; first
 | refine W_geqF rfl rfl rfl rfl (by omega) ?_)
 | (refine I_call ?_; first
 | refine W_callRO rfl rfl (nf2 rfl) (hI _ rfl (Nat.succ_pos _) _) rfl rfl ?_)
 | (refine I_box ?_; first
 | refine W_boxA rfl rfl rfl rfl rfl ?_)
 | refine W_mkfunc (cs := [.ptr _ _]) rfl rfl rfl ?_
 | refine WS_nil ?_)
 | refine WC_seq ?_
 | refine WC_opsS ?_
 | refine WC_skip ?_
 | refine WC_condF rfl ?_
 | refine WC_ret ?_)
    exact fin_ground (r' := .tuple [.int _ _, .bool _]) (.inr rfl) rfl rfl rfl
  · rw [e2]
    rw [e1] at hI
    have hv := l_mid e0
    have hlen : rs.length = pre.length + (post.length + 1) := by rw [e0]; simp
    have hpl : pre.length < (rs.map Rg.e).length := by simp; omega
    have hsz : sz = 5 := by
      rcases hs with h | h
      · exact h
      · rw [h] at hlen; simp at hlen
    subst hsz
    repeat' (first
 | (refine I_WS ?_; first
 | refine W_iaddr (j := pre.length) rfl rfl rfl rfl rfl hpl ?_
 | (refine I_mov ?_; first
 | refine W_mov (v := .int _ _) rfl rfl rfl ?_
 | refine W_mov (v := .bool _) rfl rfl rfl ?_
 | refine W_mov (v := .slice _ _ _) rfl rfl rfl ?_
 | refine W_mov (v := .func _ _) rfl rfl rfl ?_)
 | (refine I_bin ?_; first
 | refine W_geqT rfl rfl rfl rfl (by omega) ?_)
 | (refine I_load ?_; first
 | refine W_loadE (agg := false) (d := .int _ _) rfl rfl rfl hv rfl ?_)
 | (refine I_call ?_; first
 | refine W_callRO rfl rfl (nf2 rfl) (hI _ rfl (Nat.succ_pos _) _) rfl rfl ?_)
 | (refine I_box ?_; first
 | refine W_boxA rfl rfl rfl rfl rfl ?_)
 | refine W_faddrE rfl rfl rfl ?_
 | refine W_mkfunc (cs := [.ptr _ _]) rfl rfl rfl ?_
 | refine WS_nil ?_)
 | refine WC_seq ?_
 | refine WC_opsS ?_
 | refine WC_condT rfl ?_
 | refine WC_ret ?_)
    exact fin_ground (r' := .tuple [.int _ _, .bool _]) (.inr rfl) rfl rfl rfl
end Go.Vit

/-
  contacts.Find, contacts.Right, ranges.Right, plan.Right.
-/
namespace Go.Vit
open Go.Ev
set_option linter.unusedVariables false
set_option linter.unusedSimpArgs false
theorem s_of (n : Int) (st : Store) : EvRWX Γ 54 [.int .i64 n] st (fun r st' => r = .func 80 [.ptr st.next 0] ∧ (st'.boxes st.next).bind Box.cs = some [.int .i64 n] ∧ st'.next = st.next + 1 ∧ st'.lim = st.lim ∧ ∀ q, q < st.next → st'.boxes q = st.boxes q) := by
  refine EvRWX_code rfl rfl ?_
  repeat' (first
 | (refine I_WS ?_; first
 | refine W_mov (v := .nilfunc) rfl rfl rfl ?_
 | (refine I_mov ?_; first
 | refine W_mov (v := .func _ _) rfl rfl rfl ?_)
 | (refine I_box ?_; first
 | refine W_box1 (v := .int _ _) rfl rfl rfl rfl rfl ?_)
 | refine W_mkfunc (cs := [.ptr _ _]) rfl rfl rfl ?_
 | refine WS_nil ?_)
 | refine WC_seq ?_
 | refine WC_opsS ?_
 | refine WC_ret ?_)
  exact ⟨.inr rfl, _, rfl, rfl, bxc rfl, rfl, rfl, fun q hq => upd_ne _ _ (Nat.ne_of_lt hq)⟩
def fndC (n : Int) (l : List Ct) : Option Ct := l.find? (fun c => decide (c.id = n))
def zeroC : Ct := ⟨0, 0, 0, 0, 0, 0⟩
theorem resFindC {ρ : Nat → D} {st : Store} {p : Nat} {cs : List D} {t : Bool} (h2 : ρ 4 = .ptr p 0) (h3 : ρ 5 = .bool t) (hb : (st.boxes p).bind Box.cs = some cs) (hl : st.lim ≤ p) (hs : cs.length = 6) : resAll ρ st c_contacts_Find.res = some (.tuple [.agg cs, .bool t]) := by
  have e : cs.take 6 = cs := List.take_of_length_le (by omega)
  simp [resAll, resD, c_contacts_Find, h2, h3, Store.cellsAt, hb, Nat.not_lt.mpr hl, cut, hs, e]
theorem s_cFind (n : Int) (l : List Ct) (hll : l.length ≤ 1073741824) (t : Tok) (sz : Nat) (hs : sz = 6 ∨ l = []) : EvP Γ 25 [.slice t sz (l.map Ct.e), .int .i64 n] (.tuple [((fndC n l).getD zeroC).e, .bool (fndC n l).isSome]) := by
  refine EvP_code rfl rfl ?_
  have hI := fun (st : Store) (h0 : (st.boxes 1).bind Box.cs = some [.int .i64 n]) (hn : 1 < st.next) (t : Tok) => s_cIdx (fun c => decide (c.id = n)) 80 1 l hll t sz hs st (fun r _ => s_of1 r 1 n { st with lim := st.next, tlim := st.ntok } h0 hn)
  unfold fndC
  rcases idx_cases (fun c : Ct => decide (c.id = n)) l with ⟨e1, _, e2⟩ | ⟨pre, x, post, e0, e1, e3, e2⟩
  · rw [e2]
    rw [e1] at hI
    repeat' (first
 | (refine I_WS ?_; first
 | refine W_store (cs' := [_, _, _, _, _, _]) rfl rfl (hq 0 (Nat.succ_pos _)) rfl (by rw [hlim]; exact Nat.zero_le _) rfl rfl rfl ?_
 | (refine I_mov ?_; first
 | refine W_mov (v := .int _ _) rfl rfl rfl ?_
 | refine W_mov (v := .bool _) rfl rfl rfl ?_
 | refine W_mov (v := .slice _ _ _) rfl rfl rfl ?_)
 | (refine I_bin ?_; first
 | refine W_geqF rfl rfl rfl rfl (by omega) ?_)
 | (refine I_call ?_; first
 | (refine W_callRWX0 rfl rfl (s_of n _) ?_ <;> rintro _ st1 ⟨rfl, hb, hn, hlim, hq⟩)
 | refine W_callRO rfl rfl (nf2 rfl) (hI _ hb (by rw [hn]; exact Nat.lt_succ_self _) _) rfl rfl ?_)
 | (refine I_build ?_; first
 | refine W_build (cs := [_, _, _, _, _, _]) rfl rfl rfl ?_)
 | refine W_alloc rfl rfl ?_
 | refine WS_nil ?_)
 | refine WC_seq ?_
 | refine WC_opsS ?_
 | refine WC_skip ?_
 | refine WC_condF rfl ?_
 | refine WC_ret ?_)
    refine ⟨.inr rfl, ?_⟩
    rw [resFindC (p := 0) (cs := zeroC.e.cells) (t := false) (by rfl) (by rfl) (by show (upd st1.boxes 0 _ 0).bind Box.cs = _; rw [upd_same]; rfl) (by dsimp only; rw [hlim]; exact Nat.zero_le _) (by rfl)]
    rfl
  · rw [e2]
    rw [e1] at hI
    have hv := l_mid e0
    have hlen : l.length = pre.length + (post.length + 1) := by rw [e0]; simp
    have hpl : pre.length < (l.map Ct.e).length := by simp; omega
    have hsz : sz = 6 := by
      rcases hs with h | h
      · exact h
      · rw [h] at hlen; simp at hlen
    subst hsz
    repeat' (first
 | (refine I_WS ?_; first
 | refine W_iaddr (j := pre.length) rfl rfl rfl rfl rfl hpl ?_
 | refine W_store (cs' := [_, _, _, _, _, _]) rfl rfl (hq 0 (Nat.succ_pos _)) rfl (by rw [hlim]; exact Nat.zero_le _) rfl rfl rfl ?_
 | (refine I_mov ?_; first
 | refine W_mov (v := .int _ _) rfl rfl rfl ?_
 | refine W_mov (v := .bool _) rfl rfl rfl ?_
 | refine W_mov (v := .slice _ _ _) rfl rfl rfl ?_)
 | (refine I_bin ?_; first
 | refine W_geqT rfl rfl rfl rfl (by omega) ?_)
 | (refine I_load ?_; first
 | refine W_loadE (agg := true) (d := .agg [_, _, _, _, _, _]) rfl rfl rfl hv rfl ?_)
 | (refine I_call ?_; first
 | (refine W_callRWX0 rfl rfl (s_of n _) ?_ <;> rintro _ st1 ⟨rfl, hb, hn, hlim, hq⟩)
 | refine W_callRO rfl rfl (nf2 rfl) (hI _ hb (by rw [hn]; exact Nat.lt_succ_self _) _) rfl rfl ?_)
 | refine W_alloc rfl rfl ?_
 | refine WS_nil ?_)
 | refine WC_seq ?_
 | refine WC_opsS ?_
 | refine WC_condT rfl ?_
 | refine WC_ret ?_)
    refine ⟨.inr rfl, ?_⟩
    rw [resFindC (p := 0) (cs := x.e.cells) (t := true) (by rfl) (by rfl) (by show (upd st1.boxes 0 _ 0).bind Box.cs = _; rw [upd_same]; rfl) (by dsimp only; rw [hlim]; exact Nat.zero_le _) (by rfl)]
    rfl
end Go.Vit

/-
  contacts.Right: its loop.
-/
namespace Go.Vit
open Go.Ev
set_option linter.unusedVariables false
set_option linter.unusedSimpArgs false
/-- Each contact may be, and no two have one ID. -/
def Good (l : List Ct) : Prop := (∀ c ∈ l, c.ok) ∧ (l.map Ct.id).Nodup
theorem Good.snoc {l : List Ct} {c : Ct} (h : Good l) (hc : c.ok) (hn : c.id ∉ l.map Ct.id) : Good (l ++ [c]) := by
  refine ⟨fun d hd => ?_, ?_⟩
  · rcases List.mem_append.mp hd with h1 | h1
    · exact h.1 d h1
    · rw [List.mem_singleton.mp h1]; exact hc
  · rw [List.map_append, List.nodup_append]
    refine ⟨h.2, by simp, fun a ha b hb => ?_⟩
    simp at hb
    rw [hb]
    rintro rfl
    exact hn ha
set_option maxHeartbeats 4000000 in
theorem l_cRight (l : List Ct) (hll : l.length ≤ 1073741824) (hI : ∀ c ∈ l, In64 c.en) (t : Tok) (sz : Nat) (hs : sz = 6 ∨ l = []) : ∀ (post pre : List Ct), l = pre ++ post → Good pre → ∀ (ρ : Nat → D) (st : Store) (kv : List (Int × D)), st.lim ≤ 0 → 0 < st.next → st.boxes 0 = some (.map kv) → (∀ n, kvGet n kv = if n ∈ pre.map Ct.id then some (.bool true) else none) →
    ρ 0 = .slice t sz (l.map Ct.e) → ρ 3 = .map 0 → ρ 7 = .slice t sz (l.map Ct.e) → ρ 8 = .int .i64 l.length → ρ 9 = .int .i64 pre.length → ∀ (Q : X → (Nat → D) → Store → Prop),
    (Good l → ∀ ρ' st', ρ' 0 = .slice t sz (l.map Ct.e) → Q (.exit 0) ρ' st') → (∀ ρ' st', ρ' 2 = .bool false → Q .ret ρ' st') → WC Γ (.loop c_contacts_Right_l0) ρ st Q := by
  intro post
  induction post with
  | nil =>
    intro pre hpp hG ρ st kv hlim hnx hb0 hkv h0 h3 h7 h8 h9 Q hQ hQ2
    rw [List.append_nil] at hpp
    subst hpp
    rw [← upd_self h0, ← upd_self h3, ← upd_self h7, ← upd_self h8, ← upd_self h9]
    refine WC_loop ?_
    repeat' (first
 | (refine I_WS ?_; first
 | (refine I_bin ?_; first
 | refine W_lssF rfl rfl rfl rfl (by omega) ?_)
 | refine WS_nil ?_)
 | refine WC_seq ?_
 | refine WC_opsS ?_
 | refine WC_condF rfl ?_
 | refine WC_exit ?_)
    exact hQ hG _ _ rfl
  | cons x post ih =>
    intro pre hpp hG ρ st kv hlim hnx hb0 hkv h0 h3 h7 h8 h9 Q hQ hQ2
    have hv := l_mid hpp
    have hlen : l.length = pre.length + (post.length + 1) := by rw [hpp]; simp
    have hsz : sz = 6 := by
      rcases hs with h | h
      · exact h
      · rw [h] at hlen; simp at hlen
    subst hsz
    have hlim2 : st.lim ≤ st.next := by omega
    have h0n : (0 : Nat) ≠ st.next := by omega
    have hpl : pre.length < (l.map Ct.e).length := by simp; omega
    have hpl2 : pre.length - 1 < (l.map Ct.e).length := by simp; omega
    have hltl : (pre.length : Int) < l.length := by omega
    have hok := s_cok x (hI x (by rw [hpp]; simp))
    have hkx : (kvGet x.id kv).getD (.bool false) = .bool (decide (x.id ∈ pre.map Ct.id)) := by
      rw [hkv]
      by_cases h : x.id ∈ pre.map Ct.id
      · rw [if_pos h, decide_eq_true h]; rfl
      · rw [if_neg h, decide_eq_false h]; rfl
    obtain ⟨y, hvy⟩ : ∃ y, l[pre.length - 1]? = some y := ⟨l[pre.length - 1]'(by omega), List.getElem?_eq_getElem _⟩
    obtain ⟨r, ⟨tt, rfl⟩, hov⟩ := s_cOver y x
    have hcm := s_cCompare y x
    generalize orI [cmpI y.fr x.fr, cmpI y.to x.to, cmpI y.st x.st, cmpI y.id x.id] = cm at hcm
    rw [← upd_self h0, ← upd_self h3, ← upd_self h7, ← upd_self h8, ← upd_self h9]
    refine WC_loop ?_
    have hnext : x.ok → x.id ∉ pre.map Ct.id → ∀ (ρ' : Nat → D) (st' : Store), st'.lim ≤ 0 → 0 < st'.next → st'.boxes 0 = some (.map (kvSet x.id (.bool true) kv)) → ρ' 0 = .slice t 6 (l.map Ct.e) → ρ' 3 = .map 0 → ρ' 7 = .slice t 6 (l.map Ct.e) → ρ' 8 = .int .i64 l.length → ρ' 9 = .int .i64 ((pre.length : Int) + 1) → WC Γ (.loop c_contacts_Right_l0) ρ' st' Q := by
      intro g1 g2 ρ' st' e1 e2 e3 e4 e5 e6 e7 e8
      refine ih (pre ++ [x]) (by simp [hpp]) (hG.snoc g1 g2) ρ' st' _ e1 e2 e3 (fun n => ?_) e4 e5 e6 e7 (by rw [List.length_append]; exact e8) Q hQ hQ2
      rw [kvGet_set, hkv, List.map_append]
      by_cases hn : n = x.id
      · rw [if_pos hn, if_pos (by simp [hn])]
      · rw [if_neg hn]
        by_cases hm : n ∈ pre.map Ct.id
        · rw [if_pos hm, if_pos (List.mem_append_left _ hm)]
        · rw [if_neg hm, if_neg (by
            intro h
            rcases List.mem_append.mp h with h | h
            · exact hm h
            · simp at h; exact hn h)]
    clear ih hkv hI hpp
    generalize hdi : decide (x.id ∈ pre.map Ct.id) = di at hkx
    generalize hdo : decide x.ok = dok at hok
    by_cases hz : 0 < pre.length
    · have hsub : IntKind.i64.wrap ((pre.length : Int) - 1) = ((pre.length - 1 : Nat) : Int) := by rw [w64 (by omega)]; omega
      have hz' : (0 : Int) < pre.length := by omega
      repeat' (first
 | (refine I_WS ?_; first
 | refine W_sub (s := ((pre.length - 1 : Nat) : Int)) rfl rfl rfl rfl hsub ?_
 | refine W_iaddr (j := pre.length) rfl rfl rfl rfl rfl hpl ?_
 | refine W_iaddr (j := pre.length - 1) rfl rfl rfl rfl rfl hpl2 ?_
 | refine W_store (cs' := [_, _, _, _, _, _]) rfl rfl (upd_same _ _ _) rfl hlim2 rfl rfl rfl ?_
 | (refine W_lookupB rfl rfl rfl ((upd_ne _ _ h0n).trans ((upd_ne _ _ h0n).trans hb0)) hkx rfl ?_ ?_ <;> intro _)
 | refine W_mapset (v := .bool true) rfl rfl rfl ((upd_ne _ _ h0n).trans ((upd_ne _ _ h0n).trans hb0)) hlim rfl rfl ?_
 | (refine I_mov ?_; first
 | refine W_skip rfl ?_
 | refine W_mov (v := .int _ _) rfl rfl rfl ?_
 | refine W_mov (v := .bool _) rfl rfl rfl ?_
 | refine W_mov (v := .slice _ _ _) rfl rfl rfl ?_
 | refine W_mov (v := .map _) rfl rfl rfl ?_)
 | (refine I_bin ?_; first
 | refine W_skip rfl ?_
 | refine W_lssT rfl rfl rfl rfl (by omega) ?_
 | refine W_gtrT rfl rfl rfl rfl (by omega) ?_
 | (refine W_geq rfl rfl rfl rfl ?_ ?_ <;> intro _)
 | refine W_add rfl rfl rfl rfl (by first | exact w64 (by omega) | rfl) ?_)
 | (refine I_load ?_; first
 | refine W_skip rfl ?_
 | refine W_loadE (agg := true) (d := .agg [_, _, _, _, _, _]) rfl rfl rfl hv rfl ?_
 | refine W_loadE (agg := true) (d := .agg [_, _, _, _, _, _]) rfl rfl rfl hvy rfl ?_
 | refine W_load (agg := false) (d := .int _ _) rfl rfl rfl (bxc rfl) hlim2 rfl ?_
 | refine W_load (agg := true) (d := .agg [_, _, _, _, _, _]) rfl rfl rfl (bxc rfl) hlim2 rfl ?_)
 | (refine I_call ?_; first
 | refine W_skip rfl ?_
 | (refine W_callB rfl rfl rfl hok rfl ?_ ?_ <;> intro _)
 | (refine W_callB rfl rfl rfl hov rfl ?_ ?_ <;> intro _)
 | refine W_call rfl rfl rfl hcm rfl rfl ?_)
 | (refine I_pick ?_; first
 | refine W_pick (v := .bool _) rfl rfl rfl rfl ?_
 | refine W_skip rfl ?_)
 | refine W_not rfl rfl rfl ?_
 | refine W_faddr rfl rfl rfl ?_
 | refine W_alloc rfl rfl ?_
 | refine W_skip rfl ?_
 | refine WS_nil ?_)
 | refine WC_seq ?_
 | refine WC_opsS ?_
 | refine WC_drawS ?_
 | refine WC_skip ?_
 | refine WC_condT rfl ?_
 | refine WC_condF rfl ?_
 | refine WC_block ?_
 | refine WC_ret ?_
 | refine okF_intro rfl ?_)
      all_goals first
        | (refine hQ2 _ _ ?_; rfl; done)
        | skip
      · refine hnext ?_ ?_ _ _ ?_ ?_ ?_ ?_ ?_ ?_ ?_ ?_
        · exact of_decide_eq_true (hdo.trans (by assumption))
        · exact of_decide_eq_false (hdi.trans (by assumption))
        · exact hlim
        · exact Nat.succ_pos _
        · dsimp only
          rw [upd_same]
        · rfl
        · rfl
        · rfl
        · rfl
        · rfl
    · have hz' : (pre.length : Int) ≤ 0 := by omega
      repeat' (first
 | (refine I_WS ?_; first
 | refine W_iaddr (j := pre.length) rfl rfl rfl rfl rfl hpl ?_
 | refine W_store (cs' := [_, _, _, _, _, _]) rfl rfl (upd_same _ _ _) rfl hlim2 rfl rfl rfl ?_
 | (refine W_lookupB rfl rfl rfl ((upd_ne _ _ h0n).trans ((upd_ne _ _ h0n).trans hb0)) hkx rfl ?_ ?_ <;> intro _)
 | refine W_mapset (v := .bool true) rfl rfl rfl ((upd_ne _ _ h0n).trans ((upd_ne _ _ h0n).trans hb0)) hlim rfl rfl ?_
 | (refine I_mov ?_; first
 | refine W_skip rfl ?_
 | refine W_mov (v := .int _ _) rfl rfl rfl ?_
 | refine W_mov (v := .bool _) rfl rfl rfl ?_
 | refine W_mov (v := .map _) rfl rfl rfl ?_)
 | (refine I_bin ?_; first
 | refine W_skip rfl ?_
 | refine W_lssT rfl rfl rfl rfl (by omega) ?_
 | refine W_gtrF rfl rfl rfl rfl (by omega) ?_
 | refine W_add rfl rfl rfl rfl (by first | exact w64 (by omega) | rfl) ?_)
 | (refine I_load ?_; first
 | refine W_skip rfl ?_
 | refine W_loadE (agg := true) (d := .agg [_, _, _, _, _, _]) rfl rfl rfl hv rfl ?_
 | refine W_load (agg := false) (d := .int _ _) rfl rfl rfl (bxc rfl) hlim2 rfl ?_
 | refine W_load (agg := true) (d := .agg [_, _, _, _, _, _]) rfl rfl rfl (bxc rfl) hlim2 rfl ?_)
 | (refine I_call ?_; first
 | refine W_skip rfl ?_
 | (refine W_callB rfl rfl rfl hok rfl ?_ ?_ <;> intro _))
 | (refine I_pick ?_; first
 | refine W_pick (v := .bool _) rfl rfl rfl rfl ?_
 | refine W_skip rfl ?_)
 | refine W_not rfl rfl rfl ?_
 | refine W_faddr rfl rfl rfl ?_
 | refine W_alloc rfl rfl ?_
 | refine W_skip rfl ?_
 | refine WS_nil ?_)
 | refine WC_seq ?_
 | refine WC_opsS ?_
 | refine WC_drawS ?_
 | refine WC_skip ?_
 | refine WC_condT rfl ?_
 | refine WC_condF rfl ?_
 | refine WC_block ?_
 | refine WC_ret ?_
 | refine okF_intro rfl ?_)
      all_goals first
        | (refine hQ2 _ _ ?_; rfl; done)
        | skip
      · refine hnext ?_ ?_ _ _ ?_ ?_ ?_ ?_ ?_ ?_ ?_ ?_
        · exact of_decide_eq_true (hdo.trans (by assumption))
        · exact of_decide_eq_false (hdi.trans (by assumption))
        · exact hlim
        · exact Nat.succ_pos _
        · dsimp only
          rw [upd_same]
        · rfl
        · rfl
        · rfl
        · rfl
        · rfl
end Go.Vit

/-
  contacts.Right, ranges.Right, plan.Right.
-/
namespace Go.Vit
open Go.Ev
set_option linter.unusedVariables false
set_option linter.unusedSimpArgs false
theorem s_cRight (l : List Ct) (hll : l.length ≤ 1073741824) (hI : ∀ c ∈ l, In64 c.en) (t : Tok) (sz : Nat) (hs : sz = 6 ∨ l = []) : EvX Γ 51 [.slice t sz (l.map Ct.e)] (fun r => ∃ b, r = .bool b ∧ (b = true → Good l)) := by
  refine EvX_code rfl rfl ?_
  repeat' (first
 | (refine I_WS ?_; first
 | refine W_lenM rfl rfl rfl ?_
 | (refine I_mov ?_; first
 | refine W_mov (v := .int _ _) rfl rfl rfl ?_
 | refine W_mov (v := .bool _) rfl rfl rfl ?_
 | refine W_mov (v := .slice _ _ _) rfl rfl rfl ?_
 | refine W_mov (v := .map _) rfl rfl rfl ?_)
 | refine W_mkmap rfl rfl ?_
 | refine WS_nil ?_)
 | refine WC_seq ?_
 | refine WC_opsS ?_
 | refine WC_block ?_)
  refine l_cRight l hll hI t sz hs l [] rfl ⟨by simp, by simp⟩ _ _ [] ?_ ?_ ?_ (fun n => ?_) ?_ ?_ ?_ ?_ ?_ _ (fun hG ρ' st' h0 => ?_) (fun ρ' st' h2 => ?_)
  · exact Nat.le_refl _
  · exact Nat.succ_pos _
  · rfl
  · simp [kvGet]
  · rfl
  · rfl
  · rfl
  · rfl
  · rfl
  · rw [← upd_self h0]
    repeat' (first
 | (refine I_WS ?_; first
 | refine W_lenM rfl rfl rfl ?_
 | (refine I_mov ?_; first
 | refine W_mov (v := .bool _) rfl rfl rfl ?_
 | refine W_mov (v := .slice _ _ _) rfl rfl rfl ?_)
 | (refine I_bin ?_; first
 | (refine W_leq rfl rfl rfl rfl ?_ ?_ <;> intro _))
 | refine WS_nil ?_)
 | refine WC_seq ?_
 | refine WC_opsS ?_
 | refine WC_ret ?_)
    all_goals exact ⟨.inr rfl, _, rfl, _, rfl, fun _ => hG⟩
  · rw [← upd_self h2]
    exact ⟨.inr rfl, _, rfl, false, rfl, fun h => by cases h⟩

set_option maxHeartbeats 4000000 in
theorem l_rRight (l : List Rg) (hll : l.length ≤ 1073741824) (hI : ∀ c ∈ l, In64 c.en) (t : Tok) (sz : Nat) (hs : sz = 5 ∨ l = []) : ∀ (post pre : List Rg), l = pre ++ post → ∀ (ρ : Nat → D) (st : Store), st.lim ≤ 0 →
    ρ 0 = .slice t sz (l.map Rg.e) → ρ 5 = .slice t sz (l.map Rg.e) → ρ 6 = .int .i64 l.length → ρ 7 = .int .i64 pre.length → ∀ (Q : X → (Nat → D) → Store → Prop),
    (∀ ρ' st', ρ' 0 = .slice t sz (l.map Rg.e) → Q (.exit 0) ρ' st') → (∀ ρ' st', ρ' 2 = .bool false → Q .ret ρ' st') → WC Γ (.loop c_ranges_Right_l0) ρ st Q := by
  intro post
  induction post with
  | nil =>
    intro pre hpp ρ st hlim h0 h5 h6 h7 Q hQ hQ2
    rw [List.append_nil] at hpp
    subst hpp
    rw [← upd_self h0, ← upd_self h5, ← upd_self h6, ← upd_self h7]
    refine WC_loop ?_
    repeat' (first
 | (refine I_WS ?_; first
 | (refine I_bin ?_; first
 | refine W_lssF rfl rfl rfl rfl (by omega) ?_)
 | refine WS_nil ?_)
 | refine WC_seq ?_
 | refine WC_opsS ?_
 | refine WC_condF rfl ?_
 | refine WC_exit ?_)
    exact hQ _ _ rfl
  | cons x post ih =>
    intro pre hpp ρ st hlim h0 h5 h6 h7 Q hQ hQ2
    have hv := l_mid hpp
    have hlen : l.length = pre.length + (post.length + 1) := by rw [hpp]; simp
    have hsz : sz = 5 := by
      rcases hs with h | h
      · exact h
      · rw [h] at hlen; simp at hlen
    subst hsz
    have hlim2 : st.lim ≤ st.next := by omega
    have hpl : pre.length < (l.map Rg.e).length := by simp; omega
    have hpl2 : pre.length - 1 < (l.map Rg.e).length := by simp; omega
    have hltl : (pre.length : Int) < l.length := by omega
    obtain ⟨dok, hok⟩ : ∃ d, EvP Γ 77 [x.e] (.bool d) := ⟨_, s_rok x (hI x (by rw [hpp]; simp))⟩
    obtain ⟨y, hvy⟩ : ∃ y, l[pre.length - 1]? = some y := ⟨l[pre.length - 1]'(by omega), List.getElem?_eq_getElem _⟩
    obtain ⟨r, ⟨tt, rfl⟩, hov⟩ := s_rOver y x
    have hcm := s_rCompare y x
    generalize orI [cmpI y.fr x.fr, cmpI y.to x.to, cmpI y.st x.st] = cm at hcm
    rw [← upd_self h0, ← upd_self h5, ← upd_self h6, ← upd_self h7]
    refine WC_loop ?_
    have hnext : ∀ (ρ' : Nat → D) (st' : Store), st'.lim ≤ 0 → ρ' 0 = .slice t 5 (l.map Rg.e) → ρ' 5 = .slice t 5 (l.map Rg.e) → ρ' 6 = .int .i64 l.length → ρ' 7 = .int .i64 ((pre.length : Int) + 1) → WC Γ (.loop c_ranges_Right_l0) ρ' st' Q := by
      intro ρ' st' e1 e4 e6 e7 e8
      exact ih (pre ++ [x]) (by simp [hpp]) ρ' st' e1 e4 e6 e7 (by rw [List.length_append]; exact e8) Q hQ hQ2
    clear ih hI hpp
    by_cases hz : 0 < pre.length
    · have hsub : IntKind.i64.wrap ((pre.length : Int) - 1) = ((pre.length - 1 : Nat) : Int) := by rw [w64 (by omega)]; omega
      have hz' : (0 : Int) < pre.length := by omega
      repeat' (first
 | (refine I_WS ?_; first
 | refine W_sub (s := ((pre.length - 1 : Nat) : Int)) rfl rfl rfl rfl hsub ?_
 | refine W_iaddr (j := pre.length) rfl rfl rfl rfl rfl hpl ?_
 | refine W_iaddr (j := pre.length - 1) rfl rfl rfl rfl rfl hpl2 ?_
 | refine W_store (cs' := [_, _, _, _, _]) rfl rfl (upd_same _ _ _) rfl hlim2 rfl rfl rfl ?_
 | (refine I_mov ?_; first
 | refine W_skip rfl ?_
 | refine W_mov (v := .int _ _) rfl rfl rfl ?_
 | refine W_mov (v := .bool _) rfl rfl rfl ?_
 | refine W_mov (v := .slice _ _ _) rfl rfl rfl ?_)
 | (refine I_bin ?_; first
 | refine W_skip rfl ?_
 | refine W_lssT rfl rfl rfl rfl (by omega) ?_
 | refine W_gtrT rfl rfl rfl rfl (by omega) ?_
 | (refine W_geq rfl rfl rfl rfl ?_ ?_ <;> intro _)
 | refine W_add rfl rfl rfl rfl (by first | exact w64 (by omega) | rfl) ?_)
 | (refine I_load ?_; first
 | refine W_skip rfl ?_
 | refine W_loadE (agg := true) (d := .agg [_, _, _, _, _]) rfl rfl rfl hv rfl ?_
 | refine W_loadE (agg := true) (d := .agg [_, _, _, _, _]) rfl rfl rfl hvy rfl ?_
 | refine W_load (agg := true) (d := .agg [_, _, _, _, _]) rfl rfl rfl (bxc rfl) hlim2 rfl ?_)
 | (refine I_call ?_; first
 | refine W_skip rfl ?_
 | (refine W_callB rfl rfl rfl hok rfl ?_ ?_ <;> intro _)
 | (refine W_callB rfl rfl rfl hov rfl ?_ ?_ <;> intro _)
 | refine W_call rfl rfl rfl hcm rfl rfl ?_)
 | (refine I_pick ?_; first
 | refine W_pick (v := .bool _) rfl rfl rfl rfl ?_
 | refine W_skip rfl ?_)
 | refine W_not rfl rfl rfl ?_
 | refine W_alloc rfl rfl ?_
 | refine W_skip rfl ?_
 | refine WS_nil ?_)
 | refine WC_seq ?_
 | refine WC_opsS ?_
 | refine WC_drawS ?_
 | refine WC_skip ?_
 | refine WC_condT rfl ?_
 | refine WC_condF rfl ?_
 | refine WC_block ?_
 | refine WC_ret ?_
 | refine okF_intro rfl ?_)
      all_goals first
        | (refine hQ2 _ _ ?_; rfl; done)
        | (refine hnext _ _ ?_ ?_ ?_ ?_ ?_ <;> first | exact hlim | rfl)
    · have hz' : (pre.length : Int) ≤ 0 := by omega
      repeat' (first
 | (refine I_WS ?_; first
 | refine W_iaddr (j := pre.length) rfl rfl rfl rfl rfl hpl ?_
 | refine W_store (cs' := [_, _, _, _, _]) rfl rfl (upd_same _ _ _) rfl hlim2 rfl rfl rfl ?_
 | (refine I_mov ?_; first
 | refine W_skip rfl ?_
 | refine W_mov (v := .int _ _) rfl rfl rfl ?_
 | refine W_mov (v := .bool _) rfl rfl rfl ?_)
 | (refine I_bin ?_; first
 | refine W_skip rfl ?_
 | refine W_lssT rfl rfl rfl rfl (by omega) ?_
 | refine W_gtrF rfl rfl rfl rfl (by omega) ?_
 | refine W_add rfl rfl rfl rfl (by first | exact w64 (by omega) | rfl) ?_)
 | (refine I_load ?_; first
 | refine W_skip rfl ?_
 | refine W_loadE (agg := true) (d := .agg [_, _, _, _, _]) rfl rfl rfl hv rfl ?_
 | refine W_load (agg := true) (d := .agg [_, _, _, _, _]) rfl rfl rfl (bxc rfl) hlim2 rfl ?_)
 | (refine I_call ?_; first
 | refine W_skip rfl ?_
 | (refine W_callB rfl rfl rfl hok rfl ?_ ?_ <;> intro _))
 | (refine I_pick ?_; first
 | refine W_pick (v := .bool _) rfl rfl rfl rfl ?_
 | refine W_skip rfl ?_)
 | refine W_not rfl rfl rfl ?_
 | refine W_alloc rfl rfl ?_
 | refine W_skip rfl ?_
 | refine WS_nil ?_)
 | refine WC_seq ?_
 | refine WC_opsS ?_
 | refine WC_drawS ?_
 | refine WC_skip ?_
 | refine WC_condT rfl ?_
 | refine WC_condF rfl ?_
 | refine WC_block ?_
 | refine WC_ret ?_
 | refine okF_intro rfl ?_)
      all_goals first
        | (refine hQ2 _ _ ?_; rfl; done)
        | (refine hnext _ _ ?_ ?_ ?_ ?_ ?_ <;> first | exact hlim | rfl)
theorem s_rRight (l : List Rg) (hll : l.length ≤ 1073741824) (hI : ∀ c ∈ l, In64 c.en) (t : Tok) (sz : Nat) (hs : sz = 5 ∨ l = []) : EvX Γ 52 [.slice t sz (l.map Rg.e)] (fun r => ∃ b, r = .bool b) := by
  refine EvX_code rfl rfl ?_
  repeat' (first
 | (refine I_WS ?_; first
 | refine W_lenM rfl rfl rfl ?_
 | (refine I_mov ?_; first
 | refine W_mov (v := .int _ _) rfl rfl rfl ?_
 | refine W_mov (v := .bool _) rfl rfl rfl ?_
 | refine W_mov (v := .slice _ _ _) rfl rfl rfl ?_)
 | refine WS_nil ?_)
 | refine WC_seq ?_
 | refine WC_opsS ?_
 | refine WC_block ?_)
  refine l_rRight l hll hI t sz hs l [] rfl _ _ ?_ ?_ ?_ ?_ ?_ _ (fun ρ' st' h0 => ?_) (fun ρ' st' h2 => ?_)
  · exact Nat.le_refl _
  · rfl
  · rfl
  · rfl
  · rfl
  · rw [← upd_self h0]
    repeat' (first
 | (refine I_WS ?_; first
 | refine W_lenM rfl rfl rfl ?_
 | (refine I_mov ?_; first
 | refine W_mov (v := .bool _) rfl rfl rfl ?_
 | refine W_mov (v := .slice _ _ _) rfl rfl rfl ?_)
 | (refine I_bin ?_; first
 | (refine W_leq rfl rfl rfl rfl ?_ ?_ <;> intro _))
 | refine WS_nil ?_)
 | refine WC_seq ?_
 | refine WC_opsS ?_
 | refine WC_ret ?_)
    all_goals exact ⟨.inr rfl, _, rfl, _, rfl⟩
  · rw [← upd_self h2]
    exact ⟨.inr rfl, _, rfl, false, rfl⟩
end Go.Vit

/-
  What the ledger's functions come to: the place of a contact.
-/
namespace Go.Vit
open Go.Ev
set_option linter.unusedVariables false
set_option linter.unusedSimpArgs false
/-- Where the row of a contact is, or would be. -/
def upos (l : List Bk) (id : Int) : Nat := (l.takeWhile (fun b => decide (b.id < id))).length
theorem upos_eq : ∀ (l : List Bk) (id : Int) (i : Nat), (∀ x b, x < i → l[x]? = some b → b.id < id) → (∀ b, l[i]? = some b → id ≤ b.id) → i ≤ l.length → upos l id = i
  | [], id, i, h1, h2, h3 => by simp [upos] at *; omega
  | a :: l, id, 0, h1, h2, h3 => by
    have := h2 a rfl
    simp [upos, List.takeWhile, show ¬ a.id < id by omega]
  | a :: l, id, i + 1, h1, h2, h3 => by
    have ha := h1 0 a (by omega) rfl
    have := upos_eq l id i (fun x b hx hb => h1 (x + 1) b (by omega) (by simpa using hb)) (fun b hb => h2 b (by simpa using hb)) (by simpa using h3)
    simp [upos, List.takeWhile, ha] at *
    exact this
/-- By rising IDs. -/
def Srt (l : List Bk) : Prop := l.Pairwise (fun a b => a.id < b.id)
theorem Srt.le {l : List Bk} (h : Srt l) {x y : Nat} {a b : Bk} (hxy : x ≤ y) (ha : l[x]? = some a) (hb : l[y]? = some b) : a.id ≤ b.id := by
  rcases Nat.lt_or_eq_of_le hxy with h1 | rfl
  · obtain ⟨hx, rfl⟩ := List.getElem?_eq_some_iff.mp ha
    obtain ⟨hy, rfl⟩ := List.getElem?_eq_some_iff.mp hb
    exact Int.le_of_lt (List.pairwise_iff_getElem.mp h _ _ _ _ h1)
  · rw [ha] at hb
    cases hb
    omega
theorem cmpI_neg {a b : Int} : cmpI a b < 0 ↔ a < b := by unfold cmpI; split <;> simp_all; split <;> omega
theorem cmpI_zero {a b : Int} : cmpI a b = 0 ↔ a = b := by unfold cmpI; grind
theorem shr1 (n : Int) : n.fdiv (2 ^ (Nat.min (1 : Int).toNat IntKind.u64.bits)) = n / 2 := by
  rw [show ((2 : Int) ^ (Nat.min (1 : Int).toNat IntKind.u64.bits)) = 2 from rfl]
  exact Int.fdiv_eq_ediv_of_nonneg _ (by decide)
theorem l_bs (l : List Bk) (id : Int) (hs : Srt l) (hl : l.length < 4611686018427387904) (t : Tok) (sz : Nat) (hsz : sz = 4 ∨ l = []) : ∀ (m i j : Nat), j - i ≤ m → i ≤ j → j ≤ l.length → (∀ x b, x < i → l[x]? = some b → b.id < id) → (∀ x b, j ≤ x → l[x]? = some b → id ≤ b.id) →
    ∀ (ρ : Nat → D) (h0 : ρ 0 = .slice t sz (l.map Bk.e)) (h1 : ρ 1 = .int .i64 id) (h2 : ρ 2 = .func 95 []) (h8 : ρ 8 = .int .i64 l.length) (h9 : ρ 9 = .int .i64 i) (h10 : ρ 10 = .int .i64 j) (Q : X → (Nat → D) → Store → Prop),
    (∀ ρ', ρ' 0 = .slice t sz (l.map Bk.e) → ρ' 1 = .int .i64 id → ρ' 2 = .func 95 [] → ρ' 8 = .int .i64 l.length → ρ' 9 = .int .i64 (upos l id) → Q (.exit 0) ρ' Store.empty) → WC Γ (.loop c_slices_BinarySearchFunc_Booked_l0) ρ Store.empty Q := by
  intro m
  induction m with
  | zero =>
    intro i j hm hij hj hlo hhi ρ h0 h1 h2 h8 h9 h10 Q hQ
    have hu : upos l id = i := upos_eq l id i hlo (fun b hb => hhi i b (by omega) hb) (by omega)
    rw [← upd_self h0, ← upd_self h1, ← upd_self h2, ← upd_self h8, ← upd_self h9, ← upd_self h10]
    refine WC_loop ?_
    repeat' (first
 | (refine I_WS ?_; first
 | (refine I_mov ?_; first
 | refine W_mov (v := .int _ _) rfl rfl rfl ?_)
 | (refine I_bin ?_; first
 | refine W_lssF rfl rfl rfl rfl (by omega) ?_)
 | refine WS_nil ?_)
 | refine WC_seq ?_
 | refine WC_opsS ?_
 | refine WC_condF rfl ?_
 | refine WC_exit ?_)
    exact hQ _ rfl rfl rfl rfl (by rw [hu]; rfl)
  | succ m ih =>
    intro i j hm hij hj hlo hhi ρ h0 h1 h2 h8 h9 h10 Q hQ
    by_cases hlt : i < j
    · rw [← upd_self h0, ← upd_self h1, ← upd_self h2, ← upd_self h8, ← upd_self h9, ← upd_self h10]
      have hk : (i + j) / 2 < l.length := by omega
      obtain ⟨v, hv⟩ : ∃ v, l[(i + j) / 2]? = some v := ⟨_, List.getElem?_eq_getElem hk⟩
      refine WC_loop ?_
      repeat' (first
 | (refine I_WS ?_; first
 | refine W_conv (s := (((i + j) / 2 : Nat) : Int)) rfl rfl rfl (by rw [w64 (by omega)]; omega) ?_
 | refine W_shr rfl rfl rfl rfl (by decide) (shr1 _) ?_
 | (refine I_mov ?_; first
 | refine W_mov (v := .int _ _) rfl rfl rfl ?_
 | refine W_mov (v := .slice _ _ _) rfl rfl rfl ?_
 | refine W_mov (v := .func _ _) rfl rfl rfl ?_)
 | (refine I_bin ?_; first
 | refine W_lssT rfl rfl rfl rfl (by omega) ?_
 | (refine W_lss rfl rfl rfl rfl ?_ ?_ <;> intro _)
 | refine W_add rfl rfl rfl rfl (by first | exact w64 (by omega) | rfl) ?_)
 | (refine I_load ?_; first
 | refine W_loadE (agg := true) (d := Bk.e _) rfl rfl rfl hv rfl ?_)
 | (refine I_call ?_; first
 | refine W_call rfl rfl rfl (s_at1 _ _) rfl rfl ?_)
 | refine W_conv rfl rfl rfl (by first | exact w64 (by omega) | exact wu64 (by omega) | rfl) ?_
 | refine W_iaddr rfl rfl rfl rfl (by first | rfl | exact sz_of (by assumption) (by omega)) (by first | decide | (simp only [List.length_map]; omega)) ?_
 | refine WS_nil ?_)
 | refine WC_seq ?_
 | refine WC_opsS ?_
 | refine WC_skip ?_
 | refine WC_condT rfl ?_
 | refine WC_condF rfl ?_
 | refine WC_block ?_)
      · rename_i hc
        rw [cmpI_neg] at hc
        refine ih ((i + j) / 2 + 1) j (by omega) (by omega) hj (fun x b hx hb => ?_) hhi _ rfl rfl rfl rfl rfl rfl Q hQ
        exact Int.lt_of_le_of_lt (hs.le (by omega) hb hv) hc
      · rename_i hc
        rw [cmpI_neg] at hc
        refine ih i ((i + j) / 2) (by omega) (by omega) (by omega) hlo (fun x b hx hb => ?_) _ rfl rfl rfl rfl rfl rfl Q hQ
        exact Int.le_trans (by omega) (hs.le hx hv hb)
    · have hu : upos l id = i := upos_eq l id i hlo (fun b hb => hhi i b (by omega) hb) (by omega)
      rw [← upd_self h0, ← upd_self h1, ← upd_self h2, ← upd_self h8, ← upd_self h9, ← upd_self h10]
      refine WC_loop ?_
      repeat' (first
 | (refine I_WS ?_; first
 | (refine I_mov ?_; first
 | refine W_mov (v := .int _ _) rfl rfl rfl ?_)
 | (refine I_bin ?_; first
 | refine W_lssF rfl rfl rfl rfl (by omega) ?_)
 | refine WS_nil ?_)
 | refine WC_seq ?_
 | refine WC_opsS ?_
 | refine WC_condF rfl ?_
 | refine WC_exit ?_)
      exact hQ _ rfl rfl rfl rfl (by rw [hu]; rfl)
/-- Is a contact there? -/
def fndB (l : List Bk) (id : Int) : Bool := match l[upos l id]? with | some b => decide (b.id = id) | none => false
theorem upos_le (l : List Bk) (id : Int) : upos l id ≤ l.length := (List.takeWhile_sublist _).length_le
theorem s_bs (l : List Bk) (id : Int) (hs : Srt l) (hl : l.length < 4611686018427387904) (t : Tok) (sz : Nat) (hsz : sz = 4 ∨ l = []) : EvP Γ 94 [.slice t sz (l.map Bk.e), .int .i64 id, .func 95 []] (.tuple [.int .i64 (upos l id), .bool (fndB l id)]) := by
  refine EvP_code rfl rfl ?_
  have hu := upos_le l id
  repeat' (first
 | (refine I_WS ?_; first
 | (refine I_mov ?_; first
 | refine W_mov (v := .int _ _) rfl rfl rfl ?_
 | refine W_mov (v := .bool _) rfl rfl rfl ?_
 | refine W_mov (v := .slice _ _ _) rfl rfl rfl ?_)
 | refine W_lenM rfl rfl rfl ?_
 | refine WS_nil ?_)
 | refine WC_seq ?_
 | refine WC_opsS ?_
 | refine WC_block ?_)
  refine l_bs l id hs hl t sz hsz l.length 0 l.length (by omega) (by omega) (by omega) (by omega) (fun x b hx hb => by have := (List.getElem?_eq_some_iff.mp hb).1; omega) _ rfl rfl rfl rfl rfl rfl _ ?_
  intro ρ h0 h1 h2 h8 h9
  rw [← upd_self h0, ← upd_self h1, ← upd_self h2, ← upd_self h8, ← upd_self h9]
  by_cases hlt : upos l id < l.length
  · obtain ⟨v, hv⟩ : ∃ v, l[upos l id]? = some v := ⟨_, List.getElem?_eq_getElem hlt⟩
    repeat' (first
 | (refine I_WS ?_; first
 | (refine I_mov ?_; first
 | refine W_mov (v := .int _ _) rfl rfl rfl ?_
 | refine W_mov (v := .bool _) rfl rfl rfl ?_
 | refine W_mov (v := .slice _ _ _) rfl rfl rfl ?_
 | refine W_mov (v := .func _ _) rfl rfl rfl ?_)
 | (refine I_bin ?_; first
 | refine W_lssT rfl rfl rfl rfl (by omega) ?_
 | (refine W_eql rfl rfl rfl rfl ?_ ?_ <;> intro _))
 | (refine I_load ?_; first
 | refine W_loadE (agg := true) (d := Bk.e _) rfl rfl rfl hv rfl ?_)
 | (refine I_call ?_; first
 | refine W_call rfl rfl rfl (s_at1 _ _) rfl rfl ?_)
 | (refine I_pick ?_; first
 | refine W_pick (v := .bool _) rfl rfl rfl rfl ?_)
 | refine W_iaddr rfl rfl rfl rfl (by first | rfl | exact sz_of (by assumption) (by omega)) (by first | decide | (simp only [List.length_map]; omega)) ?_
 | refine WS_nil ?_)
 | refine WC_seq ?_
 | refine WC_opsS ?_
 | refine WC_ret ?_)
    all_goals rename_i hc
    all_goals rw [cmpI_zero] at hc
    all_goals exact fin_ground (r' := .tuple [.int _ _, .bool _]) (by simp) rfl rfl (by simp [fndB, hv, hc])
  · repeat' (first
 | (refine I_WS ?_; first
 | (refine I_mov ?_; first
 | refine W_skip rfl ?_
 | refine W_mov (v := .int _ _) rfl rfl rfl ?_
 | refine W_mov (v := .bool _) rfl rfl rfl ?_)
 | (refine I_bin ?_; first
 | refine W_skip rfl ?_
 | refine W_lssF rfl rfl rfl rfl (by omega) ?_)
 | (refine I_load ?_; first
 | refine W_skip rfl ?_)
 | (refine I_call ?_; first
 | refine W_skip rfl ?_)
 | (refine I_pick ?_; first
 | refine W_pick (v := .bool _) rfl rfl rfl rfl ?_)
 | refine W_skip rfl ?_
 | refine WS_nil ?_)
 | refine WC_seq ?_
 | refine WC_opsS ?_
 | refine WC_ret ?_)
    exact fin_ground (r' := .tuple [.int _ _, .bool _]) (by simp) rfl rfl (by simp [fndB, List.getElem?_eq_none (Nat.le_of_not_lt hlt)])
theorem s_at (l : List Bk) (id : Int) (hs : Srt l) (hl : l.length < 4611686018427387904) (t : Tok) (sz : Nat) (hsz : sz = 4 ∨ l = []) : EvP Γ 81 [.slice t sz (l.map Bk.e), .int .i64 id] (.tuple [.int .i64 (upos l id), .bool (fndB l id)]) := by
  refine EvP_code rfl rfl ?_
  repeat' (first
 | (refine I_WS ?_; first
 | (refine I_mov ?_; first
 | refine W_mov (v := .int _ _) rfl rfl rfl ?_
 | refine W_mov (v := .bool _) rfl rfl rfl ?_
 | refine W_mov (v := .slice _ _ _) rfl rfl rfl ?_)
 | (refine I_call ?_; first
 | refine W_call rfl rfl rfl (s_bs l id hs hl _ _ hsz) rfl rfl ?_)
 | (refine I_extract ?_; first
 | refine W_extract (d := .int _ _) rfl rfl rfl rfl ?_
 | refine W_extract (d := .bool _) rfl rfl rfl rfl ?_)
 | refine WS_nil ?_)
 | refine WC_seq ?_
 | refine WC_opsS ?_
 | refine WC_ret ?_)
  exact fin_ground (r' := .tuple [.int _ _, .bool _]) (by simp) rfl rfl rfl
/-- The row of a contact. -/
def row (l : List Bk) (id : Int) : Bk := match l[upos l id]? with | some b => if b.id = id then b else ⟨id, 0, 0, 0⟩ | none => ⟨id, 0, 0, 0⟩
theorem s_Used (l : List Bk) (id : Int) (hs : Srt l) (hl : l.length < 4611686018427387904) (t : Tok) (sz : Nat) (hsz : sz = 4 ∨ l = []) : EvP Γ 67 [.slice t sz (l.map Bk.e), .int .i64 id] (.agg [.int .i64 (row l id).u0, .int .i64 (row l id).u1, .int .i64 (row l id).u2]) := by
  have ha := s_at l id hs hl
  refine EvP_code rfl rfl ?_
  cases hf : fndB l id with
  | true =>
    rw [hf] at ha
    have hlt : upos l id < l.length := by
      unfold fndB at hf
      split at hf
      · rename_i b hb
        exact (List.getElem?_eq_some_iff.mp hb).1
      · cases hf
    obtain ⟨v, hv⟩ : ∃ v, l[upos l id]? = some v := ⟨_, List.getElem?_eq_getElem hlt⟩
    repeat' (first
 | (refine I_WS ?_; first
 | (refine I_mov ?_; first
 | refine W_mov (v := .int _ _) rfl rfl rfl ?_
 | refine W_mov (v := .bool _) rfl rfl rfl ?_
 | refine W_mov (v := .slice _ _ _) rfl rfl rfl ?_
 | refine W_mov (v := .tuple _) rfl rfl rfl ?_)
 | (refine I_load ?_; first
 | refine W_loadE (agg := true) (d := .agg [_, _, _]) rfl rfl rfl hv rfl ?_)
 | (refine I_call ?_; first
 | refine W_call rfl rfl rfl (ha _ _ hsz) rfl rfl ?_)
 | (refine I_extract ?_; first
 | refine W_extract (d := .int _ _) rfl rfl rfl rfl ?_
 | refine W_extract (d := .bool _) rfl rfl rfl rfl ?_)
 | (refine I_store ?_; first
 | refine W_store (cs' := [_, _, _]) rfl rfl rfl rfl (by first | exact Nat.zero_le _ | omega) rfl rfl rfl ?_)
 | refine W_faddrE rfl rfl rfl ?_
 | refine W_alloc rfl rfl ?_
 | refine W_iaddr rfl rfl rfl rfl (by first | rfl | exact sz_of (by assumption) (by omega)) (by first | decide | (simp only [List.length_map]; omega)) ?_
 | refine WS_nil ?_)
 | refine WC_seq ?_
 | refine WC_opsS ?_
 | refine WC_condT rfl ?_
 | refine WC_ret ?_)
    simp only [fndB, hv, decide_eq_true_eq] at hf
    exact fin_ground (r' := .agg [.int _ _, .int _ _, .int _ _]) (by simp) rfl rfl (by simp [row, hv, hf])
  | false =>
    rw [hf] at ha
    repeat' (first
 | (refine I_WS ?_; first
 | (refine I_mov ?_; first
 | refine W_mov (v := .int _ _) rfl rfl rfl ?_
 | refine W_mov (v := .bool _) rfl rfl rfl ?_
 | refine W_mov (v := .slice _ _ _) rfl rfl rfl ?_
 | refine W_mov (v := .tuple _) rfl rfl rfl ?_)
 | (refine I_call ?_; first
 | refine W_call rfl rfl rfl (ha _ _ hsz) rfl rfl ?_)
 | (refine I_extract ?_; first
 | refine W_extract (d := .int _ _) rfl rfl rfl rfl ?_
 | refine W_extract (d := .bool _) rfl rfl rfl rfl ?_)
 | (refine I_build ?_; first
 | refine W_build (cs := [_, _, _]) rfl rfl rfl ?_)
 | (refine I_store ?_; first
 | refine W_store (cs' := [_, _, _]) rfl rfl rfl rfl (by first | exact Nat.zero_le _ | omega) rfl rfl rfl ?_)
 | refine W_alloc rfl rfl ?_
 | refine WS_nil ?_)
 | refine WC_seq ?_
 | refine WC_opsS ?_
 | refine WC_skip ?_
 | refine WC_condF rfl ?_
 | refine WC_ret ?_)
    refine fin_ground (r' := .agg [.int _ _, .int _ _, .int _ _]) (by simp) rfl rfl ?_
    unfold fndB at hf
    unfold row
    split at hf <;> simp_all
end Go.Vit

/-
  What the ledger's functions come to: how much is booked, and how much room there is.
-/
namespace Go.Vit
open Go.Ev
set_option linter.unusedVariables false
set_option linter.unusedSimpArgs false
/-- One class more. -/
def stp (s n : Int) : Int := (if 4611686018427387904 - n < s then 4611686018427387904 - n else s) + n
/-- May a row be? -/
def Bk.U (b : Bk) : Prop := (0 ≤ b.u0 ∧ b.u0 ≤ 4611686018427387904) ∧ (0 ≤ b.u1 ∧ b.u1 ≤ 4611686018427387904) ∧ (0 ≤ b.u2 ∧ b.u2 ≤ 4611686018427387904)
def bkl (b : Bk) (k : Int) : Int := if k = 0 then stp (stp (stp 0 b.u0) b.u1) b.u2 else if k = 1 then stp (stp 0 b.u1) b.u2 else if k = 2 then stp 0 b.u2 else 0
theorem bkl_in {b : Bk} (h : b.U) (k : Int) : 0 ≤ bkl b k ∧ bkl b k ≤ 4611686018427387904 := by
  unfold bkl stp
  unfold Bk.U at h
  grind
theorem s_Backlog (l : List Bk) (id k : Int) (hs : Srt l) (hl : l.length < 4611686018427387904) (hu : (row l id).U) (t : Tok) (sz : Nat) (hsz : sz = 4 ∨ l = []) : EvP Γ 35 [.slice t sz (l.map Bk.e), .int .i64 id, .int .i64 k] (.int .i64 (bkl (row l id) k)) := by
  refine EvP_code rfl rfl ?_
  have hU := s_Used l id hs hl
  generalize row l id = r at *
  unfold Bk.U at hu
  by_cases hk : 0 ≤ k ∧ k < 3
  · have hk' : k = 0 ∨ k = 1 ∨ k = 2 := by omega
    rcases hk' with rfl | rfl | rfl
    all_goals
      repeat' (first
 | (refine I_WS ?_; first
 | (refine I_mov ?_; first
 | refine W_mov (v := .int _ _) rfl rfl rfl ?_
 | refine W_mov (v := .slice _ _ _) rfl rfl rfl ?_)
 | (refine I_bin ?_; first
 | refine W_lssT rfl rfl rfl rfl (by omega) ?_
 | refine W_lssF rfl rfl rfl rfl (by omega) ?_
 | refine W_add rfl rfl rfl rfl (by first | exact w64 (by omega) | rfl) ?_
 | refine W_sub rfl rfl rfl rfl (by first | exact w64 (by omega) | rfl) ?_)
 | (refine I_load ?_; first
 | refine W_load (agg := false) (d := .int _ _) rfl rfl rfl rfl (by first | exact Nat.zero_le _ | omega) rfl ?_)
 | (refine I_call ?_; first
 | refine W_callB rfl rfl rfl (s_class _) rfl ?_ ?_ <;> intro _
 | refine W_call rfl rfl rfl (hU _ _ hsz) rfl rfl ?_)
 | (refine I_store ?_; first
 | refine W_store (cs' := [_, _, _]) rfl rfl rfl rfl (by first | exact Nat.zero_le _ | omega) rfl rfl rfl ?_)
 | refine W_not rfl rfl rfl ?_
 | refine W_min2 rfl rfl rfl rfl ?_
 | refine W_lenR rfl rfl rfl ?_
 | refine W_alloc rfl rfl ?_
 | refine W_iaddrRN rfl rfl rfl rfl rfl (by decide) ?_
 | refine W_sliceALo rfl rfl rfl rfl (by first | exact Nat.zero_le _ | omega) rfl (Nat.le_of_ble_eq_true rfl) (Nat.le_of_ble_eq_true rfl) ?_
 | refine WS_nil ?_)
 | refine WC_loop ?_
 | refine WC_seq ?_
 | refine WC_opsS ?_
 | refine WC_skip ?_
 | refine WC_condT rfl ?_
 | refine WC_condF rfl ?_
 | refine WC_block ?_
 | refine WC_exit ?_
 | refine WC_ret ?_)
      all_goals first | (exfalso; simp_all; done) | exact fin_int (by simp) rfl rfl
  · repeat' (first
 | (refine I_WS ?_; first
 | (refine I_mov ?_; first
 | refine W_mov (v := .int _ _) rfl rfl rfl ?_
 | refine W_mov (v := .slice _ _ _) rfl rfl rfl ?_)
 | (refine I_call ?_; first
 | refine W_callB rfl rfl rfl (s_class _) rfl ?_ ?_ <;> intro _)
 | refine W_not rfl rfl rfl ?_
 | refine WS_nil ?_)
 | refine WC_seq ?_
 | refine WC_opsS ?_
 | refine WC_skip ?_
 | refine WC_condT rfl ?_
 | refine WC_condF rfl ?_
 | refine WC_ret ?_)
    · rename_i hc
      exact absurd (of_decide_eq_true hc) hk
    · refine fin_int (by simp) rfl ?_
      unfold bkl
      rw [if_neg (by omega), if_neg (by omega), if_neg (by omega)]
/-- How much room there is. -/
def room (l : List Bk) (id fr to st en ra k : Int) : Int := if 0 ≤ k ∧ k < 3 then (if 0 > volC id fr to st en ra - bkl (row l id) k then 0 else volC id fr to st en ra - bkl (row l id) k) else 0
theorem s_Room (l : List Bk) (id fr to st en ra k : Int) (hb : -9223372036854775808 ≤ en ∧ en ≤ 9223372036854775807) (hs : Srt l) (hl : l.length < 4611686018427387904) (hu : (row l id).U) (t : Tok) (sz : Nat) (hsz : sz = 4 ∨ l = []) :
    EvP Γ 37 [.slice t sz (l.map Bk.e), .agg [.int .i64 id, .int .i64 fr, .int .i64 to, .int .i64 st, .int .i64 en, .int .i64 ra], .int .i64 k] (.int .i64 (room l id fr to st en ra k)) := by
  refine EvP_code rfl rfl ?_
  have hB := fun t sz hsz => s_Backlog l id k hs hl hu t sz hsz
  have hV := volC_in id fr to st en ra
  have hR := bkl_in hu k
  repeat' (first
 | (refine I_WS ?_; first
 | (refine I_mov ?_; first
 | refine W_mov (v := .int _ _) rfl rfl rfl ?_
 | refine W_mov (v := .slice _ _ _) rfl rfl rfl ?_)
 | (refine I_bin ?_; first
 | refine W_sub rfl rfl rfl rfl (by first | exact w64 (by omega) | rfl) ?_)
 | (refine I_load ?_; first
 | refine W_load (agg := false) (d := .int _ _) rfl rfl rfl rfl (by first | exact Nat.zero_le _ | omega) rfl ?_
 | refine W_load (agg := true) (d := .agg [_, _, _, _, _, _]) rfl rfl rfl rfl (by first | exact Nat.zero_le _ | omega) rfl ?_)
 | (refine I_call ?_; first
 | refine W_callB rfl rfl rfl (s_class _) rfl ?_ ?_ <;> intro _
 | refine W_call rfl rfl rfl (hB _ _ hsz) rfl rfl ?_
 | refine W_call rfl rfl rfl (s_check_Volume _ _ _ _ _ _ hb) rfl rfl ?_)
 | (refine I_box ?_; first
 | refine W_boxA rfl rfl rfl rfl rfl ?_)
 | refine W_not rfl rfl rfl ?_
 | refine W_max2 rfl rfl rfl rfl ?_
 | refine W_faddr rfl rfl rfl ?_
 | refine WS_nil ?_)
 | refine WC_seq ?_
 | refine WC_opsS ?_
 | refine WC_drawS ?_
 | refine WC_skip ?_
 | refine WC_condT rfl ?_
 | refine WC_condF rfl ?_
 | refine WC_ret ?_
 | refine okF_intro rfl ?_)
  · rename_i h
    simp only [decide_eq_true_eq] at h
    refine fin_int (by simp) rfl ?_
    unfold room
    rw [if_pos h]
  · rename_i h
    simp only [decide_eq_false_iff_not] at h
    refine fin_int (by simp) rfl ?_
    unfold room
    rw [if_neg h]
end Go.Vit

/-
  plan.Right, few, rounding up, the nearest number.
-/
namespace Go.Vit
open Go.Ev
set_option linter.unusedVariables false
set_option linter.unusedSimpArgs false
/-- A plan. -/
structure Pl where
  cs : List Ct
  rs : List Rg
  ck : Int
  ver : Int
def Pl.e (p : Pl) : D := .agg [.slice .no 6 (p.cs.map Ct.e), .slice .no 5 (p.rs.map Rg.e), .int .i64 p.ck, .int .i64 p.ver]
/-- Small enough to count, of machine numbers. -/
structure Pl.Sm (p : Pl) : Prop where
  hc : p.cs.length ≤ 1073741824
  hr : p.rs.length ≤ 1073741824
  ic : ∀ c ∈ p.cs, In64 c.en
  ir : ∀ r ∈ p.rs, In64 r.en
theorem s_Few (p : Pl) : EvP Γ 9 [p.e] (.bool (decide (p.cs.length ≤ 50 ∧ p.rs.length ≤ 50))) := by
  refine EvP_code rfl rfl ?_
  repeat' (first
 | (refine I_WS ?_; first
 | refine W_lenM rfl rfl rfl ?_
 | (refine I_mov ?_; first
 | refine W_mov (v := .bool _) rfl rfl rfl ?_)
 | (refine I_bin ?_; first
 | refine W_skip rfl ?_
 | (refine W_leq rfl rfl rfl rfl ?_ ?_ <;> intro _))
 | (refine I_load ?_; first
 | refine W_skip rfl ?_
 | refine W_load (agg := false) (d := .slice _ _ _) rfl rfl rfl rfl (by first | exact Nat.zero_le _ | omega) rfl ?_)
 | (refine I_pick ?_; first
 | refine W_pick (v := .bool _) rfl rfl rfl rfl ?_)
 | (refine I_box ?_; first
 | refine W_boxA rfl rfl rfl rfl rfl ?_)
 | refine W_faddr rfl rfl rfl ?_
 | refine W_skip rfl ?_
 | refine WS_nil ?_)
 | refine WC_seq ?_
 | refine WC_opsS ?_
 | refine WC_ret ?_)
  all_goals (refine fin_bool (by simp) rfl ?_; first | (simp_all; done) | (simp_all; omega) | (simp only [eq_comm (a := true), eq_comm (a := false), decide_eq_true_eq, decide_eq_false_iff_not] at *; omega) | grind)
theorem s_pRight (p : Pl) (h : p.Sm) : EvX Γ 24 [p.e] (fun r => ∃ b, r = .bool b ∧ (b = true → Good p.cs)) := by
  obtain ⟨_, ⟨b1, rfl, hb1⟩, hC⟩ := s_cRight p.cs h.hc h.ic .no 6 (.inl rfl)
  obtain ⟨_, ⟨b2, rfl⟩, hR⟩ := s_rRight p.rs h.hr h.ir .no 5 (.inl rfl)
  have hA := fun (st : Store) (h0 : (st.boxes 0).bind Box.cs = some p.e.cells) (hn : 0 < st.next) => s_cCont (fun c => decide (c.en ≤ p.ck)) 47 0 p.cs h.hc .no 6 (.inl rfl) st (fun st' hb hn' c hc => s_old1 c 0 _ _ _ p.ck st' (by rw [hb]; exact h0) (Nat.lt_of_lt_of_le hn hn'))
  have hB := fun (st : Store) (h0 : (st.boxes 0).bind Box.cs = some p.e.cells) (hn : 0 < st.next) => s_rCont (fun c => decide (c.en ≤ p.ck)) 48 0 p.rs h.hr .no 5 (.inl rfl) st (fun st' hb hn' c hc => s_old2 c 0 _ _ _ p.ck st' (by rw [hb]; exact h0) (Nat.lt_of_lt_of_le hn hn'))
  generalize decide (0 ≤ idx (fun c : Ct => decide (c.en ≤ p.ck)) p.cs 0) = d1 at hA
  generalize decide (0 ≤ idx (fun c : Rg => decide (c.en ≤ p.ck)) p.rs 0) = d2 at hB
  refine EvX_code rfl rfl ?_
  repeat' (first
 | (refine I_WS ?_; first
 | (refine I_mov ?_; first
 | refine W_skip rfl ?_
 | refine W_mov (v := .bool _) rfl rfl rfl ?_
 | refine W_mov (v := .func _ _) rfl rfl rfl ?_)
 | (refine I_bin ?_; first
 | refine W_skip rfl ?_
 | (refine W_lss rfl rfl rfl rfl ?_ ?_ <;> intro _)
 | (refine W_gtr rfl rfl rfl rfl ?_ ?_ <;> intro _))
 | (refine I_load ?_; first
 | refine W_skip rfl ?_
 | refine W_load (agg := false) (d := .int _ _) rfl rfl rfl rfl (by first | exact Nat.zero_le _ | omega) rfl ?_
 | refine W_load (agg := false) (d := .slice _ _ _) rfl rfl rfl rfl (by first | exact Nat.zero_le _ | omega) rfl ?_)
 | (refine I_call ?_; first
 | refine W_skip rfl ?_
 | (refine W_callROB rfl rfl (nf2 rfl) (hA _ rfl (Nat.succ_pos _)) rfl ?_ ?_ <;> intro _)
 | (refine W_callROB rfl rfl (nf2 rfl) (hB _ rfl (Nat.succ_pos _)) rfl ?_ ?_ <;> intro _)
 | (refine W_callB rfl rfl rfl hC rfl ?_ ?_ <;> intro _)
 | (refine W_callB rfl rfl rfl hR rfl ?_ ?_ <;> intro _))
 | (refine I_pick ?_; first
 | refine W_pick (v := .bool _) rfl rfl rfl rfl ?_)
 | (refine I_box ?_; first
 | refine W_boxA rfl rfl rfl rfl rfl ?_)
 | refine W_not rfl rfl rfl ?_
 | refine W_faddr rfl rfl rfl ?_
 | refine W_mkfunc (cs := [.ptr _ _]) rfl rfl rfl ?_
 | refine W_skip rfl ?_
 | refine WS_nil ?_)
 | refine WC_seq ?_
 | refine WC_opsS ?_
 | refine WC_skip ?_
 | refine WC_condT rfl ?_
 | refine WC_condF rfl ?_
 | refine WC_ret ?_)
  all_goals first
    | exact ⟨.inr rfl, _, rfl, false, rfl, fun h => by cases h⟩
    | exact ⟨.inr rfl, _, rfl, _, rfl, fun _ => hb1 (by assumption)⟩
/-- The quotient, rounded up. -/
def ceilI (a b : Int) : Int := a.tdiv b + (if 1 < a.tmod b then 1 else a.tmod b)
theorem ceilI_in {a b : Int} (ha : 0 ≤ a) (hb : 1 ≤ b) : 0 ≤ ceilI a b ∧ ceilI a b ≤ a + 1 := by
  unfold ceilI
  rw [Int.tdiv_eq_ediv_of_nonneg ha, Int.tmod_eq_emod_of_nonneg ha]
  have h1 := Int.ediv_nonneg ha (show 0 ≤ b by omega)
  have h2 := Int.emod_nonneg a (show b ≠ 0 by omega)
  have h3 : a / b ≤ a := Int.ediv_le_self _ ha
  split <;> omega
theorem ceilI_zero {b : Int} : ceilI 0 b = 0 := by unfold ceilI; simp
theorem s_Ceil (a b : Int) (ha : 0 ≤ a) (ha2 : a ≤ 4611686018427387904) (hb : 1 ≤ b) : EvP Γ 34 [.int .i64 a, .int .i64 b] (.tuple [.int .i64 (ceilI a b), .bool true]) := by
  refine EvP_code rfl rfl ?_
  have hc := ceilI_in ha hb
  unfold ceilI at hc ⊢
  have h1 : 0 ≤ a.tdiv b ∧ a.tdiv b ≤ a := by
    rw [Int.tdiv_eq_ediv_of_nonneg ha]
    exact ⟨Int.ediv_nonneg ha (by omega), Int.ediv_le_self _ ha⟩
  have h2 : 0 ≤ a.tmod b := by
    rw [Int.tmod_eq_emod_of_nonneg ha]
    exact Int.emod_nonneg a (by omega)
  generalize hq : a.tdiv b = q at *
  generalize hr : a.tmod b = r at *
  have hb0 : b ≠ 0 := by omega
  have hq' : IntKind.wrap .i64 (a.tdiv b) = q := by rw [hq]; exact w64 (by omega)
  have hsum : IntKind.wrap .i64 (q + if 1 < r then 1 else r) = q + if 1 < r then 1 else r := w64 (by omega)
  repeat' (first
 | (refine I_WS ?_; first
 | refine W_quo (s := q) rfl rfl rfl rfl hb0 hq' ?_
 | refine W_rem (s := r) rfl rfl rfl rfl hb0 hr ?_
 | refine W_add rfl rfl rfl rfl hsum ?_
 | (refine I_mov ?_; first
 | refine W_mov (v := .int _ _) rfl rfl rfl ?_
 | refine W_mov (v := .bool _) rfl rfl rfl ?_)
 | (refine I_bin ?_; first
 | refine W_lssF rfl rfl rfl rfl (by omega) ?_)
 | (refine I_pick ?_; first
 | refine W_pick (v := .bool _) rfl rfl rfl rfl ?_)
 | refine W_min2 rfl rfl rfl rfl ?_
 | refine WS_nil ?_)
 | refine WC_seq ?_
 | refine WC_opsS ?_
 | refine WC_drawS ?_
 | refine WC_skip ?_
 | refine WC_condF rfl ?_
 | refine WC_ret ?_
 | refine okF_intro rfl ?_)
  exact fin_ground (r' := .tuple [.int _ _, .bool _]) (.inr rfl) rfl rfl rfl
def clampI (n lo hi : Int) : Int := if n < lo then lo else if hi < n then hi else n
theorem s_Clamp (n lo hi : Int) : EvP Γ 36 [.int .i64 n, .int .i64 lo, .int .i64 hi] (.int .i64 (clampI n lo hi)) := by
  refine EvP_code rfl rfl ?_
  unfold clampI
  repeat' (first
 | (refine I_WS ?_; first
 | (refine I_mov ?_; first
 | refine W_mov (v := .int _ _) rfl rfl rfl ?_
 | refine W_mov (v := .bool _) rfl rfl rfl ?_)
 | (refine I_bin ?_; first
 | (refine W_lss rfl rfl rfl rfl ?_ ?_ <;> intro _)
 | (refine W_gtr rfl rfl rfl rfl ?_ ?_ <;> intro _))
 | refine WS_nil ?_)
 | refine WC_seq ?_
 | refine WC_opsS ?_
 | refine WC_skip ?_
 | refine WC_condT rfl ?_
 | refine WC_condF rfl ?_
 | refine WC_block ?_
 | refine WC_ret ?_)
  all_goals exact fin_int (.inr rfl) rfl (by simp [*])
end Go.Vit

/-
  What the view's functions come to: edges from a node, an edge of an ID; ViewFroms.
-/
namespace Go.Vit
open Go.Ev
set_option linter.unusedVariables false
set_option linter.unusedSimpArgs false
/-- An edge. -/
structure Eg where
  id : Int
  fr : Int
  to : Int
  op : Int
  en : Int
  ra : Int
  ow : Int
  ro : Int
deriving DecidableEq
def Eg.e (r : Eg) : D := .agg [.int .i64 r.id, .int .i64 r.fr, .int .i64 r.to, .int .i64 r.op, .int .i64 r.en, .int .i64 r.ra, .int .i64 r.ow, .int .i64 r.ro]
theorem eqAt8 {κ : IntKind} (a b c d e f g h x y z w u v s t : Int) : eqAt [.int κ a, .int κ b, .int κ c, .int κ d, .int κ e, .int κ f, .int κ g, .int κ h] [.int κ x, .int κ y, .int κ z, .int κ w, .int κ u, .int κ v, .int κ s, .int κ t] [0, 1, 2, 3, 4, 5, 6, 7] = some (decide (a = x ∧ b = y ∧ c = z ∧ d = w ∧ e = u ∧ f = v ∧ g = s ∧ h = t)) := by
  simp only [eqAt, List.getElem?_cons_zero, List.getElem?_cons_succ, if_true, Option.map_some, Bool.and_true, Bool.decide_and]
  congr 1
theorem eg_mid {l pre post : List Eg} {x : Eg} (h : l = pre ++ x :: post) : l[pre.length]? = some x := by rw [h]; simp
def fromE (n : Int) (l : List Eg) : List Eg := l.filter (fun x => decide (x.fr = n))
theorem fromE_snoc (n : Int) (l : List Eg) (x : Eg) : fromE n (l ++ [x]) = if x.fr = n then fromE n l ++ [x] else fromE n l := by
  unfold fromE
  rw [List.filter_append]
  by_cases h : x.fr = n <;> simp [h]
/-- The first edge of an ID. -/
def fnd (n : Int) : List Eg → Option Eg
  | [] => none
  | x :: l => if x.id = n then some x else fnd n l
def zeroE : Eg := ⟨0, 0, 0, 0, 0, 0, 0, 0⟩
theorem fnd_mid {n : Int} : ∀ {pre post : List Eg} {x : Eg}, (∀ y ∈ pre, y.id ≠ n) → x.id = n → fnd n (pre ++ x :: post) = some x
  | [], post, x, _, hx => by simp only [List.nil_append, fnd]; rw [if_pos hx]
  | y :: pre, post, x, h, hx => by
    simp only [List.cons_append, fnd]
    rw [if_neg (h y (by simp)), fnd_mid (fun z hz => h z (by simp [hz])) hx]
theorem fnd_none {n : Int} : ∀ {l : List Eg}, (∀ y ∈ l, y.id ≠ n) → fnd n l = none
  | [], _ => rfl
  | y :: l, h => by
    simp only [fnd]
    rw [if_neg (h y (by simp)), fnd_none (fun z hz => h z (by simp [hz]))]
theorem resFind {ρ : Nat → D} {st : Store} {p : Nat} {cs : List D} {t : Bool} (h2 : ρ 4 = .ptr p 0) (h3 : ρ 5 = .bool t) (hb : (st.boxes p).bind Box.cs = some cs) (hl : st.lim ≤ p) (hs : cs.length = 8) : resAll ρ st c_view_Find.res = some (.tuple [.agg cs, .bool t]) := by
  have e : cs.take 8 = cs := List.take_of_length_le (by omega)
  simp [resAll, resD, c_view_Find, h2, h3, Store.cellsAt, hb, Nat.not_lt.mpr hl, cut, hs, e]
theorem l_Find (n : Int) (l : List Eg) (hll : l.length ≤ 1073741824) (t0 : Tok) (sz0 : Nat) (hs0 : sz0 = 8 ∨ l = []) : ∀ (post pre : List Eg), l = pre ++ post → (∀ y ∈ pre, y.id ≠ n) → ∀ (ρ : Nat → D) (st : Store), st.lim ≤ 0 → 0 < st.next → (st.boxes 0) = some (.cells zeroE.e.cells) →
    ρ 1 = .int .i64 n → ρ 4 = .ptr 0 0 → ρ 5 = .bool false → ρ 8 = .slice t0 sz0 (l.map Eg.e) → ρ 9 = .int .i64 l.length → ρ 10 = .int .i64 pre.length → ∀ (Q : X → (Nat → D) → Store → Prop),
    ((∀ y ∈ l, y.id ≠ n) → ∀ ρ' st', st'.lim ≤ 0 → (st'.boxes 0) = some (.cells zeroE.e.cells) → ρ' 4 = .ptr 0 0 → Q (.exit 0) ρ' st') →
    (∀ x, fnd n l = some x → ∀ ρ' st', st'.lim ≤ 0 → (st'.boxes 0).bind Box.cs = some x.e.cells → ρ' 4 = .ptr 0 0 → ρ' 5 = .bool true → Q .ret ρ' st') → WC Γ (.loop c_view_Find_l0) ρ st Q := by
  intro post
  induction post with
  | nil =>
    intro pre hp hn ρ st hlim hnx hb0 h1 h4 h5 h8 h9 h10 Q hQ hQ2
    rw [List.append_nil] at hp
    subst hp
    rw [← upd_self h1, ← upd_self h4, ← upd_self h5, ← upd_self h8, ← upd_self h9, ← upd_self h10]
    refine WC_loop ?_
    repeat' (first
 | (refine I_WS ?_; first
 | (refine I_bin ?_; first
 | refine W_lssF rfl rfl rfl rfl (by omega) ?_)
 | refine WS_nil ?_)
 | refine WC_seq ?_
 | refine WC_opsS ?_
 | refine WC_condF rfl ?_
 | refine WC_exit ?_)
    refine hQ hn _ _ hlim hb0 ?_
    rfl
  | cons x post ih =>
    intro pre hp hn ρ st hlim hnx hb0 h1 h4 h5 h8 h9 h10 Q hQ hQ2
    have hv := eg_mid hp
    have hlen : l.length = pre.length + (post.length + 1) := by rw [hp]; simp
    have hsz0 : sz0 = 8 := by
      rcases hs0 with h | h
      · exact h
      · rw [h] at hlen; simp at hlen
    subst hsz0
    have hlim2 : st.lim ≤ st.next := by omega
    have h0n : (0 : Nat) ≠ st.next := by omega
    have hpl : pre.length < (l.map Eg.e).length := by simp; omega
    have hltl : (pre.length : Int) < l.length := by omega
    rw [← upd_self h1, ← upd_self h4, ← upd_self h5, ← upd_self h8, ← upd_self h9, ← upd_self h10]
    refine WC_loop ?_
    by_cases hx : x.id = n
    · repeat' (first
 | (refine I_WS ?_; first
 | refine W_iaddr (j := pre.length) rfl rfl rfl rfl rfl hpl ?_
 | refine W_store (cs' := [_, _, _, _, _, _, _, _]) rfl rfl (upd_same _ _ _) rfl hlim2 rfl rfl rfl ?_
 | refine W_store (cs' := [_, _, _, _, _, _, _, _]) rfl rfl ((upd_ne _ _ h0n).trans ((upd_ne _ _ h0n).trans hb0)) rfl hlim rfl rfl rfl ?_
 | (refine I_mov ?_; first
 | refine W_mov (v := .int _ _) rfl rfl rfl ?_
 | refine W_mov (v := .bool _) rfl rfl rfl ?_)
 | (refine I_bin ?_; first
 | refine W_lssT rfl rfl rfl rfl (by omega) ?_
 | refine W_eqlT rfl rfl rfl rfl (by omega) ?_)
 | (refine I_load ?_; first
 | refine W_loadE (agg := true) (d := .agg [_, _, _, _, _, _, _, _]) rfl rfl rfl hv rfl ?_
 | refine W_load (agg := false) (d := .int _ _) rfl rfl rfl (bxc rfl) hlim2 rfl ?_
 | refine W_load (agg := true) (d := .agg [_, _, _, _, _, _, _, _]) rfl rfl rfl (bxc rfl) hlim2 rfl ?_)
 | refine W_faddr rfl rfl rfl ?_
 | refine W_alloc rfl rfl ?_
 | refine WS_nil ?_)
 | refine WC_seq ?_
 | refine WC_opsS ?_
 | refine WC_skip ?_
 | refine WC_condT rfl ?_
 | refine WC_block ?_
 | refine WC_ret ?_)
      refine hQ2 x (by rw [hp]; exact fnd_mid hn hx) _ _ ?_ ?_ ?_ ?_
      · exact hlim
      · dsimp only
        rw [upd_same]
        rfl
      · rfl
      · rfl
    · repeat' (first
 | (refine I_WS ?_; first
 | refine W_iaddr (j := pre.length) rfl rfl rfl rfl rfl hpl ?_
 | refine W_store (cs' := [_, _, _, _, _, _, _, _]) rfl rfl (upd_same _ _ _) rfl hlim2 rfl rfl rfl ?_
 | (refine I_mov ?_; first
 | refine W_mov (v := .int _ _) rfl rfl rfl ?_)
 | (refine I_bin ?_; first
 | refine W_lssT rfl rfl rfl rfl (by omega) ?_
 | refine W_eqlF rfl rfl rfl rfl (by omega) ?_
 | refine W_add rfl rfl rfl rfl (by first | exact w64 (by omega) | rfl) ?_)
 | (refine I_load ?_; first
 | refine W_loadE (agg := true) (d := .agg [_, _, _, _, _, _, _, _]) rfl rfl rfl hv rfl ?_
 | refine W_load (agg := false) (d := .int _ _) rfl rfl rfl (bxc rfl) hlim2 rfl ?_)
 | refine W_faddr rfl rfl rfl ?_
 | refine W_alloc rfl rfl ?_
 | refine WS_nil ?_)
 | refine WC_seq ?_
 | refine WC_opsS ?_
 | refine WC_skip ?_
 | refine WC_condT rfl ?_
 | refine WC_condF rfl ?_
 | refine WC_block ?_)
      refine ih (pre ++ [x]) (by simp [hp]) (fun y hy => ?_) _ _ (by exact hlim) (by exact Nat.succ_pos _) (by exact ((upd_ne _ _ h0n).trans ((upd_ne _ _ h0n).trans hb0))) ?_ ?_ ?_ ?_ ?_ ?_ Q hQ hQ2
      · rcases List.mem_append.mp hy with h | h
        · exact hn y h
        · rw [List.mem_singleton.mp h]; exact hx
      · rfl
      · rfl
      · rfl
      · rfl
      · rfl
      · rw [List.length_append]; rfl
theorem s_Find (n : Int) (l : List Eg) (hll : l.length ≤ 1073741824) (t : Tok) (sz : Nat) (hs : sz = 8 ∨ l = []) : EvP Γ 14 [.slice t sz (l.map Eg.e), .int .i64 n] (.tuple [((fnd n l).getD zeroE).e, .bool (fnd n l).isSome]) := by
  refine EvP_code rfl rfl ?_
  repeat' (first
 | (refine I_WS ?_; first
 | refine W_lenM rfl rfl rfl ?_
 | (refine I_mov ?_; first
 | refine W_mov (v := .int _ _) rfl rfl rfl ?_
 | refine W_mov (v := .bool _) rfl rfl rfl ?_
 | refine W_mov (v := .slice _ _ _) rfl rfl rfl ?_)
 | refine W_alloc rfl rfl ?_
 | refine WS_nil ?_)
 | refine WC_seq ?_
 | refine WC_opsS ?_
 | refine WC_block ?_)
  refine l_Find n l hll t sz hs l [] rfl (by simp) _ _ (Nat.le_refl _) (by decide) rfl ?_ ?_ ?_ ?_ ?_ ?_ _ (fun hn ρ' st' hlim hb0 h4 => ?_) (fun x hx ρ' st' hlim hb0 h4 h5 => ?_)
  · rfl
  · rfl
  · rfl
  · rfl
  · rfl
  · rfl
  · rw [fnd_none hn, ← upd_self h4]
    repeat' (first
 | (refine I_WS ?_; first
 | refine W_store (cs' := [_, _, _, _, _, _, _, _]) rfl rfl hb0 rfl hlim rfl rfl rfl ?_
 | (refine I_mov ?_; first
 | refine W_mov (v := .bool _) rfl rfl rfl ?_)
 | (refine I_build ?_; first
 | refine W_build (cs := [_, _, _, _, _, _, _, _]) rfl rfl rfl ?_)
 | refine WS_nil ?_)
 | refine WC_seq ?_
 | refine WC_opsS ?_
 | refine WC_ret ?_)
    refine ⟨.inr rfl, ?_⟩
    rw [resFind (p := 0) (cs := zeroE.e.cells) (t := false) (by rfl) (by rfl) (by dsimp only; rw [upd_same]; rfl) (by exact hlim) (by rfl)]
    rfl
  · rw [hx]
    refine ⟨.inr rfl, ?_⟩
    rw [resFind h4 h5 hb0 hlim rfl]
    rfl
end Go.Vit

/-
  Sorting edges by their IDs, as the known function does it, and as plain lists.
-/
namespace Go.Ev
theorem EvRW_primS {Γ : Nat → Option FD} {st st' : Store} {f : Nat} {F : List D → Store → Option (D × Store)} {ds : List D} {r : D} (hf : Γ f = some (.primS F)) (hF : F (ds.map D.strip) st = some (r, st')) : EvRW Γ f ds st r st' := by
  refine ⟨2, fun n hn => ?_⟩
  obtain ⟨n, rfl⟩ : ∃ m, n = m + 2 := ⟨n - 2, by omega⟩
  have hp : callP Γ (n + 1) f (ds.map D.strip) = none := by simp [callP, hf]
  refine ⟨?_, by simp [callRW, hf, hF]⟩
  simp only [callRO, hf, hp]
  split <;> rfl
end Go.Ev
namespace Go.Vit
open Go.Ev
set_option linter.unusedVariables false
set_option linter.unusedSimpArgs false
def insK {α : Type} (key : α → Int) (x : α) : List α → List α
  | [] => [x]
  | y :: s => if key y < key x then y :: insK key x s else x :: y :: s
def srtK {α : Type} (key : α → Int) : List α → List α
  | [] => []
  | x :: s => insK key x (srtK key s)
theorem insK_perm {α : Type} (key : α → Int) (x : α) : ∀ l : List α, (insK key x l).Perm (x :: l)
  | [] => List.Perm.refl _
  | y :: s => by
    simp only [insK]
    split
    · exact ((insK_perm key x s).cons y).trans (List.Perm.swap x y s)
    · exact List.Perm.refl _
theorem srtK_perm {α : Type} (key : α → Int) : ∀ l : List α, (srtK key l).Perm l
  | [] => List.Perm.refl _
  | x :: s => (insK_perm key x _).trans ((srtK_perm key s).cons x)
theorem insK_map {α β : Type} (key : β → Int) (f : α → β) (x : α) : ∀ l : List α, insK key (f x) (l.map f) = (insK (fun a => key (f a)) x l).map f
  | [] => rfl
  | y :: s => by
    simp only [List.map_cons, insK]
    split
    · rw [insK_map key f x s]; rfl
    · rfl
theorem srtK_map {α β : Type} (key : β → Int) (f : α → β) : ∀ l : List α, srtK key (l.map f) = (srtK (fun a => key (f a)) l).map f
  | [] => rfl
  | x :: s => by
    simp only [List.map_cons, srtK]
    rw [srtK_map key f s, insK_map]
theorem insI_eq (x : List Int) : ∀ l : List (List Int), insI 0 x l = insK (fun a => a.getD 0 0) x l
  | [] => rfl
  | y :: s => by simp only [insI, insK, insI_eq x s]
theorem sortI_eq : ∀ l : List (List Int), sortI 0 l = srtK (fun a => a.getD 0 0) l
  | [] => rfl
  | x :: s => by simp only [sortI, srtK, sortI_eq s, insI_eq]
theorem insK_sorted {α : Type} (key : α → Int) (x : α) : ∀ l : List α, (l.Pairwise fun a b => key a ≤ key b) → (insK key x l).Pairwise fun a b => key a ≤ key b
  | [], _ => by simp [insK]
  | y :: s, h => by
    have h' := List.pairwise_cons.mp h
    simp only [insK]
    split
    · rename_i hlt
      refine List.pairwise_cons.mpr ⟨fun z hz => ?_, insK_sorted key x s h'.2⟩
      rcases List.mem_cons.mp ((insK_perm key x s).mem_iff.mp hz) with rfl | hz
      · omega
      · exact h'.1 z hz
    · rename_i hlt
      refine List.pairwise_cons.mpr ⟨fun z hz => ?_, h⟩
      rcases List.mem_cons.mp hz with rfl | hz
      · omega
      · have := h'.1 z hz
        omega
theorem srtK_sorted {α : Type} (key : α → Int) : ∀ l : List α, (srtK key l).Pairwise fun a b => key a ≤ key b
  | [] => List.Pairwise.nil
  | x :: s => insK_sorted key x _ (srtK_sorted key s)
def Eg.row (e : Eg) : List Int := [e.id, e.fr, e.to, e.op, e.en, e.ra, e.ow, e.ro]
theorem eg_cells (e : Eg) : e.e.cells = e.row.map (D.int .i64) := rfl
theorem flat_cells (es : List Eg) : (es.map Eg.e).flatMap D.cells = (es.flatMap Eg.row).map (D.int .i64) := by
  induction es with
  | nil => rfl
  | cons e es ih => rw [List.map_cons, List.flatMap_cons, ih, List.flatMap_cons, List.map_append]; rfl
theorem intsOf_map : ∀ l : List Int, intsOf (l.map (D.int .i64)) = some l
  | [] => rfl
  | x :: l => by simp only [List.map_cons, intsOf, intsOf_map l]
theorem rowsI_flat : ∀ es : List Eg, rowsI 8 es.length (es.flatMap Eg.row) = es.map Eg.row
  | [] => rfl
  | e :: es => by
    rw [List.flatMap_cons, List.length_cons, List.map_cons]
    simp only [rowsI]
    rw [List.take_left' (show e.row.length = 8 from rfl), List.drop_left' (show e.row.length = 8 from rfl), rowsI_flat es]
theorem diffB_of : ∀ l : List Int, l.Nodup → diffB l = true
  | [], _ => rfl
  | x :: l, h => by
    have h' := List.nodup_cons.mp h
    simp only [diffB, diffB_of l h'.2, Bool.and_true, Bool.not_eq_true']
    simpa using h'.1
theorem el8 {es : List Eg} : ∀ d ∈ es.map Eg.e, d.cells.length = 8 := fun d hd => by
  obtain ⟨e, _, rfl⟩ := List.mem_map.mp hd
  rfl
theorem s_sort (es : List Eg) (hn : (es.map Eg.id).Nodup) (hlen : es.length < 4611686018427387904) (st : Store) (p c : Nat) (hR : RowIs st p 8 (es.map Eg.e)) :
    ∃ st', EvRW Γ 43 [.rs p 0 8 es.length c, .func 44 []] st (.tuple []) st' ∧ RowIs st' p 8 ((srtK Eg.id es).map Eg.e) := by
  obtain ⟨hl, hp, cs, hb, hlc, htk, hpl⟩ := hR
  rw [List.length_map] at hlc htk
  have e1 : sortI 0 (es.map Eg.row) = (srtK Eg.id es).map Eg.row := by rw [sortI_eq, srtK_map]; rfl
  have e2 : ((srtK Eg.id es).map Eg.row).flatMap (fun x => x.map (D.int .i64)) = ((srtK Eg.id es).map Eg.e).flatMap D.cells := by
    rw [List.flatMap_map, List.flatMap_map]; rfl
  have hpm := (srtK_perm Eg.id es).length_eq
  have e3 : (((srtK Eg.id es).map Eg.e).flatMap D.cells).length = es.length * 8 := by
    rw [flatMap_len el8, List.length_map, hpm]
  refine ⟨{ st with boxes := upd st.boxes p (some (.row (((srtK Eg.id es).map Eg.e).flatMap D.cells ++ cs.drop (es.length * 8)))) }, EvRW_primS (F := sortF 8 0 44) rfl ?_, hl, hp, _, upd_same _ _ _, ?_, ?_, ?_⟩
  · show sortF 8 0 44 [.rs p 0 8 es.length c, .func 44 []] st = _
    simp only [sortF, hb]
    rw [htk, flat_cells, intsOf_map]
    simp only [rowsI_flat, e1, e2]
    rw [if_pos ⟨trivial, trivial, trivial, hl, hlc, hlen, by
      rw [List.map_map]
      exact diffB_of _ hn⟩]
  · rw [List.length_map, List.length_append, e3, hpm]; omega
  · rw [List.length_map, hpm, List.take_left' e3]
  · rw [List.all_append, Bool.and_eq_true]
    refine ⟨?_, ?_⟩
    · rw [flat_cells]
      simp [D.plain]
    · rw [List.all_eq_true] at hpl ⊢
      exact fun x hx => hpl x (List.mem_of_mem_drop hx)
end Go.Vit

/-
  An edge of a contact.
-/
namespace Go.Vit
open Go.Ev
set_option linter.unusedVariables false
set_option linter.unusedSimpArgs false
/-- A ledger that counts. -/
structure Led (lg : List Bk) : Prop where
  hs : Srt lg
  hl : lg.length ≤ 1073741824
  hu : ∀ id, (row lg id).U
/-- The edge of a contact, where a range is known. -/
def mkE (lg : List Bk) (c : Ct) (k o : Int) : Eg := ⟨c.id, c.fr, c.to, clampI (c.st + ceilI (bkl (row lg c.id) k) c.ra) 0 1099511627776, c.en, c.ra, o, room lg c.id c.fr c.to c.st c.en c.ra k⟩
def edg (rs : List Rg) (lg : List Bk) (k : Int) (c : Ct) : Option Eg := if c.ok then (owl rs c).map (mkE lg c k) else none
theorem resEdge {ρ : Nat → D} {st : Store} {p : Nat} {cs : List D} {t : Bool} (h2 : ρ 8 = .ptr p 0) (h3 : ρ 9 = .bool t) (hb : (st.boxes p).bind Box.cs = some cs) (hl : st.lim ≤ p) (hs : cs.length = 8) : resAll ρ st c_view_Edge.res = some (.tuple [.agg cs, .bool t]) := by
  have e : cs.take 8 = cs := List.take_of_length_le (by omega)
  simp [resAll, resD, c_view_Edge, h2, h3, Store.cellsAt, hb, Nat.not_lt.mpr hl, cut, hs, e]
theorem edge_close {ρ : Nat → D} {st : Store} {x : Option Eg} {X0 : X} (hx : X0 = .normal ∨ X0 = .ret) (h2 : ρ 8 = .ptr 2 0) (h3 : ρ 9 = .bool x.isSome) (hb : (st.boxes 2).bind Box.cs = some (x.getD zeroE).e.cells) (hl : st.lim ≤ 2) : (X0 = .normal ∨ X0 = .ret) ∧ (resAll ρ st c_view_Edge.res).bind (finP st) = some (.tuple [(x.getD zeroE).e, .bool x.isSome]) := by
  refine ⟨hx, ?_⟩
  rw [resEdge h2 h3 hb hl rfl]
  rfl
set_option maxHeartbeats 2000000 in
theorem s_Edge (p : Pl) (hp : p.Sm) (lg : List Bk) (hlg : Led lg) (c : Ct) (hc : In64 c.en) (k : Int) (t : Tok) (sz : Nat) (hsz : sz = 4 ∨ lg = []) : EvP Γ 12 [p.e, .slice t sz (lg.map Bk.e), c.e, .int .i64 k] (.tuple [((edg p.rs lg k c).getD zeroE).e, .bool (edg p.rs lg k c).isSome]) := by
  have hO := s_Owlt p.rs c hp.hr .no 5 (.inl rfl)
  have hK := s_cok c hc
  have hB := fun t => s_Backlog lg c.id k hlg.hs (by have := hlg.hl; omega) (hlg.hu _) t sz hsz
  have hR := fun t => s_Room lg c.id c.fr c.to c.st c.en c.ra k hc hlg.hs (by have := hlg.hl; omega) (hlg.hu _) t sz hsz
  have hbk := bkl_in (hlg.hu c.id) k
  refine EvP_code rfl rfl ?_
  by_cases hok : c.ok
  · cases ho : owl p.rs c with
    | none =>
      rw [ho] at hO
      have e : edg p.rs lg k c = none := by unfold edg; rw [if_pos hok, ho]; rfl
      rw [e]
      repeat' (first
 | (refine I_WS ?_; first
 | (refine I_mov ?_; first
 | refine W_mov (v := .int _ _) rfl rfl rfl ?_
 | refine W_mov (v := .bool _) rfl rfl rfl ?_
 | refine W_mov (v := .tuple _) rfl rfl rfl ?_)
 | (refine I_load ?_; first
 | refine W_skip rfl ?_
 | refine W_load (agg := false) (d := .slice _ _ _) rfl rfl rfl rfl (by first | exact Nat.zero_le _ | omega) rfl ?_
 | refine W_load (agg := true) (d := .agg [_, _, _, _, _, _]) rfl rfl rfl rfl (by first | exact Nat.zero_le _ | omega) rfl ?_)
 | (refine I_call ?_; first
 | refine W_skip rfl ?_
 | refine W_call rfl rfl rfl hO rfl rfl ?_)
 | (refine I_pick ?_; first
 | refine W_pick (v := .bool _) rfl rfl rfl rfl ?_)
 | (refine I_extract ?_; first
 | refine W_extract (d := .int _ _) rfl rfl rfl rfl ?_
 | refine W_extract (d := .bool _) rfl rfl rfl rfl ?_)
 | (refine I_build ?_; first
 | refine W_build (cs := [_, _, _, _, _, _, _, _]) rfl rfl rfl ?_)
 | (refine I_box ?_; first
 | refine W_boxA rfl rfl rfl rfl rfl ?_)
 | (refine I_store ?_; first
 | refine W_store (cs' := [_, _, _, _, _, _, _, _]) rfl rfl rfl rfl (by first | exact Nat.zero_le _ | omega) rfl rfl rfl ?_)
 | refine W_not rfl rfl rfl ?_
 | refine W_faddr rfl rfl rfl ?_
 | refine W_alloc rfl rfl ?_
 | refine W_skip rfl ?_
 | refine WS_nil ?_)
 | refine WC_seq ?_
 | refine WC_opsS ?_
 | refine WC_condT rfl ?_
 | refine WC_ret ?_)
      refine edge_close (x := none) (.inr rfl) ?_ ?_ ?_ ?_ <;> first | rfl | exact Nat.zero_le _
    | some o =>
      rw [ho] at hO
      have e : edg p.rs lg k c = some (mkE lg c k o) := by unfold edg; rw [if_pos hok, ho]; rfl
      rw [e]
      have hra : 1 ≤ c.ra := hok.2.2.2.1
      have hst : 0 ≤ c.st ∧ c.st ≤ 2147483647 := by have := hok.2.1; omega
      have hCe := s_Ceil (bkl (row lg c.id) k) c.ra hbk.1 hbk.2 hra
      have hci := ceilI_in hbk.1 hra
      unfold mkE
      generalize bkl (row lg c.id) k = bl at *
      generalize ceilI bl c.ra = ce at *
      generalize room lg c.id c.fr c.to c.st c.en c.ra k = rm at *
      rw [decide_eq_true hok] at hK
      have hCl := s_Clamp (c.st + ce) 0 1099511627776
      generalize clampI (c.st + ce) 0 1099511627776 = cl at *
      have hca : IntKind.wrap .i64 (c.st + ce) = c.st + ce := w64 (by omega)
      clear hbk hlg
      repeat' (first
 | (refine I_WS ?_; first
 | refine W_add rfl rfl rfl rfl hca ?_
 | refine W_build (cs := [_, _, _, _, _, _, _, _]) rfl rfl rfl ?_
 | (refine I_mov ?_; first
 | refine W_mov (v := .int _ _) rfl rfl rfl ?_
 | refine W_mov (v := .bool _) rfl rfl rfl ?_
 | refine W_mov (v := .slice _ _ _) rfl rfl rfl ?_
 | refine W_mov (v := .tuple _) rfl rfl rfl ?_)
 | (refine I_load ?_; first
 | refine W_load (agg := false) (d := .int _ _) rfl rfl rfl rfl (by first | exact Nat.zero_le _ | omega) rfl ?_
 | refine W_load (agg := false) (d := .slice _ _ _) rfl rfl rfl rfl (by first | exact Nat.zero_le _ | omega) rfl ?_
 | refine W_load (agg := true) (d := .agg [_, _, _, _, _, _]) rfl rfl rfl rfl (by first | exact Nat.zero_le _ | omega) rfl ?_)
 | (refine I_call ?_; first
 | refine W_call rfl rfl rfl hO rfl rfl ?_
 | refine W_call rfl rfl rfl hK rfl rfl ?_
 | refine W_call rfl rfl rfl (hB _) rfl rfl ?_
 | refine W_call rfl rfl rfl hCe rfl rfl ?_
 | refine W_call rfl rfl rfl hCl rfl rfl ?_
 | refine W_call rfl rfl rfl (hR _) rfl rfl ?_)
 | (refine I_pick ?_; first
 | refine W_pick (v := .bool _) rfl rfl rfl rfl ?_)
 | (refine I_extract ?_; first
 | refine W_extract (d := .int _ _) rfl rfl rfl rfl ?_
 | refine W_extract (d := .bool _) rfl rfl rfl rfl ?_)
 | (refine I_box ?_; first
 | refine W_boxA rfl rfl rfl rfl rfl ?_)
 | (refine I_store ?_; first
 | refine W_store (cs' := [_, _, _, _, _, _, _, _]) rfl rfl rfl rfl (by first | exact Nat.zero_le _ | omega) rfl rfl rfl ?_)
 | refine W_not rfl rfl rfl ?_
 | refine W_faddr rfl rfl rfl ?_
 | refine W_alloc rfl rfl ?_
 | refine WS_nil ?_)
 | refine WC_seq ?_
 | refine WC_opsS ?_
 | refine WC_drawS ?_
 | refine WC_skip ?_
 | refine WC_condF rfl ?_
 | refine WC_ret ?_
 | refine okF_intro rfl ?_)
      refine edge_close (x := some ⟨c.id, c.fr, c.to, cl, c.en, c.ra, o, rm⟩) (.inr rfl) ?_ ?_ ?_ ?_ <;> first | rfl | exact Nat.zero_le _
  · have e : edg p.rs lg k c = none := by unfold edg; rw [if_neg hok]
    rw [e]
    rw [decide_eq_false hok] at hK
    cases ho : owl p.rs c with
    | none =>
      rw [ho] at hO
      repeat' (first
 | (refine I_WS ?_; first
 | (refine I_mov ?_; first
 | refine W_mov (v := .int _ _) rfl rfl rfl ?_
 | refine W_mov (v := .bool _) rfl rfl rfl ?_
 | refine W_mov (v := .tuple _) rfl rfl rfl ?_)
 | (refine I_load ?_; first
 | refine W_skip rfl ?_
 | refine W_load (agg := false) (d := .slice _ _ _) rfl rfl rfl rfl (by first | exact Nat.zero_le _ | omega) rfl ?_
 | refine W_load (agg := true) (d := .agg [_, _, _, _, _, _]) rfl rfl rfl rfl (by first | exact Nat.zero_le _ | omega) rfl ?_)
 | (refine I_call ?_; first
 | refine W_skip rfl ?_
 | refine W_call rfl rfl rfl hO rfl rfl ?_)
 | (refine I_pick ?_; first
 | refine W_pick (v := .bool _) rfl rfl rfl rfl ?_)
 | (refine I_extract ?_; first
 | refine W_extract (d := .int _ _) rfl rfl rfl rfl ?_
 | refine W_extract (d := .bool _) rfl rfl rfl rfl ?_)
 | (refine I_build ?_; first
 | refine W_build (cs := [_, _, _, _, _, _, _, _]) rfl rfl rfl ?_)
 | (refine I_box ?_; first
 | refine W_boxA rfl rfl rfl rfl rfl ?_)
 | (refine I_store ?_; first
 | refine W_store (cs' := [_, _, _, _, _, _, _, _]) rfl rfl rfl rfl (by first | exact Nat.zero_le _ | omega) rfl rfl rfl ?_)
 | refine W_not rfl rfl rfl ?_
 | refine W_faddr rfl rfl rfl ?_
 | refine W_alloc rfl rfl ?_
 | refine W_skip rfl ?_
 | refine WS_nil ?_)
 | refine WC_seq ?_
 | refine WC_opsS ?_
 | refine WC_condT rfl ?_
 | refine WC_ret ?_)
      refine edge_close (x := none) (.inr rfl) ?_ ?_ ?_ ?_ <;> first | rfl | exact Nat.zero_le _
    | some o =>
      rw [ho] at hO
      repeat' (first
 | (refine I_WS ?_; first
 | (refine I_mov ?_; first
 | refine W_mov (v := .int _ _) rfl rfl rfl ?_
 | refine W_mov (v := .bool _) rfl rfl rfl ?_
 | refine W_mov (v := .tuple _) rfl rfl rfl ?_)
 | (refine I_load ?_; first
 | refine W_load (agg := false) (d := .slice _ _ _) rfl rfl rfl rfl (by first | exact Nat.zero_le _ | omega) rfl ?_
 | refine W_load (agg := true) (d := .agg [_, _, _, _, _, _]) rfl rfl rfl rfl (by first | exact Nat.zero_le _ | omega) rfl ?_)
 | (refine I_call ?_; first
 | refine W_call rfl rfl rfl hO rfl rfl ?_
 | refine W_call rfl rfl rfl hK rfl rfl ?_)
 | (refine I_pick ?_; first
 | refine W_pick (v := .bool _) rfl rfl rfl rfl ?_)
 | (refine I_extract ?_; first
 | refine W_extract (d := .int _ _) rfl rfl rfl rfl ?_
 | refine W_extract (d := .bool _) rfl rfl rfl rfl ?_)
 | (refine I_build ?_; first
 | refine W_build (cs := [_, _, _, _, _, _, _, _]) rfl rfl rfl ?_)
 | (refine I_box ?_; first
 | refine W_boxA rfl rfl rfl rfl rfl ?_)
 | (refine I_store ?_; first
 | refine W_store (cs' := [_, _, _, _, _, _, _, _]) rfl rfl rfl rfl (by first | exact Nat.zero_le _ | omega) rfl rfl rfl ?_)
 | refine W_not rfl rfl rfl ?_
 | refine W_faddr rfl rfl rfl ?_
 | refine W_alloc rfl rfl ?_
 | refine WS_nil ?_)
 | refine WC_seq ?_
 | refine WC_opsS ?_
 | refine WC_condT rfl ?_
 | refine WC_ret ?_)
      refine edge_close (x := none) (.inr rfl) ?_ ?_ ?_ ?_ <;> first | rfl | exact Nat.zero_le _
end Go.Vit
