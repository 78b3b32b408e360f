/-
  What the ledger's functions come to.
-/
import Derived.Test.YtbmhgigljbikhaaLetLetC
set_option linter.unusedVariables false
set_option linter.unusedSimpArgs false
set_option linter.unnecessarySimpa false

namespace Go.Let
open Go.Ev
set_option linter.unusedVariables false
set_option linter.unusedSimpArgs false
theorem s_num_In (n lo hi : Int) : EvP Γ 62 [.int .i64 n, .int .i64 lo, .int .i64 hi] (.bool (decide (lo ≤ n ∧ n ≤ hi))) := by
  refine EvP_code rfl rfl ?_
  repeat' (first
 | (refine I_WS ?_; first
 | (refine I_mov ?_; first
 | refine W_skip rfl ?_
 | refine W_mov (v := .int _ _) rfl rfl rfl ?_
 | refine W_mov (v := .bool _) rfl rfl rfl ?_)
 | (refine I_bin ?_; first
 | refine W_skip rfl ?_
 | (refine W_leq rfl rfl rfl rfl ?_ ?_ <;> intro _))
 | (refine I_pick ?_; first
 | refine W_pick (v := .bool _) rfl rfl rfl rfl ?_)
 | refine WS_nil ?_)
 | refine WC_seq ?_
 | refine WC_opsS ?_
 | refine WC_ret ?_)
  all_goals refine fin_bool (by simp) rfl ?_
  all_goals simp [*]
theorem s_check_Node (n : Int) : EvP Γ 71 [.int .i64 n] (.bool (decide (1 ≤ n ∧ n ≤ 255))) := by
  refine EvP_code rfl rfl ?_
  repeat' (first
 | (refine I_WS ?_; first
 | (refine I_mov ?_; first
 | refine W_mov (v := .int _ _) rfl rfl rfl ?_
 | refine W_mov (v := .bool _) rfl rfl rfl ?_)
 | (refine I_call ?_; first
 | refine W_callB rfl rfl rfl (s_num_In _ _ _) rfl ?_ ?_ <;> intro _)
 | refine WS_nil ?_)
 | refine WC_seq ?_
 | refine WC_opsS ?_
 | refine WC_ret ?_)
  all_goals refine fin_bool (by simp) rfl ?_
  all_goals simp_all
theorem s_check_way (a b : Int) : EvP Γ 60 [.int .i64 a, .int .i64 b] (.bool (decide ((1 ≤ a ∧ a ≤ 255) ∧ (1 ≤ b ∧ b ≤ 255) ∧ a ≠ b))) := by
  refine EvP_code rfl rfl ?_
  repeat' (first
 | (refine I_WS ?_; first
 | (refine I_mov ?_; first
 | refine W_skip rfl ?_
 | refine W_mov (v := .int _ _) rfl rfl rfl ?_
 | refine W_mov (v := .bool _) rfl rfl rfl ?_)
 | (refine I_bin ?_; first
 | refine W_skip rfl ?_
 | (refine W_neq rfl rfl rfl rfl ?_ ?_ <;> intro _))
 | (refine I_call ?_; first
 | refine W_skip rfl ?_
 | refine W_callB rfl rfl rfl (s_check_Node _) rfl ?_ ?_ <;> intro _)
 | (refine I_pick ?_; first
 | refine W_pick (v := .bool _) rfl rfl rfl rfl ?_)
 | refine WS_nil ?_)
 | refine WC_seq ?_
 | refine WC_opsS ?_
 | refine WC_ret ?_)
  all_goals refine fin_bool (by simp) rfl ?_
  all_goals simp_all
  all_goals omega
theorem s_check_span (a b : Int) (hb : -9223372036854775808 ≤ b ∧ b ≤ 9223372036854775807) : EvP Γ 61 [.int .i64 a, .int .i64 b] (.bool (decide (0 ≤ a ∧ a < b ∧ b ≤ 2147483647))) := by
  refine EvP_code rfl rfl ?_
  by_cases h1 : 1 ≤ b
  · repeat' (first
 | (refine I_WS ?_; first
 | (refine I_mov ?_; first
 | refine W_skip rfl ?_
 | refine W_mov (v := .int _ _) rfl rfl rfl ?_
 | refine W_mov (v := .bool _) rfl rfl rfl ?_)
 | (refine I_bin ?_; first
 | refine W_sub rfl rfl rfl rfl (by first | exact w64 (by omega) | rfl) ?_)
 | (refine I_call ?_; first
 | refine W_skip rfl ?_
 | refine W_callB rfl rfl rfl (s_num_In _ _ _) rfl ?_ ?_ <;> intro _)
 | (refine I_pick ?_; first
 | refine W_pick (v := .bool _) rfl rfl rfl rfl ?_)
 | refine WS_nil ?_)
 | refine WC_seq ?_
 | refine WC_opsS ?_
 | refine WC_ret ?_)
    all_goals refine fin_bool (by simp) rfl ?_
    all_goals simp_all
    all_goals omega
  · repeat' (first
 | (refine I_WS ?_; first
 | (refine I_mov ?_; first
 | refine W_skip rfl ?_
 | refine W_mov (v := .int _ _) rfl rfl rfl ?_
 | refine W_mov (v := .bool _) rfl rfl rfl ?_)
 | (refine I_bin ?_; first
 | refine W_sub rfl rfl rfl rfl (by first | exact w64 (by omega) | rfl) ?_)
 | (refine I_call ?_; first
 | refine W_skip rfl ?_
 | refine W_callB rfl rfl rfl (s_num_In _ _ _) rfl ?_ ?_ <;> intro _)
 | (refine I_pick ?_; first
 | refine W_pick (v := .bool _) rfl rfl rfl rfl ?_)
 | refine WS_nil ?_)
 | refine WC_seq ?_
 | refine WC_opsS ?_
 | refine WC_ret ?_)
    all_goals refine fin_bool (by simp) rfl ?_
    all_goals simp_all
    all_goals omega
/-- May a contact be? -/
def okC (id from' to start end' rate : Int) : Prop := ((1 ≤ from' ∧ from' ≤ 255) ∧ (1 ≤ to ∧ to ≤ 255) ∧ from' ≠ to) ∧ (0 ≤ start ∧ start < end' ∧ end' ≤ 2147483647) ∧ (1 ≤ id ∧ id ≤ 1048576) ∧ (1 ≤ rate ∧ rate ≤ 2147483647)
instance (a b c d e f : Int) : Decidable (okC a b c d e f) := by unfold okC; infer_instance
theorem s_check_Contact (id fr to st en ra : Int) (hb : -9223372036854775808 ≤ en ∧ en ≤ 9223372036854775807) : EvP Γ 42 [.agg [.int .i64 id, .int .i64 fr, .int .i64 to, .int .i64 st, .int .i64 en, .int .i64 ra]] (.bool (decide (okC id fr to st en ra))) := by
  refine EvP_code rfl rfl ?_
  repeat' (first
 | (refine I_WS ?_; first
 | (refine I_mov ?_; first
 | refine W_mov (v := .bool _) rfl rfl rfl ?_)
 | (refine I_load ?_; first
 | refine W_skip rfl ?_
 | refine W_load (agg := false) (d := .int _ _) rfl rfl rfl rfl (by first | exact Nat.zero_le _ | omega) rfl ?_)
 | (refine I_call ?_; first
 | refine W_skip rfl ?_
 | refine W_callB rfl rfl rfl (s_check_way _ _) rfl ?_ ?_ <;> intro _
 | refine W_callB rfl rfl rfl (s_check_span _ _ hb) rfl ?_ ?_ <;> intro _
 | refine W_callB rfl rfl rfl (s_num_In _ _ _) rfl ?_ ?_ <;> intro _)
 | (refine I_pick ?_; first
 | refine W_pick (v := .bool _) rfl rfl rfl rfl ?_)
 | (refine I_box ?_; first
 | refine W_boxA rfl rfl rfl rfl rfl ?_)
 | refine W_faddr rfl rfl rfl ?_
 | refine W_skip rfl ?_
 | refine WS_nil ?_)
 | refine WC_seq ?_
 | refine WC_opsS ?_
 | refine WC_ret ?_)
  all_goals unfold okC
  all_goals (refine fin_bool (by simp) rfl ?_; first | (simp_all; done) | (simp_all; omega) | (simp only [eq_comm (a := true), eq_comm (a := false), decide_eq_true_eq, decide_eq_false_iff_not] at *; omega) | grind)
/-- What it may carry. -/
def volC (id fr to st en ra : Int) : Int := if okC id fr to st en ra then (en - st) * ra else 0
theorem mul_bound {a b A B : Int} (ha : 0 ≤ a) (hA : a ≤ A) (hb : 0 ≤ b) (hB : b ≤ B) : 0 ≤ a * b ∧ a * b ≤ A * B :=
  ⟨Int.mul_nonneg ha hb, Int.le_trans (Int.mul_le_mul_of_nonneg_right hA hb) (Int.mul_le_mul_of_nonneg_left hB (Int.le_trans ha hA))⟩
theorem volC_in (id fr to st en ra : Int) : 0 ≤ volC id fr to st en ra ∧ volC id fr to st en ra ≤ 4611686014132420609 := by
  unfold volC
  split
  · rename_i h
    unfold okC at h
    have := mul_bound (a := en - st) (b := ra) (A := 2147483647) (B := 2147483647) (by omega) (by omega) (by omega) (by omega)
    omega
  · omega
theorem s_check_Volume (id fr to st en ra : Int) (hb : -9223372036854775808 ≤ en ∧ en ≤ 9223372036854775807) : EvP Γ 43 [.agg [.int .i64 id, .int .i64 fr, .int .i64 to, .int .i64 st, .int .i64 en, .int .i64 ra]] (.int .i64 (volC id fr to st en ra)) := by
  refine EvP_code rfl rfl ?_
  by_cases h : okC id fr to st en ra
  · have hv := volC_in id fr to st en ra
    unfold volC at hv ⊢
    rw [if_pos h] at hv ⊢
    have h' := h
    unfold okC at h'
    repeat' (first
 | (refine I_WS ?_; first
 | (refine I_mov ?_; first
 | refine W_mov (v := .int _ _) rfl rfl rfl ?_)
 | (refine I_bin ?_; first
 | refine W_sub rfl rfl rfl rfl (by first | exact w64 (by omega) | rfl) ?_
 | refine W_mul rfl rfl rfl rfl (by first | exact w64 (by omega) | rfl) ?_)
 | (refine I_load ?_; first
 | refine W_load (agg := false) (d := .int _ _) rfl rfl rfl rfl (by first | exact Nat.zero_le _ | omega) rfl ?_
 | refine W_load (agg := true) (d := .agg [_, _, _, _, _, _]) rfl rfl rfl rfl (by first | exact Nat.zero_le _ | omega) rfl ?_)
 | (refine I_call ?_; first
 | refine W_callB rfl rfl rfl (s_check_Contact _ _ _ _ _ _ hb) rfl ?_ ?_ <;> intro _)
 | (refine I_box ?_; first
 | refine W_boxA rfl rfl rfl rfl rfl ?_)
 | refine W_not rfl rfl rfl ?_
 | refine W_faddr rfl rfl rfl ?_
 | refine WS_nil ?_)
 | refine WC_seq ?_
 | refine WC_opsS ?_
 | refine WC_skip ?_
 | refine WC_condT rfl ?_
 | refine WC_condF rfl ?_
 | refine WC_ret ?_)
    all_goals first | exact fin_int (by simp) rfl rfl | simp_all
  · repeat' (first
 | (refine I_WS ?_; first
 | (refine I_mov ?_; first
 | refine W_mov (v := .int _ _) rfl rfl rfl ?_)
 | (refine I_bin ?_; first
 | refine W_sub rfl rfl rfl rfl (by first | exact w64 (by omega) | rfl) ?_
 | refine W_mul rfl rfl rfl rfl (by first | exact w64 (by omega) | rfl) ?_)
 | (refine I_load ?_; first
 | refine W_load (agg := false) (d := .int _ _) rfl rfl rfl rfl (by first | exact Nat.zero_le _ | omega) rfl ?_
 | refine W_load (agg := true) (d := .agg [_, _, _, _, _, _]) rfl rfl rfl rfl (by first | exact Nat.zero_le _ | omega) rfl ?_)
 | (refine I_call ?_; first
 | refine W_callB rfl rfl rfl (s_check_Contact _ _ _ _ _ _ hb) rfl ?_ ?_ <;> intro _)
 | (refine I_box ?_; first
 | refine W_boxA rfl rfl rfl rfl rfl ?_)
 | refine W_not rfl rfl rfl ?_
 | refine W_faddr rfl rfl rfl ?_
 | refine WS_nil ?_)
 | refine WC_seq ?_
 | refine WC_opsS ?_
 | refine WC_skip ?_
 | refine WC_condT rfl ?_
 | refine WC_condF rfl ?_
 | refine WC_ret ?_)
    · simp_all
    · exact fin_int (by simp) rfl (by simp [volC, h])
theorem s_class (k : Int) : EvP Γ 49 [.int .i64 k] (.bool (decide (0 ≤ k ∧ k < 3))) := by
  refine EvP_code rfl rfl ?_
  repeat' (first
 | (refine I_WS ?_; first
 | (refine I_mov ?_; first
 | refine W_skip rfl ?_
 | refine W_mov (v := .int _ _) rfl rfl rfl ?_
 | refine W_mov (v := .bool _) rfl rfl rfl ?_)
 | (refine I_bin ?_; first
 | refine W_skip rfl ?_
 | (refine W_lss rfl rfl rfl rfl ?_ ?_ <;> intro _)
 | (refine W_geq rfl rfl rfl rfl ?_ ?_ <;> intro _))
 | (refine I_pick ?_; first
 | refine W_pick (v := .bool _) rfl rfl rfl rfl ?_)
 | refine WS_nil ?_)
 | refine WC_seq ?_
 | refine WC_opsS ?_
 | refine WC_ret ?_)
  all_goals refine fin_bool (by simp) rfl ?_
  all_goals simp [*]
theorem s_isNaN (k : Int) : EvP Γ 72 [.int .i64 k] (.bool false) := by
  refine EvP_code rfl rfl ?_
  repeat' (first
 | (refine I_WS ?_; first
 | (refine I_mov ?_; first
 | refine W_mov (v := .int _ _) rfl rfl rfl ?_
 | refine W_mov (v := .bool _) rfl rfl rfl ?_)
 | (refine I_bin ?_; first
 | refine W_neqF rfl rfl rfl rfl (by omega) ?_)
 | refine WS_nil ?_)
 | refine WC_seq ?_
 | refine WC_opsS ?_
 | refine WC_ret ?_)
  all_goals exact fin_bool (by simp) rfl rfl
/-- Below, the same, above. -/
def cmpI (a b : Int) : Int := if a < b then -1 else if b < a then 1 else 0
theorem s_Compare (a b : Int) : EvP Γ 64 [.int .i64 a, .int .i64 b] (.int .i64 (cmpI a b)) := by
  refine EvP_code rfl rfl ?_
  repeat' (first
 | (refine I_WS ?_; first
 | (refine I_mov ?_; first
 | refine W_mov (v := .int _ _) rfl rfl rfl ?_
 | refine W_mov (v := .bool _) rfl rfl rfl ?_)
 | (refine I_bin ?_; first
 | (refine W_lss rfl rfl rfl rfl ?_ ?_ <;> intro _)
 | (refine W_gtr rfl rfl rfl rfl ?_ ?_ <;> intro _))
 | (refine I_call ?_; first
 | refine W_call rfl rfl rfl (s_isNaN _) rfl rfl ?_)
 | refine WS_nil ?_)
 | refine WC_seq ?_
 | refine WC_opsS ?_
 | refine WC_skip ?_
 | refine WC_condT rfl ?_
 | refine WC_condF rfl ?_
 | refine WC_ret ?_)
  all_goals refine fin_int (by simp) rfl ?_
  all_goals simp [cmpI, *]

/-- A row of the ledger. -/
structure Bk where
  id : Int
  u0 : Int
  u1 : Int
  u2 : Int
  deriving DecidableEq
def Bk.e (b : Bk) : D := .agg [.int .i64 b.id, .int .i64 b.u0, .int .i64 b.u1, .int .i64 b.u2]
theorem s_at1 (b : Bk) (id : Int) : EvP Γ 70 [b.e, .int .i64 id] (.int .i64 (cmpI b.id id)) := by
  refine EvP_code rfl rfl ?_
  repeat' (first
 | (refine I_WS ?_; first
 | (refine I_mov ?_; first
 | refine W_mov (v := .int _ _) rfl rfl rfl ?_)
 | (refine I_load ?_; first
 | refine W_load (agg := false) (d := .int _ _) rfl rfl rfl rfl (by first | exact Nat.zero_le _ | omega) rfl ?_)
 | (refine I_call ?_; first
 | refine W_call rfl rfl rfl (s_Compare _ _) rfl rfl ?_)
 | (refine I_box ?_; first
 | refine W_boxA rfl rfl rfl rfl rfl ?_)
 | refine W_faddr rfl rfl rfl ?_
 | refine WS_nil ?_)
 | refine WC_seq ?_
 | refine WC_opsS ?_
 | refine WC_ret ?_)
  exact fin_int (by simp) rfl rfl
end Go.Let

/-
  What the ledger's functions come to: the place of a contact.
-/
namespace Go.Let
open Go.Ev
set_option linter.unusedVariables false
set_option linter.unusedSimpArgs false
/-- Where the row of a contact is, or would be. -/
def upos (l : List Bk) (id : Int) : Nat := (l.takeWhile (fun b => decide (b.id < id))).length
theorem upos_eq : ∀ (l : List Bk) (id : Int) (i : Nat), (∀ x b, x < i → l[x]? = some b → b.id < id) → (∀ b, l[i]? = some b → id ≤ b.id) → i ≤ l.length → upos l id = i
  | [], id, i, h1, h2, h3 => by simp [upos] at *; omega
  | a :: l, id, 0, h1, h2, h3 => by
    have := h2 a rfl
    simp [upos, List.takeWhile, show ¬ a.id < id by omega]
  | a :: l, id, i + 1, h1, h2, h3 => by
    have ha := h1 0 a (by omega) rfl
    have := upos_eq l id i (fun x b hx hb => h1 (x + 1) b (by omega) (by simpa using hb)) (fun b hb => h2 b (by simpa using hb)) (by simpa using h3)
    simp [upos, List.takeWhile, ha] at *
    exact this
/-- By rising IDs. -/
def Srt (l : List Bk) : Prop := l.Pairwise (fun a b => a.id < b.id)
theorem Srt.le {l : List Bk} (h : Srt l) {x y : Nat} {a b : Bk} (hxy : x ≤ y) (ha : l[x]? = some a) (hb : l[y]? = some b) : a.id ≤ b.id := by
  rcases Nat.lt_or_eq_of_le hxy with h1 | rfl
  · obtain ⟨hx, rfl⟩ := List.getElem?_eq_some_iff.mp ha
    obtain ⟨hy, rfl⟩ := List.getElem?_eq_some_iff.mp hb
    exact Int.le_of_lt (List.pairwise_iff_getElem.mp h _ _ _ _ h1)
  · rw [ha] at hb
    cases hb
    omega
theorem cmpI_neg {a b : Int} : cmpI a b < 0 ↔ a < b := by unfold cmpI; split <;> simp_all; split <;> omega
theorem cmpI_zero {a b : Int} : cmpI a b = 0 ↔ a = b := by unfold cmpI; grind
theorem shr1 (n : Int) : n.fdiv (2 ^ (Nat.min (1 : Int).toNat IntKind.u64.bits)) = n / 2 := by
  rw [show ((2 : Int) ^ (Nat.min (1 : Int).toNat IntKind.u64.bits)) = 2 from rfl]
  exact Int.fdiv_eq_ediv_of_nonneg _ (by decide)
theorem l_bs (l : List Bk) (id : Int) (hs : Srt l) (hl : l.length < 4611686018427387904) (t : Tok) (sz : Nat) (hsz : sz = 4 ∨ l = []) : ∀ (m i j : Nat), j - i ≤ m → i ≤ j → j ≤ l.length → (∀ x b, x < i → l[x]? = some b → b.id < id) → (∀ x b, j ≤ x → l[x]? = some b → id ≤ b.id) →
    ∀ (ρ : Nat → D) (h0 : ρ 0 = .slice t sz (l.map Bk.e)) (h1 : ρ 1 = .int .i64 id) (h2 : ρ 2 = .func 70 []) (h8 : ρ 8 = .int .i64 l.length) (h9 : ρ 9 = .int .i64 i) (h10 : ρ 10 = .int .i64 j) (Q : X → (Nat → D) → Store → Prop),
    (∀ ρ', ρ' 0 = .slice t sz (l.map Bk.e) → ρ' 1 = .int .i64 id → ρ' 2 = .func 70 [] → ρ' 8 = .int .i64 l.length → ρ' 9 = .int .i64 (upos l id) → Q (.exit 0) ρ' Store.empty) → WC Γ (.loop c_slices_BinarySearchFunc_Booked_l0) ρ Store.empty Q := by
  intro m
  induction m with
  | zero =>
    intro i j hm hij hj hlo hhi ρ h0 h1 h2 h8 h9 h10 Q hQ
    have hu : upos l id = i := upos_eq l id i hlo (fun b hb => hhi i b (by omega) hb) (by omega)
    rw [← upd_self h0, ← upd_self h1, ← upd_self h2, ← upd_self h8, ← upd_self h9, ← upd_self h10]
    refine WC_loop ?_
    repeat' (first
 | (refine I_WS ?_; first
 | (refine I_mov ?_; first
 | refine W_mov (v := .int _ _) rfl rfl rfl ?_)
 | (refine I_bin ?_; first
 | refine W_lssF rfl rfl rfl rfl (by omega) ?_)
 | refine WS_nil ?_)
 | refine WC_seq ?_
 | refine WC_opsS ?_
 | refine WC_condF rfl ?_
 | refine WC_exit ?_)
    exact hQ _ rfl rfl rfl rfl (by rw [hu]; rfl)
  | succ m ih =>
    intro i j hm hij hj hlo hhi ρ h0 h1 h2 h8 h9 h10 Q hQ
    by_cases hlt : i < j
    · rw [← upd_self h0, ← upd_self h1, ← upd_self h2, ← upd_self h8, ← upd_self h9, ← upd_self h10]
      have hk : (i + j) / 2 < l.length := by omega
      obtain ⟨v, hv⟩ : ∃ v, l[(i + j) / 2]? = some v := ⟨_, List.getElem?_eq_getElem hk⟩
      refine WC_loop ?_
      repeat' (first
 | (refine I_WS ?_; first
 | refine W_conv (s := (((i + j) / 2 : Nat) : Int)) rfl rfl rfl (by rw [w64 (by omega)]; omega) ?_
 | refine W_shr rfl rfl rfl rfl (by decide) (shr1 _) ?_
 | (refine I_mov ?_; first
 | refine W_mov (v := .int _ _) rfl rfl rfl ?_
 | refine W_mov (v := .slice _ _ _) rfl rfl rfl ?_
 | refine W_mov (v := .func _ _) rfl rfl rfl ?_)
 | (refine I_bin ?_; first
 | refine W_lssT rfl rfl rfl rfl (by omega) ?_
 | (refine W_lss rfl rfl rfl rfl ?_ ?_ <;> intro _)
 | refine W_add rfl rfl rfl rfl (by first | exact w64 (by omega) | rfl) ?_)
 | (refine I_load ?_; first
 | refine W_loadE (agg := true) (d := Bk.e _) rfl rfl rfl hv rfl ?_)
 | (refine I_call ?_; first
 | refine W_call rfl rfl rfl (s_at1 _ _) rfl rfl ?_)
 | refine W_conv rfl rfl rfl (by first | exact w64 (by omega) | exact wu64 (by omega) | rfl) ?_
 | refine W_iaddr rfl rfl rfl rfl (by first | rfl | exact sz_of (by assumption) (by omega)) (by first | decide | (simp only [List.length_map]; omega)) ?_
 | refine WS_nil ?_)
 | refine WC_seq ?_
 | refine WC_opsS ?_
 | refine WC_skip ?_
 | refine WC_condT rfl ?_
 | refine WC_condF rfl ?_
 | refine WC_block ?_)
      · rename_i hc
        rw [cmpI_neg] at hc
        refine ih ((i + j) / 2 + 1) j (by omega) (by omega) hj (fun x b hx hb => ?_) hhi _ rfl rfl rfl rfl rfl rfl Q hQ
        exact Int.lt_of_le_of_lt (hs.le (by omega) hb hv) hc
      · rename_i hc
        rw [cmpI_neg] at hc
        refine ih i ((i + j) / 2) (by omega) (by omega) (by omega) hlo (fun x b hx hb => ?_) _ rfl rfl rfl rfl rfl rfl Q hQ
        exact Int.le_trans (by omega) (hs.le hx hv hb)
    · have hu : upos l id = i := upos_eq l id i hlo (fun b hb => hhi i b (by omega) hb) (by omega)
      rw [← upd_self h0, ← upd_self h1, ← upd_self h2, ← upd_self h8, ← upd_self h9, ← upd_self h10]
      refine WC_loop ?_
      repeat' (first
 | (refine I_WS ?_; first
 | (refine I_mov ?_; first
 | refine W_mov (v := .int _ _) rfl rfl rfl ?_)
 | (refine I_bin ?_; first
 | refine W_lssF rfl rfl rfl rfl (by omega) ?_)
 | refine WS_nil ?_)
 | refine WC_seq ?_
 | refine WC_opsS ?_
 | refine WC_condF rfl ?_
 | refine WC_exit ?_)
      exact hQ _ rfl rfl rfl rfl (by rw [hu]; rfl)
/-- Is a contact there? -/
def fnd (l : List Bk) (id : Int) : Bool := match l[upos l id]? with | some b => decide (b.id = id) | none => false
theorem upos_le (l : List Bk) (id : Int) : upos l id ≤ l.length := (List.takeWhile_sublist _).length_le
theorem s_bs (l : List Bk) (id : Int) (hs : Srt l) (hl : l.length < 4611686018427387904) (t : Tok) (sz : Nat) (hsz : sz = 4 ∨ l = []) : EvP Γ 69 [.slice t sz (l.map Bk.e), .int .i64 id, .func 70 []] (.tuple [.int .i64 (upos l id), .bool (fnd l id)]) := by
  refine EvP_code rfl rfl ?_
  have hu := upos_le l id
  repeat' (first
 | (refine I_WS ?_; first
 | (refine I_mov ?_; first
 | refine W_mov (v := .int _ _) rfl rfl rfl ?_
 | refine W_mov (v := .bool _) rfl rfl rfl ?_
 | refine W_mov (v := .slice _ _ _) rfl rfl rfl ?_)
 | refine W_lenM rfl rfl rfl ?_
 | refine WS_nil ?_)
 | refine WC_seq ?_
 | refine WC_opsS ?_
 | refine WC_block ?_)
  refine l_bs l id hs hl t sz hsz l.length 0 l.length (by omega) (by omega) (by omega) (by omega) (fun x b hx hb => by have := (List.getElem?_eq_some_iff.mp hb).1; omega) _ rfl rfl rfl rfl rfl rfl _ ?_
  intro ρ h0 h1 h2 h8 h9
  rw [← upd_self h0, ← upd_self h1, ← upd_self h2, ← upd_self h8, ← upd_self h9]
  by_cases hlt : upos l id < l.length
  · obtain ⟨v, hv⟩ : ∃ v, l[upos l id]? = some v := ⟨_, List.getElem?_eq_getElem hlt⟩
    repeat' (first
 | (refine I_WS ?_; first
 | (refine I_mov ?_; first
 | refine W_mov (v := .int _ _) rfl rfl rfl ?_
 | refine W_mov (v := .bool _) rfl rfl rfl ?_
 | refine W_mov (v := .slice _ _ _) rfl rfl rfl ?_
 | refine W_mov (v := .func _ _) rfl rfl rfl ?_)
 | (refine I_bin ?_; first
 | refine W_lssT rfl rfl rfl rfl (by omega) ?_
 | (refine W_eql rfl rfl rfl rfl ?_ ?_ <;> intro _))
 | (refine I_load ?_; first
 | refine W_loadE (agg := true) (d := Bk.e _) rfl rfl rfl hv rfl ?_)
 | (refine I_call ?_; first
 | refine W_call rfl rfl rfl (s_at1 _ _) rfl rfl ?_)
 | (refine I_pick ?_; first
 | refine W_pick (v := .bool _) rfl rfl rfl rfl ?_)
 | refine W_iaddr rfl rfl rfl rfl (by first | rfl | exact sz_of (by assumption) (by omega)) (by first | decide | (simp only [List.length_map]; omega)) ?_
 | refine WS_nil ?_)
 | refine WC_seq ?_
 | refine WC_opsS ?_
 | refine WC_ret ?_)
    all_goals rename_i hc
    all_goals rw [cmpI_zero] at hc
    all_goals exact fin_ground (r' := .tuple [.int _ _, .bool _]) (by simp) rfl rfl (by simp [fnd, hv, hc])
  · repeat' (first
 | (refine I_WS ?_; first
 | (refine I_mov ?_; first
 | refine W_skip rfl ?_
 | refine W_mov (v := .int _ _) rfl rfl rfl ?_
 | refine W_mov (v := .bool _) rfl rfl rfl ?_)
 | (refine I_bin ?_; first
 | refine W_skip rfl ?_
 | refine W_lssF rfl rfl rfl rfl (by omega) ?_)
 | (refine I_load ?_; first
 | refine W_skip rfl ?_)
 | (refine I_call ?_; first
 | refine W_skip rfl ?_)
 | (refine I_pick ?_; first
 | refine W_pick (v := .bool _) rfl rfl rfl rfl ?_)
 | refine W_skip rfl ?_
 | refine WS_nil ?_)
 | refine WC_seq ?_
 | refine WC_opsS ?_
 | refine WC_ret ?_)
    exact fin_ground (r' := .tuple [.int _ _, .bool _]) (by simp) rfl rfl (by simp [fnd, List.getElem?_eq_none (Nat.le_of_not_lt hlt)])
theorem s_at (l : List Bk) (id : Int) (hs : Srt l) (hl : l.length < 4611686018427387904) (t : Tok) (sz : Nat) (hsz : sz = 4 ∨ l = []) : EvP Γ 58 [.slice t sz (l.map Bk.e), .int .i64 id] (.tuple [.int .i64 (upos l id), .bool (fnd l id)]) := by
  refine EvP_code rfl rfl ?_
  repeat' (first
 | (refine I_WS ?_; first
 | (refine I_mov ?_; first
 | refine W_mov (v := .int _ _) rfl rfl rfl ?_
 | refine W_mov (v := .bool _) rfl rfl rfl ?_
 | refine W_mov (v := .slice _ _ _) rfl rfl rfl ?_)
 | (refine I_call ?_; first
 | refine W_call rfl rfl rfl (s_bs l id hs hl _ _ hsz) rfl rfl ?_)
 | (refine I_extract ?_; first
 | refine W_extract (d := .int _ _) rfl rfl rfl rfl ?_
 | refine W_extract (d := .bool _) rfl rfl rfl rfl ?_)
 | refine WS_nil ?_)
 | refine WC_seq ?_
 | refine WC_opsS ?_
 | refine WC_ret ?_)
  exact fin_ground (r' := .tuple [.int _ _, .bool _]) (by simp) rfl rfl rfl
/-- The row of a contact. -/
def row (l : List Bk) (id : Int) : Bk := match l[upos l id]? with | some b => if b.id = id then b else ⟨id, 0, 0, 0⟩ | none => ⟨id, 0, 0, 0⟩
theorem s_Used (l : List Bk) (id : Int) (hs : Srt l) (hl : l.length < 4611686018427387904) (t : Tok) (sz : Nat) (hsz : sz = 4 ∨ l = []) : EvP Γ 36 [.slice t sz (l.map Bk.e), .int .i64 id] (.agg [.int .i64 (row l id).u0, .int .i64 (row l id).u1, .int .i64 (row l id).u2]) := by
  have ha := s_at l id hs hl
  refine EvP_code rfl rfl ?_
  cases hf : fnd l id with
  | true =>
    rw [hf] at ha
    have hlt : upos l id < l.length := by
      unfold fnd at hf
      split at hf
      · rename_i b hb
        exact (List.getElem?_eq_some_iff.mp hb).1
      · cases hf
    obtain ⟨v, hv⟩ : ∃ v, l[upos l id]? = some v := ⟨_, List.getElem?_eq_getElem hlt⟩
    repeat' (first
 | (refine I_WS ?_; first
 | (refine I_mov ?_; first
 | refine W_mov (v := .int _ _) rfl rfl rfl ?_
 | refine W_mov (v := .bool _) rfl rfl rfl ?_
 | refine W_mov (v := .slice _ _ _) rfl rfl rfl ?_
 | refine W_mov (v := .tuple _) rfl rfl rfl ?_)
 | (refine I_load ?_; first
 | refine W_loadE (agg := true) (d := .agg [_, _, _]) rfl rfl rfl hv rfl ?_)
 | (refine I_call ?_; first
 | refine W_call rfl rfl rfl (ha _ _ hsz) rfl rfl ?_)
 | (refine I_extract ?_; first
 | refine W_extract (d := .int _ _) rfl rfl rfl rfl ?_
 | refine W_extract (d := .bool _) rfl rfl rfl rfl ?_)
 | (refine I_store ?_; first
 | refine W_store (cs' := [_, _, _]) rfl rfl rfl rfl (by first | exact Nat.zero_le _ | omega) rfl rfl rfl ?_)
 | refine W_faddrE rfl rfl rfl ?_
 | refine W_alloc rfl rfl ?_
 | refine W_iaddr rfl rfl rfl rfl (by first | rfl | exact sz_of (by assumption) (by omega)) (by first | decide | (simp only [List.length_map]; omega)) ?_
 | refine WS_nil ?_)
 | refine WC_seq ?_
 | refine WC_opsS ?_
 | refine WC_condT rfl ?_
 | refine WC_ret ?_)
    simp only [fnd, hv, decide_eq_true_eq] at hf
    exact fin_ground (r' := .agg [.int _ _, .int _ _, .int _ _]) (by simp) rfl rfl (by simp [row, hv, hf])
  | false =>
    rw [hf] at ha
    repeat' (first
 | (refine I_WS ?_; first
 | (refine I_mov ?_; first
 | refine W_mov (v := .int _ _) rfl rfl rfl ?_
 | refine W_mov (v := .bool _) rfl rfl rfl ?_
 | refine W_mov (v := .slice _ _ _) rfl rfl rfl ?_
 | refine W_mov (v := .tuple _) rfl rfl rfl ?_)
 | (refine I_call ?_; first
 | refine W_call rfl rfl rfl (ha _ _ hsz) rfl rfl ?_)
 | (refine I_extract ?_; first
 | refine W_extract (d := .int _ _) rfl rfl rfl rfl ?_
 | refine W_extract (d := .bool _) rfl rfl rfl rfl ?_)
 | (refine I_build ?_; first
 | refine W_build (cs := [_, _, _]) rfl rfl rfl ?_)
 | (refine I_store ?_; first
 | refine W_store (cs' := [_, _, _]) rfl rfl rfl rfl (by first | exact Nat.zero_le _ | omega) rfl rfl rfl ?_)
 | refine W_alloc rfl rfl ?_
 | refine WS_nil ?_)
 | refine WC_seq ?_
 | refine WC_opsS ?_
 | refine WC_skip ?_
 | refine WC_condF rfl ?_
 | refine WC_ret ?_)
    refine fin_ground (r' := .agg [.int _ _, .int _ _, .int _ _]) (by simp) rfl rfl ?_
    unfold fnd at hf
    unfold row
    split at hf <;> simp_all
end Go.Let

/-
  What the ledger's functions come to: how much is booked, and how much room there is.
-/
namespace Go.Let
open Go.Ev
set_option linter.unusedVariables false
set_option linter.unusedSimpArgs false
/-- One class more. -/
def stp (s n : Int) : Int := (if 4611686018427387904 - n < s then 4611686018427387904 - n else s) + n
/-- May a row be? -/
def Bk.U (b : Bk) : Prop := (0 ≤ b.u0 ∧ b.u0 ≤ 4611686018427387904) ∧ (0 ≤ b.u1 ∧ b.u1 ≤ 4611686018427387904) ∧ (0 ≤ b.u2 ∧ b.u2 ≤ 4611686018427387904)
def bkl (b : Bk) (k : Int) : Int := if k = 0 then stp (stp (stp 0 b.u0) b.u1) b.u2 else if k = 1 then stp (stp 0 b.u1) b.u2 else if k = 2 then stp 0 b.u2 else 0
theorem bkl_in {b : Bk} (h : b.U) (k : Int) : 0 ≤ bkl b k ∧ bkl b k ≤ 4611686018427387904 := by
  unfold bkl stp
  unfold Bk.U at h
  grind
theorem s_Backlog (l : List Bk) (id k : Int) (hs : Srt l) (hl : l.length < 4611686018427387904) (hu : (row l id).U) (t : Tok) (sz : Nat) (hsz : sz = 4 ∨ l = []) : EvP Γ 38 [.slice t sz (l.map Bk.e), .int .i64 id, .int .i64 k] (.int .i64 (bkl (row l id) k)) := by
  refine EvP_code rfl rfl ?_
  have hU := s_Used l id hs hl
  generalize row l id = r at *
  unfold Bk.U at hu
  by_cases hk : 0 ≤ k ∧ k < 3
  · have hk' : k = 0 ∨ k = 1 ∨ k = 2 := by omega
    rcases hk' with rfl | rfl | rfl
    all_goals
      repeat' (first
 | (refine I_WS ?_; first
 | (refine I_mov ?_; first
 | refine W_mov (v := .int _ _) rfl rfl rfl ?_
 | refine W_mov (v := .slice _ _ _) rfl rfl rfl ?_)
 | (refine I_bin ?_; first
 | refine W_lssT rfl rfl rfl rfl (by omega) ?_
 | refine W_lssF rfl rfl rfl rfl (by omega) ?_
 | refine W_add rfl rfl rfl rfl (by first | exact w64 (by omega) | rfl) ?_
 | refine W_sub rfl rfl rfl rfl (by first | exact w64 (by omega) | rfl) ?_)
 | (refine I_load ?_; first
 | refine W_load (agg := false) (d := .int _ _) rfl rfl rfl rfl (by first | exact Nat.zero_le _ | omega) rfl ?_)
 | (refine I_call ?_; first
 | refine W_callB rfl rfl rfl (s_class _) rfl ?_ ?_ <;> intro _
 | refine W_call rfl rfl rfl (hU _ _ hsz) rfl rfl ?_)
 | (refine I_store ?_; first
 | refine W_store (cs' := [_, _, _]) rfl rfl rfl rfl (by first | exact Nat.zero_le _ | omega) rfl rfl rfl ?_)
 | refine W_not rfl rfl rfl ?_
 | refine W_min2 rfl rfl rfl rfl ?_
 | refine W_lenR rfl rfl rfl ?_
 | refine W_alloc rfl rfl ?_
 | refine W_iaddrRN rfl rfl rfl rfl rfl (by decide) ?_
 | refine W_sliceALo rfl rfl rfl rfl (by first | exact Nat.zero_le _ | omega) rfl (Nat.le_of_ble_eq_true rfl) (Nat.le_of_ble_eq_true rfl) ?_
 | refine WS_nil ?_)
 | refine WC_loop ?_
 | refine WC_seq ?_
 | refine WC_opsS ?_
 | refine WC_skip ?_
 | refine WC_condT rfl ?_
 | refine WC_condF rfl ?_
 | refine WC_block ?_
 | refine WC_exit ?_
 | refine WC_ret ?_)
      all_goals first | (exfalso; simp_all; done) | exact fin_int (by simp) rfl rfl
  · repeat' (first
 | (refine I_WS ?_; first
 | (refine I_mov ?_; first
 | refine W_mov (v := .int _ _) rfl rfl rfl ?_
 | refine W_mov (v := .slice _ _ _) rfl rfl rfl ?_)
 | (refine I_call ?_; first
 | refine W_callB rfl rfl rfl (s_class _) rfl ?_ ?_ <;> intro _)
 | refine W_not rfl rfl rfl ?_
 | refine WS_nil ?_)
 | refine WC_seq ?_
 | refine WC_opsS ?_
 | refine WC_skip ?_
 | refine WC_condT rfl ?_
 | refine WC_condF rfl ?_
 | refine WC_ret ?_)
    · rename_i hc
      exact absurd (of_decide_eq_true hc) hk
    · refine fin_int (by simp) rfl ?_
      unfold bkl
      rw [if_neg (by omega), if_neg (by omega), if_neg (by omega)]
/-- How much room there is. -/
def room (l : List Bk) (id fr to st en ra k : Int) : Int := if 0 ≤ k ∧ k < 3 then (if 0 > volC id fr to st en ra - bkl (row l id) k then 0 else volC id fr to st en ra - bkl (row l id) k) else 0
theorem s_Room (l : List Bk) (id fr to st en ra k : Int) (hb : -9223372036854775808 ≤ en ∧ en ≤ 9223372036854775807) (hs : Srt l) (hl : l.length < 4611686018427387904) (hu : (row l id).U) (t : Tok) (sz : Nat) (hsz : sz = 4 ∨ l = []) :
    EvP Γ 40 [.slice t sz (l.map Bk.e), .agg [.int .i64 id, .int .i64 fr, .int .i64 to, .int .i64 st, .int .i64 en, .int .i64 ra], .int .i64 k] (.int .i64 (room l id fr to st en ra k)) := by
  refine EvP_code rfl rfl ?_
  have hB := fun t sz hsz => s_Backlog l id k hs hl hu t sz hsz
  have hV := volC_in id fr to st en ra
  have hR := bkl_in hu k
  repeat' (first
 | (refine I_WS ?_; first
 | (refine I_mov ?_; first
 | refine W_mov (v := .int _ _) rfl rfl rfl ?_
 | refine W_mov (v := .slice _ _ _) rfl rfl rfl ?_)
 | (refine I_bin ?_; first
 | refine W_sub rfl rfl rfl rfl (by first | exact w64 (by omega) | rfl) ?_)
 | (refine I_load ?_; first
 | refine W_load (agg := false) (d := .int _ _) rfl rfl rfl rfl (by first | exact Nat.zero_le _ | omega) rfl ?_
 | refine W_load (agg := true) (d := .agg [_, _, _, _, _, _]) rfl rfl rfl rfl (by first | exact Nat.zero_le _ | omega) rfl ?_)
 | (refine I_call ?_; first
 | refine W_callB rfl rfl rfl (s_class _) rfl ?_ ?_ <;> intro _
 | refine W_call rfl rfl rfl (hB _ _ hsz) rfl rfl ?_
 | refine W_call rfl rfl rfl (s_check_Volume _ _ _ _ _ _ hb) rfl rfl ?_)
 | (refine I_box ?_; first
 | refine W_boxA rfl rfl rfl rfl rfl ?_)
 | refine W_not rfl rfl rfl ?_
 | refine W_max2 rfl rfl rfl rfl ?_
 | refine W_faddr rfl rfl rfl ?_
 | refine WS_nil ?_)
 | refine WC_seq ?_
 | refine WC_opsS ?_
 | refine WC_drawS ?_
 | refine WC_skip ?_
 | refine WC_condT rfl ?_
 | refine WC_condF rfl ?_
 | refine WC_ret ?_
 | refine okF_intro rfl ?_)
  · rename_i h
    simp only [decide_eq_true_eq] at h
    refine fin_int (by simp) rfl ?_
    unfold room
    rw [if_pos h]
  · rename_i h
    simp only [decide_eq_false_iff_not] at h
    refine fin_int (by simp) rfl ?_
    unfold room
    rw [if_neg h]
end Go.Let
