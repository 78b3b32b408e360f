/-
  What hop's functions come to: when what is ready is there.
-/
import Derived.Test.YtepbhoahafopdaaEatVieS
import Derived.Test.YtepbhoahafopdaaEatVieS
set_option linter.unusedVariables false
set_option linter.unusedSimpArgs false
set_option linter.unnecessarySimpa false
namespace Go.Eat
open Go.Ev
set_option linter.unusedVariables false
set_option linter.unusedSimpArgs false
/-- May an edge be? -/
def Eg.ok (x : Eg) : Prop := ((1 ≤ x.fr ∧ x.fr ≤ 255) ∧ (1 ≤ x.to ∧ x.to ≤ 255) ∧ x.fr ≠ x.to) ∧ ((0 ≤ x.op ∧ x.op ≤ 1099511627776) ∧ (1 ≤ x.en ∧ x.en ≤ 2147483647) ∧ (0 ≤ x.ow ∧ x.ow ≤ 2147483647)) ∧ (1 ≤ x.id ∧ x.id ≤ 1048576) ∧ (1 ≤ x.ra ∧ x.ra ≤ 2147483647) ∧ (0 ≤ x.ro ∧ x.ro ≤ 4611686018427387904)
instance (x : Eg) : Decidable x.ok := by unfold Eg.ok; infer_instance
set_option maxHeartbeats 4000000 in
theorem s_hRight (x : Eg) : EvP Γ 63 [x.e] (.bool (decide x.ok)) := by
  refine EvP_code rfl rfl ?_
  unfold Eg.ok
  repeat' (first
 | (refine I_WS ?_; first
 | (refine I_mov ?_; first
 | refine W_skip rfl ?_
 | refine W_mov (v := .bool _) rfl rfl rfl ?_)
 | (refine I_bin ?_; first
 | refine W_skip rfl ?_
 | (refine W_neq rfl rfl rfl rfl ?_ ?_ <;> intro _))
 | (refine I_load ?_; first
 | refine W_skip rfl ?_
 | refine W_load (agg := false) (d := .int _ _) rfl rfl rfl rfl (by first | exact Nat.zero_le _ | omega) rfl ?_)
 | (refine I_call ?_; first
 | refine W_skip rfl ?_
 | (refine W_callB rfl rfl rfl (s_check_Node _) rfl ?_ ?_ <;> intro _)
 | (refine W_callB rfl rfl rfl (s_num_In _ _ _) rfl ?_ ?_ <;> intro _))
 | (refine I_pick ?_; first
 | refine W_pick (v := .bool _) rfl rfl rfl rfl ?_)
 | (refine I_box ?_; first
 | refine W_boxA rfl rfl rfl rfl rfl ?_)
 | refine W_faddr rfl rfl rfl ?_
 | refine W_skip rfl ?_
 | refine WS_nil ?_)
 | refine WC_seq ?_
 | refine WC_opsS ?_
 | refine WC_ret ?_)
  all_goals (refine fin_bool (by simp) rfl ?_; first | (simp_all; done) | (simp_all; omega) | (simp only [eq_comm (a := true), eq_comm (a := false), decide_eq_true_eq, decide_eq_false_iff_not] at *; omega) | grind)
/-- Are an edge, a time and a size? -/
def rightE (x : Eg) (t sz : Int) : Prop := (0 ≤ t ∧ t ≤ 1099511627776) ∧ (0 ≤ sz ∧ sz ≤ 1099511627775) ∧ x.ok
instance (x : Eg) (t sz : Int) : Decidable (rightE x t sz) := by unfold rightE; infer_instance
theorem s_right (x : Eg) (t sz : Int) : EvP Γ 39 [x.e, .int .i64 t, .int .i64 sz] (.bool (decide (rightE x t sz))) := by
  refine EvP_code rfl rfl ?_
  unfold rightE
  repeat' (first
 | (refine I_WS ?_; first
 | (refine I_mov ?_; first
 | refine W_skip rfl ?_
 | refine W_mov (v := .int _ _) rfl rfl rfl ?_
 | refine W_mov (v := .bool _) rfl rfl rfl ?_)
 | (refine I_load ?_; first
 | refine W_skip rfl ?_
 | refine W_load (agg := true) (d := .agg [_, _, _, _, _, _, _, _]) rfl rfl rfl rfl (by first | exact Nat.zero_le _ | omega) rfl ?_)
 | (refine I_call ?_; first
 | refine W_skip rfl ?_
 | (refine W_callB rfl rfl rfl (s_hRight _) rfl ?_ ?_ <;> intro _)
 | (refine W_callB rfl rfl rfl (s_num_In _ _ _) rfl ?_ ?_ <;> intro _))
 | (refine I_pick ?_; first
 | refine W_pick (v := .bool _) rfl rfl rfl rfl ?_)
 | (refine I_box ?_; first
 | refine W_boxA rfl rfl rfl rfl rfl ?_)
 | refine WS_nil ?_)
 | refine WC_seq ?_
 | refine WC_opsS ?_
 | refine WC_ret ?_)
  all_goals (refine fin_bool (by simp) rfl ?_; first | (simp_all; done) | (simp_all; omega) | (simp only [eq_comm (a := true), eq_comm (a := false), decide_eq_true_eq, decide_eq_false_iff_not] at *; omega) | grind)
def takesE (x : Eg) (sz : Int) : Int := if rightE x 0 sz then ceilI sz x.ra else 0
theorem takes_in (x : Eg) (sz : Int) : 0 ≤ takesE x sz ∧ takesE x sz ≤ 1099511627776 := by
  unfold takesE
  split
  · rename_i h
    have := ceilI_in (a := sz) (b := x.ra) h.2.1.1 h.2.2.2.2.2.1.1
    have := h.2.1.2
    omega
  · omega
theorem s_Takes (x : Eg) (sz : Int) : EvP Γ 38 [x.e, .int .i64 sz] (.int .i64 (takesE x sz)) := by
  refine EvP_code rfl rfl ?_
  unfold takesE
  by_cases h : rightE x 0 sz
  · rw [if_pos h]
    have hc := s_Ceil sz x.ra h.2.1.1 (by have := h.2.1.2; omega) h.2.2.2.2.2.1.1
    have hr := s_right x 0 sz
    rw [decide_eq_true h] at hr
    generalize ceilI sz x.ra = c at hc ⊢
    repeat' (first
 | (refine I_WS ?_; first
 | (refine I_mov ?_; first
 | refine W_mov (v := .int _ _) rfl rfl rfl ?_
 | refine W_mov (v := .bool _) rfl rfl rfl ?_
 | refine W_mov (v := .tuple _) rfl rfl rfl ?_)
 | (refine I_load ?_; first
 | refine W_load (agg := false) (d := .int _ _) rfl rfl rfl rfl (by first | exact Nat.zero_le _ | omega) rfl ?_
 | refine W_load (agg := true) (d := .agg [_, _, _, _, _, _, _, _]) rfl rfl rfl rfl (by first | exact Nat.zero_le _ | omega) rfl ?_)
 | (refine I_call ?_; first
 | refine W_call rfl rfl rfl hr rfl rfl ?_
 | refine W_call rfl rfl rfl hc rfl rfl ?_)
 | (refine I_extract ?_; first
 | refine W_extract (d := .int _ _) rfl rfl rfl rfl ?_
 | refine W_extract (d := .bool _) rfl rfl rfl rfl ?_)
 | (refine I_box ?_; first
 | refine W_boxA rfl rfl rfl rfl rfl ?_)
 | refine W_not rfl rfl rfl ?_
 | refine W_faddr rfl rfl rfl ?_
 | refine WS_nil ?_)
 | refine WC_seq ?_
 | refine WC_opsS ?_
 | refine WC_skip ?_
 | refine WC_condF rfl ?_
 | refine WC_ret ?_)
    exact fin_int (.inr rfl) rfl rfl
  · rw [if_neg h]
    have hr := s_right x 0 sz
    rw [decide_eq_false h] at hr
    repeat' (first
 | (refine I_WS ?_; first
 | (refine I_mov ?_; first
 | refine W_mov (v := .int _ _) rfl rfl rfl ?_)
 | (refine I_load ?_; first
 | refine W_load (agg := true) (d := .agg [_, _, _, _, _, _, _, _]) rfl rfl rfl rfl (by first | exact Nat.zero_le _ | omega) rfl ?_)
 | (refine I_call ?_; first
 | refine W_call rfl rfl rfl hr rfl rfl ?_)
 | (refine I_box ?_; first
 | refine W_boxA rfl rfl rfl rfl rfl ?_)
 | refine W_not rfl rfl rfl ?_
 | refine WS_nil ?_)
 | refine WC_seq ?_
 | refine WC_opsS ?_
 | refine WC_condT rfl ?_
 | refine WC_ret ?_)
    exact fin_int (.inr rfl) rfl rfl
/-- The greater one. -/
def mx (a b : Int) : Int := if b > a then b else a
theorem mx_le {a b c : Int} : mx a b ≤ c ↔ a ≤ c ∧ b ≤ c := by unfold mx; split <;> omega
theorem le_mx {a b : Int} : a ≤ mx a b ∧ b ≤ mx a b := by unfold mx; split <;> omega
section
variable {Γ : Nat → Option FD} {ρ : Nat → D} {st : Store} {dr : Bool} {R : (Nat → D) → Store → List Fl → Prop} {l : List Op1} {g : Option (Nat × Bool)} {mv : Bool} {k : Nat} {x y : A}
theorem W_mx {κ κ' : IntKind} {n m s : Int} (hg : guardV ρ g = some true) (hx : x.ev ρ = .int κ n) (hm : mv = false) (hy : y.ev ρ = .int κ' m) (hs : mx n m = s) (h : WS Γ dr l (upd ρ k (.int κ s)) st (nx .n R)) : WS Γ dr (⟨some k, g, mv, .max [x, y]⟩ :: l) ρ st R := by
  subst hs
  exact W_max2 hg hx hm hy h
end
/-- May it pass? -/
def passC (x : Eg) (t sz : Int) : Prop := rightE x t sz ∧ sz ≤ x.ro ∧ mx t x.op ≤ x.en - mx (takesE x sz) 1
instance (x : Eg) (t sz : Int) : Decidable (passC x t sz) := by unfold passC; infer_instance
/-- When it is there. -/
def thereE (x : Eg) (t sz : Int) : Int := mx t x.op + takesE x sz + x.ow
def passT (x : Eg) (t sz : Int) : D := if passC x t sz then .tuple [.int .i64 (mx t x.op), .int .i64 (thereE x t sz), .bool true] else .tuple [.int .i64 0, .int .i64 0, .bool false]
set_option maxHeartbeats 4000000 in
theorem s_Pass (x : Eg) (t sz : Int) : EvP Γ 29 [x.e, .int .i64 t, .int .i64 sz] (passT x t sz) := by
  refine EvP_code rfl rfl ?_
  have hT := s_Takes x sz
  have hk := takes_in x sz
  have hr := s_right x t sz
  unfold passT
  by_cases hc : passC x t sz
  · rw [if_pos hc]
    obtain ⟨h1, h2, h3⟩ := hc
    rw [decide_eq_true h1] at hr
    obtain ⟨ht, hs, hok⟩ := h1
    have hop := hok.2.1.1
    have hen := hok.2.1.2.1
    have how := hok.2.1.2.2
    have hro := hok.2.2.2.2
    have hm := le_mx (a := t) (b := x.op)
    have hm1 := le_mx (a := takesE x sz) (b := 1)
    have hmt : mx (takesE x sz) 1 ≤ 1099511627776 := mx_le.mpr ⟨hk.2, by omega⟩
    have hmo : mx t x.op ≤ 1099511627776 := mx_le.mpr ⟨ht.2, hop.2⟩
    have hm0 : 0 ≤ mx t x.op := by omega
    unfold thereE
    clear hok
    generalize takesE x sz = k at *
    generalize e1 : mx t x.op = m at *
    generalize e2 : mx k 1 = k1 at *
    repeat' (first
 | (refine I_WS ?_; first
 | refine W_mx rfl rfl rfl rfl e1 ?_
 | refine W_mx rfl rfl rfl rfl e2 ?_
 | (refine I_mov ?_; first
 | refine W_mov (v := .int _ _) rfl rfl rfl ?_
 | refine W_mov (v := .bool _) rfl rfl rfl ?_)
 | (refine I_bin ?_; first
 | refine W_gtrF rfl rfl rfl rfl (by omega) ?_
 | refine W_add rfl rfl rfl rfl (by first | exact w64 (by omega) | rfl) ?_
 | refine W_sub rfl rfl rfl rfl (by first | exact w64 (by omega) | rfl) ?_)
 | (refine I_load ?_; first
 | refine W_load (agg := false) (d := .int _ _) rfl rfl rfl rfl (by first | exact Nat.zero_le _ | omega) rfl ?_
 | refine W_load (agg := true) (d := .agg [_, _, _, _, _, _, _, _]) rfl rfl rfl rfl (by first | exact Nat.zero_le _ | omega) rfl ?_)
 | (refine I_call ?_; first
 | refine W_call rfl rfl rfl hr rfl rfl ?_
 | refine W_call rfl rfl rfl hT rfl rfl ?_)
 | (refine I_pick ?_; first
 | refine W_pick (v := .bool _) rfl rfl rfl rfl ?_)
 | (refine I_box ?_; first
 | refine W_boxA rfl rfl rfl rfl rfl ?_)
 | refine W_not rfl rfl rfl ?_
 | refine W_faddr rfl rfl rfl ?_
 | refine WS_nil ?_)
 | refine WC_seq ?_
 | refine WC_opsS ?_
 | refine WC_drawS ?_
 | refine WC_skip ?_
 | refine WC_condF rfl ?_
 | refine WC_ret ?_
 | refine okF_intro rfl ?_)
    all_goals exact fin_ground (r' := .tuple [.int _ _, .int _ _, .bool _]) (.inr rfl) rfl rfl rfl
  · rw [if_neg hc]
    by_cases h1 : rightE x t sz
    · have h1' := h1
      obtain ⟨ht, hs, hok⟩ := h1'
      have hop := hok.2.1.1
      have hen := hok.2.1.2.1
      have hm1 := le_mx (a := takesE x sz) (b := 1)
      have hmt : mx (takesE x sz) 1 ≤ 1099511627776 := mx_le.mpr ⟨hk.2, by omega⟩
      have hc' : ¬ (sz ≤ x.ro ∧ mx t x.op ≤ x.en - mx (takesE x sz) 1) := fun h => hc ⟨h1, h.1, h.2⟩
      rw [decide_eq_true h1] at hr
      clear hok hc h1
      generalize takesE x sz = k at *
      generalize e1 : mx t x.op = m at *
      generalize e2 : mx k 1 = k1 at *
      repeat' (first
 | (refine I_WS ?_; first
 | refine W_mx rfl rfl rfl rfl e1 ?_
 | refine W_mx rfl rfl rfl rfl e2 ?_
 | (refine I_mov ?_; first
 | refine W_skip rfl ?_
 | refine W_mov (v := .int _ _) rfl rfl rfl ?_
 | refine W_mov (v := .bool _) rfl rfl rfl ?_)
 | (refine I_bin ?_; first
 | refine W_skip rfl ?_
 | refine W_gtrT rfl rfl rfl rfl (by omega) ?_
 | (refine W_gtr rfl rfl rfl rfl ?_ ?_ <;> intro _)
 | refine W_sub rfl rfl rfl rfl (by first | exact w64 (by omega) | rfl) ?_)
 | (refine I_load ?_; first
 | refine W_skip rfl ?_
 | refine W_load (agg := false) (d := .int _ _) rfl rfl rfl rfl (by first | exact Nat.zero_le _ | omega) rfl ?_
 | refine W_load (agg := true) (d := .agg [_, _, _, _, _, _, _, _]) rfl rfl rfl rfl (by first | exact Nat.zero_le _ | omega) rfl ?_)
 | (refine I_call ?_; first
 | refine W_call rfl rfl rfl hr rfl rfl ?_
 | refine W_call rfl rfl rfl hT rfl rfl ?_)
 | (refine I_pick ?_; first
 | refine W_pick (v := .bool _) rfl rfl rfl rfl ?_)
 | (refine I_box ?_; first
 | refine W_boxA rfl rfl rfl rfl rfl ?_)
 | refine W_not rfl rfl rfl ?_
 | refine W_faddr rfl rfl rfl ?_
 | refine W_skip rfl ?_
 | refine WS_nil ?_)
 | refine WC_seq ?_
 | refine WC_opsS ?_
 | refine WC_condT rfl ?_
 | refine WC_ret ?_)
      all_goals first
        | exact fin_ground (r' := .tuple [.int _ _, .int _ _, .bool _]) (.inr rfl) rfl rfl rfl
        | (exfalso; omega)
    · rw [decide_eq_false h1] at hr
      repeat' (first
 | (refine I_WS ?_; first
 | (refine I_mov ?_; first
 | refine W_skip rfl ?_
 | refine W_mov (v := .int _ _) rfl rfl rfl ?_
 | refine W_mov (v := .bool _) rfl rfl rfl ?_)
 | (refine I_bin ?_; first
 | refine W_skip rfl ?_)
 | (refine I_load ?_; first
 | refine W_skip rfl ?_
 | refine W_load (agg := false) (d := .int _ _) rfl rfl rfl rfl (by first | exact Nat.zero_le _ | omega) rfl ?_
 | refine W_load (agg := true) (d := .agg [_, _, _, _, _, _, _, _]) rfl rfl rfl rfl (by first | exact Nat.zero_le _ | omega) rfl ?_)
 | (refine I_call ?_; first
 | refine W_call rfl rfl rfl hr rfl rfl ?_
 | refine W_call rfl rfl rfl hT rfl rfl ?_)
 | (refine I_pick ?_; first
 | refine W_pick (v := .bool _) rfl rfl rfl rfl ?_)
 | (refine I_box ?_; first
 | refine W_boxA rfl rfl rfl rfl rfl ?_)
 | refine W_not rfl rfl rfl ?_
 | refine W_max2 rfl rfl rfl rfl ?_
 | refine W_faddr rfl rfl rfl ?_
 | refine W_skip rfl ?_
 | refine WS_nil ?_)
 | refine WC_seq ?_
 | refine WC_opsS ?_
 | refine WC_condT rfl ?_
 | refine WC_ret ?_)
      all_goals exact fin_ground (r' := .tuple [.int _ _, .int _ _, .bool _]) (.inr rfl) rfl rfl rfl
end Go.Eat
