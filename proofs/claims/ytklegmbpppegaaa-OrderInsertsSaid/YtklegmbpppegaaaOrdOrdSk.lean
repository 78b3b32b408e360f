/-
  Insert.
-/
import Derived.Test.YtklegmbpppegaaaOrdOrdSf
import Derived.Test.YtklegmbpppegaaaOrdOrdSh
import Derived.Test.YtklegmbpppegaaaOrdOrdSh
import Derived.Test.YtklegmbpppegaaaEvEvX12
set_option linter.unusedVariables false
set_option linter.unusedSimpArgs false
set_option linter.unnecessarySimpa false

namespace Go.Ord
open Go.Ev
set_option linter.unusedVariables false
set_option linter.unusedSimpArgs false
theorem sortM_ne {L : List Rt} (h : L ≠ []) : sortM L ≠ [] := fun h' => by
  cases L with
  | nil => exact h rfl
  | cons x L =>
    obtain ⟨y, hy, _⟩ := sortM_cov (x :: L) (r := x) List.mem_cons_self
    rw [h'] at hy
    cases hy
theorem s_SortR (L : List Rt) (hL : L.length ≤ 1000000) (hsh : Short L) (hne : L ≠ []) (t : Tok) (s : Nat) (hs : s = 2 ∨ L = []) : EvX Γ 15 [.slice t s (L.map Rt.e)] (fun r => r = .slice .row 2 ((sortM L).map Rt.e)) :=
  (s_SortA L hL hsh t s hs).mono fun r h => by
    rcases h with ⟨h, _⟩ | h
    · exact absurd h (sortM_ne hne)
    · exact h
theorem row_napart {L : List Rt} (h : L ≠ []) : (D.slice .row 2 (L.map Rt.e)).apart = false := by
  cases L with
  | nil => exact absurd rfl h
  | cons x L => simp [D.apart, Rt.e, D.cells, D.ground1]
/-- As many as are kept. -/
theorem clampN (m : Int) (n : Nat) : ∃ j, asNat (.int .i64 (if (if (n : Int) < m then (n : Int) else m) > 0 then (if (n : Int) < m then (n : Int) else m) else 0)) = some j ∧ j ≤ n ∧ (∀ {α : Type} (l : List α), l.length = n → l.take m.toNat = l.take j) := by
  refine ⟨min m.toNat n, ?_, Nat.min_le_right _ _, fun l hl => ?_⟩
  · simp only [asNat]
    split <;> split <;> simp <;> omega
  · subst hl
    by_cases h : m.toNat ≤ l.length
    · rw [Nat.min_eq_left h]
    · rw [Nat.min_eq_right (by omega), List.take_of_length_le (by omega), List.take_length]
set_option maxHeartbeats 4000000 in
theorem s_Ins0 (r : Rt) (hr : r.hs.length ≤ 1000000) (m : Int) (t : Tok) (s : Nat) : EvX Γ 17 [.slice t s [], r.e, .int .i64 m] (IsR Rt.e 2 ((sortM ([] ++ [r])).take m.toNat)) := by
  refine EvX_code rfl rfl ?_
  have hcl := fun t => s_copied0 t s
  have hrl : [r] ≠ [] := by simp
  have hsh : Short [r] := fun x hx => by rw [List.mem_singleton.1 hx]; exact hr
  have hS := s_SortR [r] (Nat.le_of_ble_eq_true rfl) hsh hrl .no 2 (.inl rfl)
  have hap := row_napart (sortM_ne hrl)
  have hel : ∀ a, Elem 2 (Rt.e a) := fun a => (rt_ele a).1
  have hys : ∀ d ∈ [r.e], Elem 2 d := fun d hd => by rw [List.mem_singleton.1 hd]; exact hel r
  have hl0 : ([] : List D).length = 0 := rfl
  simp only [Rt.e]
  repeat' (first
 | (refine I_WS ?_; first
 | (refine W_appNew (xs := []) (ys := [r.e]) rfl rfl (.inl rfl) (.inl rfl) rfl rfl (.inl rfl) (Nat.le_refl 1) (fun d hd => absurd hd List.not_mem_nil) hys (Nat.le_of_ble_eq_true rfl) (Nat.zero_le _) ?_ <;> intro st1 k1 k2 k3 k4 hR1 k6 k7)
 | (refine I_mov ?_; first
 | refine W_mov (v := .slice _ _ _) rfl rfl rfl ?_)
 | (refine I_load ?_; first
 | refine W_load (agg := true) (d := .agg [_, _]) rfl rfl rfl rfl (by first | exact Nat.zero_le _ | omega) rfl ?_)
 | (refine I_call ?_; first
 | refine W_callMD0 rfl rfl rfl (hcl _) rfl rfl rfl ?_)
 | (refine I_box ?_; first
 | refine W_boxA rfl rfl rfl rfl rfl ?_)
 | refine W_bslice (ys := [_]) rfl rfl rfl (by decide) rfl ?_
 | refine WS_nil ?_)
 | refine WC_seq ?_
 | refine WC_opsS ?_
 | refine WC_drawS ?_)
  have hl1 : st1.lim ≤ st1.next := by rw [k1, k7]; exact Nat.zero_le _
  have hz1 : ((sortM [r]).map Rt.e).length = (sortM [r]).length := List.length_map _
  have hS1 : sortM ([] ++ [r]) = sortM [r] := rfl
  rw [hS1]
  obtain ⟨j, hj, hjn, hjm⟩ := clampN m (sortM [r]).length
  rw [hjm _ rfl]
  generalize sortM [r] = S at *
  repeat' (first
 | (refine I_WS ?_; first
 | (refine I_mov ?_; first
 | refine W_mov (v := .int _ _) rfl rfl rfl ?_
 | refine W_mov (v := .rs _ _ _ _ _) rfl rfl rfl ?_)
 | (refine I_call ?_; first
 | (refine W_callFz (xs := [r]) (ys := S) (e := Rt.e) rfl rfl rfl hR1 rfl (by decide) rt_mk rfl rfl rfl rfl rfl rfl hS hap hl1 hel ?_ <;> intro st2 j1 j2 j3 j4 hR2 j6 j7))
 | refine W_min2 rfl rfl rfl rfl ?_
 | refine W_max2 rfl rfl rfl rfl ?_
 | refine W_lenR rfl rfl rfl ?_
 | refine WS_nil ?_)
 | refine okF_intro rfl ?_
 | refine WC_seq ?_
 | refine WC_opsS ?_)
  repeat' (first
 | (refine I_WS ?_; first
 | refine W_sliceRHM (j := j) (j2 := j) rfl rfl hj hj (Nat.le_refl _) hjn rfl ?_
 | (refine I_mov ?_; first
 | refine W_mov (v := .rs _ _ _ _ _) rfl rfl rfl ?_)
 | refine WS_nil ?_)
 | refine WC_ret ?_)
  exact finX_R (.inr rfl) rfl (.inr ⟨_, j, _, by rw [List.length_take, Nat.min_eq_left hjn], rfl, by rw [List.map_take]; exact hR2.take rt_cells j⟩) (by decide) rt_mk rfl
set_option maxHeartbeats 4000000 in
theorem s_Ins1 (L : List Rt) (hL : L.length < 1000000) (hLs : Short L) (hLn : L ≠ []) (r : Rt) (hr : r.hs.length ≤ 1000000) (m : Int) (t : Tok) (s : Nat) (hs : s = 2 ∨ L = []) : EvX Γ 17 [.slice t s (L.map Rt.e), r.e, .int .i64 m] (IsR Rt.e 2 ((sortM (L ++ [r])).take m.toNat)) := by
  refine EvX_code rfl rfl ?_
  have hcl := fun t => s_copied L hLs (by omega) hLn t s hs
  have hrl : L ++ [r] ≠ [] := by simp
  have hsh : Short (L ++ [r]) := fun x hx => by
    rcases List.mem_append.1 hx with h | h
    · exact hLs x h
    · rw [List.mem_singleton.1 h]; exact hr
  have hS := s_SortR (L ++ [r]) (by rw [List.length_append]; simp; omega) hsh hrl .no 2 (.inl rfl)
  have hap := row_napart (sortM_ne hrl)
  have hel : ∀ a, Elem 2 (Rt.e a) := fun a => (rt_ele a).1
  have hys : ∀ d ∈ [r.e], Elem 2 d := fun d hd => by rw [List.mem_singleton.1 hd]; exact hel r
  have hlen : (L ++ [r]).length = L.length + 1 := List.length_append
  have hbb : (L.length + [r.e].length) * 32 ≤ 140737488355328 := by simp; omega
  obtain ⟨j, hj, hjn, hjm⟩ := clampN m (sortM (L ++ [r])).length
  rw [hjm _ rfl]
  generalize sortM (L ++ [r]) = S at *
  simp only [Rt.e]
  repeat' (first
 | (refine I_WS ?_; first
 | (refine I_mov ?_; first
 | refine W_mov (v := .slice _ _ _) rfl rfl rfl ?_)
 | (refine I_call ?_; first
 | (refine W_callRd rfl rfl rfl (hcl _) rfl rfl hel (Nat.zero_le _) ?_ <;> intro st1 d1 fl1 hfl1 k1 k2 k3 k4 hP k5 k6))
 | (refine I_box ?_; first
 | refine W_boxA rfl rfl rfl rfl rfl ?_)
 | refine WS_nil ?_)
 | refine WC_seq ?_
 | refine WC_opsS ?_
 | refine WC_drawS ?_)
  rcases hP with ⟨h, _⟩ | ⟨q, n, c, hn, rfl, hR1⟩
  · exact absurd h hLn
  have hb0 : (st1.boxes Store.empty.next).bind Box.cs = some [.slice .no 3 (r.hs.map Hp.e), .int .i64 r.ar] := by rw [k5 _ (Nat.lt_succ_self _)]; rfl
  have hl0 : st1.lim ≤ Store.empty.next := by rw [k1]; exact Nat.le_refl _
  have hnl : n = (L.map Rt.e).length := by rw [List.length_map]; exact hn
  have hbn : (n + [r.e].length) * 32 ≤ 140737488355328 := by rw [hn]; exact hbb
  repeat' (first
 | (refine I_WS ?_; first
 | (refine W_appRow2 (xs := L.map Rt.e) (ys := [r.e]) rfl rfl rfl hR1 hnl (.inl rfl) rt_cells hys hbn ?_ <;> intro p2 c2 st2 e1 e2 e3 e4 hR2 hb2 e5 e6 e7)
 | (refine I_load ?_; first
 | refine W_load (agg := true) (d := .agg [_, _]) rfl rfl rfl hb0 hl0 rfl ?_)
 | refine W_bslice (ys := [_]) rfl rfl rfl (by decide) rfl ?_))
  have hl2 : st2.lim ≤ st2.next := Nat.le_trans hR2.1 (Nat.le_of_lt hR2.2.1)
  have hR2' : RowIs st2 p2 2 ((L ++ [r]).map Rt.e) := by rw [List.map_append]; exact hR2
  have hn2 : n + [r.e].length = (L ++ [r]).length := by rw [hn, hlen]; rfl
  repeat' (first
 | (refine I_WS ?_; first
 | (refine I_mov ?_; first
 | refine W_mov (v := .rs _ _ _ _ _) rfl rfl rfl ?_)
 | (refine I_call ?_; first
 | (refine W_callFz (xs := L ++ [r]) (ys := S) (e := Rt.e) rfl rfl rfl hR2' hn2 (by decide) rt_mk rfl rfl rfl rfl rfl rfl hS hap hl2 hel ?_ <;> intro st3 j1 j2 j3 j4 hR3 j6 j7))
 | refine WS_nil ?_))
  repeat' (first
 | (refine I_WS ?_; first
 | refine W_sliceRHM (j := j) (j2 := j) rfl rfl hj hj (Nat.le_refl _) hjn rfl ?_
 | (refine I_mov ?_; first
 | refine W_mov (v := .int _ _) rfl rfl rfl ?_
 | refine W_mov (v := .rs _ _ _ _ _) rfl rfl rfl ?_)
 | refine W_min2 rfl rfl rfl rfl ?_
 | refine W_max2 rfl rfl rfl rfl ?_
 | refine W_lenR rfl rfl rfl ?_
 | refine WS_nil ?_)
 | refine okF_intro (by rcases hfl1 with rfl | rfl <;> rfl) ?_
 | refine WC_seq ?_
 | refine WC_opsS ?_
 | refine WC_ret ?_)
  exact finX_R (.inr rfl) rfl (.inr ⟨_, j, _, by rw [List.length_take, Nat.min_eq_left hjn], rfl, by rw [List.map_take]; exact hR3.take rt_cells j⟩) (by decide) rt_mk rfl
theorem s_Insert (L : List Rt) (hL : L.length < 1000000) (hLs : Short L) (r : Rt) (hr : r.hs.length ≤ 1000000) (m : Int) (t : Tok) (s : Nat) (hs : s = 2 ∨ L = []) : EvX Γ 17 [.slice t s (L.map Rt.e), .agg [.slice .no 3 (r.hs.map Hp.e), .int .i64 r.ar], .int .i64 m] (IsN Rt.e 2 ((sortM (L ++ [r])).take m.toNat)) := by
  by_cases h : L = []
  · subst h
    exact (s_Ins0 r hr m t s).mono fun _ h => h.n
  · exact (s_Ins1 L hL hLs h r hr m t s hs).mono fun _ h => h.n
end Go.Ord

/-
  The law OrderInserts, run.
-/
namespace Go.Ord
open Go.Ev
set_option linter.unusedVariables false
set_option linter.unusedSimpArgs false
set_option maxHeartbeats 4000000 in
theorem l_pl (A : List Rt) (hA : Short A) (hl : A.length ≤ 1000000) (t t' : Tok) (s s' : Nat) (hs : s = 2 ∨ A = []) (hs' : s' = 2 ∨ A = []) : ∀ (T A0 : List Rt), A = A0 ++ T → ∀ (ρ : Nat → D) (st : Store), ρ 0 = .slice t s (A.map Rt.e) → ρ 1 = .slice t' s' (A.map Rt.e) → ρ 5 = .int .i64 A0.length → ∀ (Q : X → (Nat → D) → Store → Prop),
    (∀ ρ', ρ' 0 = .slice t s (A.map Rt.e) → ρ' 1 = .slice t' s' (A.map Rt.e) → Q (.exit 0) ρ' st) → WC Γ (.loop c_feluccalaw13_places_l0) ρ st Q := by
  intro T
  induction T with
  | nil =>
    intro A0 hL ρ st h0 h1 h5 Q hQ
    rw [List.append_nil] at hL
    subst hL
    rw [← upd_self h0, ← upd_self h1, ← upd_self h5]
    refine WC_loop ?_
    repeat' (first
 | (refine I_WS ?_; first
 | refine W_lenM rfl rfl rfl ?_
 | (refine I_mov ?_; first
 | refine W_skip rfl ?_
 | refine W_mov (v := .int _ _) rfl rfl rfl ?_
 | refine W_mov (v := .bool _) rfl rfl rfl ?_
 | refine W_mov (v := .slice _ _ _) rfl rfl rfl ?_)
 | (refine I_bin ?_; first
 | refine W_skip rfl ?_
 | refine W_lssF rfl rfl rfl rfl (by omega) ?_)
 | (refine I_pick ?_; first
 | refine W_pick (v := .bool _) rfl rfl rfl rfl ?_)
 | refine W_skip rfl ?_
 | refine WS_nil ?_)
 | refine WC_seq ?_
 | refine WC_opsS ?_
 | refine WC_condF rfl ?_
 | refine WC_exit ?_)
    all_goals first | (exfalso; omega) | (refine hQ _ ?_ ?_ <;> rfl)
  | cons x T ih =>
    intro A0 hL ρ st h0 h1 h5 Q hQ
    have hi : A0.length < A.length := by rw [hL]; simp
    have hlt : (A0.length : Int) < ((A.length : Nat) : Int) := by omega
    have hx : A[A0.length]? = some x := by rw [hL]; simp
    have hs2 : s = 2 := by rcases hs with h | h; exact h; rw [h] at hi; simp at hi
    have hs2' : s' = 2 := by rcases hs' with h | h; exact h; rw [h] at hi; simp at hi
    have hxs := hA x (List.mem_of_getElem? hx)
    have hC := fun t t' => s_CompareR x.hs x.ar x.hs x.ar hxs hxs t t' 3 3 (.inl rfl) (.inl rfl)
    rw [cmpR_self] at hC
    have hl0 : A0.length < (A.map Rt.e).length := by rw [List.length_map]; omega
    have hadd : IntKind.i64.wrap ((A0.length : Int) + 1) = ((A0 ++ [x]).length : Nat) := by rw [w64 (by omega)]; simp
    have hnx := ih (A0 ++ [x]) (by rw [hL]; simp)
    clear ih
    rw [← upd_self h0, ← upd_self h1, ← upd_self h5]
    refine WC_loop ?_
    repeat' (first
 | (refine I_WS ?_; first
 | refine W_lenM rfl rfl rfl ?_
 | refine W_lssT rfl rfl rfl rfl hlt ?_
 | refine W_add (s := (((A0 ++ [x]).length : Nat) : Int)) rfl rfl rfl rfl hadd ?_
 | refine W_iaddr (j := A0.length) rfl rfl rfl rfl hs2 hl0 ?_
 | refine W_iaddr (j := A0.length) rfl rfl rfl rfl hs2' hl0 ?_
 | (refine I_mov ?_; first
 | refine W_mov (v := .int _ _) rfl rfl rfl ?_
 | refine W_mov (v := .bool _) rfl rfl rfl ?_
 | refine W_mov (v := .slice _ _ _) rfl rfl rfl ?_)
 | (refine I_bin ?_; first
 | refine W_neqF rfl rfl rfl rfl (by omega) ?_)
 | (refine I_load ?_; first
 | refine W_loadE (agg := true) (d := .agg [_, _]) rfl rfl rfl hx rfl ?_)
 | (refine I_call ?_; first
 | refine W_call rfl rfl rfl (hC _ _) rfl rfl ?_)
 | (refine I_pick ?_; first
 | refine W_pick (v := .bool _) rfl rfl rfl rfl ?_)
 | refine WS_nil ?_)
 | refine okF_intro (okFlags_onlyR rfl) ?_
 | refine WC_seq ?_
 | refine WC_opsS ?_
 | refine WC_drawS ?_
 | refine WC_skip ?_
 | refine WC_condT rfl ?_
 | refine WC_condF rfl ?_
 | refine WC_block ?_)
    all_goals first | (exfalso; omega) | (refine hnx _ _ ?_ ?_ ?_ Q hQ <;> rfl)
theorem s_places (A : List Rt) (hA : Short A) (hl : A.length ≤ 1000000) (t t' : Tok) (s s' : Nat) (hs : s = 2 ∨ A = []) (hs' : s' = 2 ∨ A = []) : EvP Γ 26 [.slice t s (A.map Rt.e), .slice t' s' (A.map Rt.e)] (.bool true) := by
  refine EvP_code rfl rfl ?_
  repeat' (first
 | (refine I_WS ?_; first
 | (refine I_mov ?_; first
 | refine W_mov (v := .int _ _) rfl rfl rfl ?_
 | refine W_mov (v := .bool _) rfl rfl rfl ?_)
 | refine WS_nil ?_)
 | (refine l_pl A hA hl t t' s s' hs hs' A [] rfl _ _ ?_ ?_ ?_ _ ?_ <;> first | rfl | (intro ρ2 k0 k1))
 | refine WC_seq ?_
 | refine WC_opsS ?_
 | refine WC_block ?_)
  rw [← upd_self k0, ← upd_self k1]
  repeat' (first
 | (refine I_WS ?_; first
 | refine W_lenM rfl rfl rfl ?_
 | (refine I_mov ?_; first
 | refine W_mov (v := .bool _) rfl rfl rfl ?_
 | refine W_mov (v := .slice _ _ _) rfl rfl rfl ?_)
 | (refine I_bin ?_; first
 | refine W_eqlT rfl rfl rfl rfl (by omega) ?_)
 | refine WS_nil ?_)
 | refine WC_ret ?_)
  exact fin_bool (.inr rfl) rfl rfl
set_option maxHeartbeats 4000000 in
theorem l_in0 (L : List Rt) (m : Int) (hLs : Short L) (hl : L.length ≤ 50) (t : Tok) (s : Nat) (hs : s = 2 ∨ L = []) (d5 : D) : ∀ (T A0 : List Rt), L = A0 ++ T → ∀ (tx : Tok) (sx : Nat), (sx = 2 ∨ (sortM A0).take m.toNat = []) → ∀ (ρ : Nat → D) (st : Store), ρ 0 = .slice t s (L.map Rt.e) → ρ 1 = .int .i64 m → ρ 5 = d5 → ρ 7 = .slice tx sx (((sortM A0).take m.toNat).map Rt.e) → ρ 8 = .int .i64 A0.length → ∀ (Q : X → (Nat → D) → Store → Prop),
    (∀ ρ' tx sx, (sx = 2 ∨ (sortM L).take m.toNat = []) → ρ' 0 = .slice t s (L.map Rt.e) → ρ' 1 = .int .i64 m → ρ' 5 = d5 → ρ' 7 = .slice tx sx (((sortM L).take m.toNat).map Rt.e) → Q (.exit 0) ρ' st) → WC Γ (.loop c_feluccalaw13_OrderInserts_l0) ρ st Q := by
  intro T
  induction T with
  | nil =>
    intro A0 hL tx sx hsx ρ st h0 h1 h5 h7 h8 Q hQ
    rw [List.append_nil] at hL
    subst hL
    rw [← upd_self h0, ← upd_self h1, ← upd_self h5, ← upd_self h7, ← upd_self h8]
    refine WC_loop ?_
    repeat' (first
 | (refine I_WS ?_; first
 | refine W_lenM rfl rfl rfl ?_
 | (refine I_mov ?_; first
 | refine W_mov (v := .int _ _) rfl rfl rfl ?_
 | refine W_mov (v := .slice _ _ _) rfl rfl rfl ?_)
 | (refine I_bin ?_; first
 | refine W_lssF rfl rfl rfl rfl (by omega) ?_)
 | refine WS_nil ?_)
 | refine WC_seq ?_
 | refine WC_opsS ?_
 | refine WC_condF rfl ?_
 | refine WC_exit ?_)
    all_goals first | (exfalso; omega) | (refine hQ _ tx sx hsx ?_ ?_ ?_ ?_ <;> rfl)
  | cons x T ih =>
    intro A0 hL tx sx hsx ρ st h0 h1 h5 h7 h8 Q hQ
    have hi : A0.length < L.length := by rw [hL]; simp
    have hlt : (A0.length : Int) < ((L.length : Nat) : Int) := by omega
    have hx : L[A0.length]? = some x := by rw [hL]; simp
    have hs2 : s = 2 := by rcases hs with h | h; exact h; rw [h] at hi; simp at hi
    have hxs := hLs x (List.mem_of_getElem? hx)
    have hl0 : A0.length < (L.map Rt.e).length := by rw [List.length_map]; omega
    have hadd : IntKind.i64.wrap ((A0.length : Int) + 1) = ((A0 ++ [x]).length : Nat) := by rw [w64 (by omega)]; simp
    have hAs : Short ((sortM A0).take m.toNat) := fun r hr => hLs r (by
      rw [hL]
      exact List.mem_append_left _ (sortM_mem (List.mem_of_mem_take hr)))
    have hAl : ((sortM A0).take m.toNat).length < 1000000 := by
      have h1 := sortM_le A0
      have h2 := List.length_take_le' m.toNat (sortM A0)
      omega
    have hI := fun t => s_Insert ((sortM A0).take m.toNat) hAl hAs x hxs m t sx hsx
    rw [ins_step] at hI
    have hnx := ih (A0 ++ [x]) (by rw [hL]; simp)
    clear ih
    rw [← upd_self h0, ← upd_self h1, ← upd_self h5, ← upd_self h7, ← upd_self h8]
    refine WC_loop ?_
    repeat' (first
 | (refine I_WS ?_; first
 | refine W_lenM rfl rfl rfl ?_
 | refine W_lssT rfl rfl rfl rfl hlt ?_
 | refine W_add (s := (((A0 ++ [x]).length : Nat) : Int)) rfl rfl rfl rfl hadd ?_
 | refine W_iaddr (j := A0.length) rfl rfl rfl rfl hs2 hl0 ?_
 | (refine I_mov ?_; first
 | refine W_mov (v := .int _ _) rfl rfl rfl ?_
 | refine W_mov (v := .slice _ _ _) rfl rfl rfl ?_)
 | (refine I_load ?_; first
 | refine W_loadE (agg := true) (d := .agg [_, _]) rfl rfl rfl hx rfl ?_)
 | (refine I_call ?_; first
 | (refine W_callN rfl rfl rfl (hI _) rfl ?_ <;> intro t5 s5 hs5 ht5))
 | refine WS_nil ?_)
 | refine WC_seq ?_
 | refine WC_opsS ?_
 | refine WC_skip ?_
 | refine WC_condT rfl ?_
 | refine WC_block ?_)
    all_goals first | (exfalso; omega) | (refine hnx t5 s5 hs5 _ _ ?_ ?_ ?_ ?_ ?_ Q hQ <;> rfl)
set_option maxHeartbeats 4000000 in
theorem run_Inserts (L : List Rt) (m : Int) (t : Tok) (s : Nat) (hs : s = 2 ∨ L = []) : EvP Γ 6 [.slice t s (L.map Rt.e), .int .i64 m] (.bool true) := by
  refine EvP_code rfl rfl ?_
  obtain ⟨b, hF, hb⟩ := s_Few L t.strip s hs
  cases b with
  | false =>
    repeat' (first
 | (refine I_WS ?_; first
 | (refine I_mov ?_; first
 | refine W_skip rfl ?_
 | refine W_mov (v := .bool _) rfl rfl rfl ?_
 | refine W_mov (v := .slice _ _ _) rfl rfl rfl ?_)
 | (refine I_bin ?_; first
 | refine W_skip rfl ?_)
 | (refine I_call ?_; first
 | refine W_call rfl rfl rfl s_small rfl rfl ?_
 | refine W_call rfl rfl rfl hF rfl rfl ?_)
 | (refine I_pick ?_; first
 | refine W_pick (v := .bool _) rfl rfl rfl rfl ?_)
 | refine W_not rfl rfl rfl ?_
 | refine WS_nil ?_)
 | refine WC_seq ?_
 | refine WC_opsS ?_
 | refine WC_condT rfl ?_
 | refine WC_ret ?_)
    exact fin_bool (.inr rfl) rfl rfl
  | true =>
    obtain ⟨hl, hh⟩ := hb rfl
    clear hb
    by_cases hm : m < 0
    · repeat' (first
 | (refine I_WS ?_; first
 | refine W_lssT rfl rfl rfl rfl hm ?_
 | (refine I_mov ?_; first
 | refine W_mov (v := .int _ _) rfl rfl rfl ?_
 | refine W_mov (v := .bool _) rfl rfl rfl ?_
 | refine W_mov (v := .slice _ _ _) rfl rfl rfl ?_)
 | (refine I_call ?_; first
 | refine W_call rfl rfl rfl s_small rfl rfl ?_
 | refine W_call rfl rfl rfl hF rfl rfl ?_)
 | (refine I_pick ?_; first
 | refine W_pick (v := .bool _) rfl rfl rfl rfl ?_)
 | refine W_not rfl rfl rfl ?_
 | refine WS_nil ?_)
 | refine WC_seq ?_
 | refine WC_opsS ?_
 | refine WC_condT rfl ?_
 | refine WC_ret ?_)
      exact fin_bool (.inr rfl) rfl rfl
    · have hm0 : 0 ≤ m := by omega
      have hLs : Short L := fun r hr => Nat.le_trans (hh r hr) (by decide)
      have hS1 := fun t => s_SortAN L (by omega) hLs t s hs
      have hSl : (sortM L).length ≤ 50 := Nat.le_trans (sortM_le L) hl
      have hSs := sortM_short hLs
      have hlo := fun tx sx hsx => l_in0 L m hLs hl t s hs (.bool true) L [] rfl tx sx hsx
      have h00 : (sortM []).take m.toNat = [] := List.take_nil
      rw [h00] at hlo
      generalize sortM L = S at *
      have hTs : Short (S.take m.toNat) := fun r hr => hSs r (List.mem_of_mem_take hr)
      have hTl : (S.take m.toNat).length ≤ 1000000 := by
        have := List.length_take_le' m.toNat S
        omega
      have hP := fun t t' s s' hs hs' => s_places (S.take m.toNat) hTs hTl t t' s s' hs hs'
      repeat' (first
 | (refine I_WS ?_; first
 | refine W_lssF rfl rfl rfl rfl hm0 ?_
 | (refine I_mov ?_; first
 | refine W_mov (v := .int _ _) rfl rfl rfl ?_
 | refine W_mov (v := .bool _) rfl rfl rfl ?_
 | refine W_mov (v := .slice _ _ _) rfl rfl rfl ?_)
 | (refine I_call ?_; first
 | refine W_call rfl rfl rfl s_small rfl rfl ?_
 | refine W_call rfl rfl rfl hF rfl rfl ?_)
 | (refine I_pick ?_; first
 | refine W_pick (v := .bool _) rfl rfl rfl rfl ?_)
 | refine W_not rfl rfl rfl ?_
 | refine WS_nil ?_)
 | (refine hlo .isnil 0 (.inr rfl) _ _ ?_ ?_ ?_ ?_ ?_ _ ?_ <;> first | rfl | (intro ρ2 tx sx hsx k0 k1 k5 k7))
 | refine WC_seq ?_
 | refine WC_opsS ?_
 | refine WC_skip ?_
 | refine WC_condF rfl ?_
 | refine WC_block ?_)
      rw [← upd_self k0, ← upd_self k1, ← upd_self k5, ← upd_self k7]
      by_cases hmn : m < ((S.length : Nat) : Int)
      · have hmc : m.toNat ≤ S.length := by omega
        have hln : (((S.take m.toNat).length : Nat) : Int) = m := by rw [List.length_take]; omega
        have hsn : asNat (.int .i64 m) = some m.toNat := by simp only [asNat]; rw [if_pos hm0]
        repeat' (first
 | (refine I_WS ?_; first
 | refine W_lenM rfl rfl rfl ?_
 | refine W_lssT rfl rfl rfl rfl hmn ?_
 | refine W_eqlT rfl rfl rfl rfl hln ?_
 | (refine W_sliceHi (j := m.toNat) rfl rfl hs5 hsn hmc rfl ?_ <;> intro t6)
 | (refine I_mov ?_; first
 | refine W_mov (v := .int _ _) rfl rfl rfl ?_
 | refine W_mov (v := .bool _) rfl rfl rfl ?_
 | refine W_mov (v := .slice _ _ _) rfl rfl rfl ?_)
 | (refine I_call ?_; first
 | (refine W_callN rfl rfl rfl (hS1 _) rfl ?_ <;> intro t5 s5 hs5 ht5)
 | refine W_call rfl rfl rfl (hP _ _ sx 2 hsx (.inl rfl)) rfl rfl ?_)
 | (refine I_pick ?_; first
 | refine W_pick (v := .bool _) rfl rfl rfl rfl ?_)
 | refine WS_nil ?_)
 | refine WC_seq ?_
 | refine WC_opsS ?_
 | refine WC_condT rfl ?_
 | refine WC_ret ?_)
        all_goals first | (exfalso; omega) | exact fin_bool (.inr rfl) rfl rfl
      · have hmc : S.length ≤ m.toNat := by omega
        have hmn' : ((S.length : Nat) : Int) ≤ m := by omega
        have hT : S.take m.toNat = S := List.take_of_length_le hmc
        have hsn : asNat (.int .i64 ((S.length : Nat) : Int)) = some S.length := by simp [asNat]
        rw [hT] at hP hsx ⊢
        have hS2 : S.take S.length = S := List.take_length
        repeat' (first
 | (refine I_WS ?_; first
 | refine W_lenM rfl rfl rfl ?_
 | refine W_lssF rfl rfl rfl rfl hmn' ?_
 | (refine W_sliceHi (j := S.length) rfl rfl hs5 hsn (Nat.le_refl _) rfl ?_ <;> intro t6 <;> rw [hS2])
 | (refine I_mov ?_; first
 | refine W_mov (v := .int _ _) rfl rfl rfl ?_
 | refine W_mov (v := .bool _) rfl rfl rfl ?_
 | refine W_mov (v := .slice _ _ _) rfl rfl rfl ?_)
 | (refine I_bin ?_; first
 | refine W_eqlT rfl rfl rfl rfl (by omega) ?_)
 | (refine I_call ?_; first
 | (refine W_callN rfl rfl rfl (hS1 _) rfl ?_ <;> intro t5 s5 hs5 ht5)
 | refine W_call rfl rfl rfl (hP _ _ sx 2 hsx (.inl rfl)) rfl rfl ?_)
 | (refine I_pick ?_; first
 | refine W_pick (v := .bool _) rfl rfl rfl rfl ?_)
 | refine WS_nil ?_)
 | refine WC_seq ?_
 | refine WC_opsS ?_
 | refine WC_skip ?_
 | refine WC_condF rfl ?_
 | refine WC_ret ?_)
        all_goals first | (exfalso; omega) | exact fin_bool (.inr rfl) rfl rfl
end Go.Ord
