/-
  slices' symMerge, on a row of routes.
-/
import Derived.Test.YtklegmbpppegaaaOrdOrdX
import Derived.Test.YtklegmbpppegaaaOrdOrdX
import Derived.Test.YtklegmbpppegaaaOrdOrdX
import Derived.Test.YtklegmbpppegaaaOrdOrdX
set_option linter.unusedVariables false
set_option linter.unusedSimpArgs false
set_option linter.unnecessarySimpa false

namespace Go.Ord
open Go.Ev
set_option linter.unusedVariables false
set_option linter.unusedSimpArgs false
section
variable {Γ : Nat → Option FD} {ρ : Nat → D} {st : Store} {Q : X → (Nat → D) → Store → Prop}
/-- A piece that ends with a choice, said at once. -/
theorem WC_cutOC {dr : Bool} {ops : List Op1} {x : A} {a b r : C} (Φ : (Nat → D) → Store → Prop) (h1 : WC Γ (.seq (.ops dr ops) (.cond x a b)) ρ st (fun X ρ2 st2 => X = .normal ∧ Φ ρ2 st2)) (h2 : ∀ ρ2 st2, Φ ρ2 st2 → WC Γ r ρ2 st2 Q) : WC Γ (.seq (.seq (.ops dr ops) (.cond x a b)) r) ρ st Q := by
  refine WC_seq (h1.mono ?_)
  rintro X ρ1 st1 ⟨rfl, h⟩
  exact h2 ρ1 st1 h
theorem WC_cutB {dr dr2 : Bool} {ops ops2 : List Op1} {x : A} {a b bb rr : C} {i : Nat} (Φ : (Nat → D) → Store → Prop) (h1 : WC Γ (.seq (.ops dr ops) (.cond x a b)) ρ st (fun X ρ2 st2 => X = .normal ∧ Φ ρ2 st2)) (h2 : ∀ ρ2 st2, Φ ρ2 st2 → WC Γ (.seq (.ops dr2 ops2) (.seq (.block i bb) rr)) ρ2 st2 Q) : WC Γ (.seq (.seq (.ops dr ops) (.cond x a b)) (.seq (.ops dr2 ops2) (.seq (.block i bb) rr))) ρ st Q := WC_cutOC Φ h1 h2
end
theorem mrg_e {A B : List Rt} (h : A = [] ∨ B = []) : mrg A B = A ++ B := by
  rcases h with rfl | rfl
  · rw [mrg_nl]; rfl
  · rw [mrg_nr, List.append_nil]
theorem sw_e {P A B R : List Rt} (h : A = [] ∨ B = []) : P ++ A ++ B ++ R = P ++ B ++ A ++ R := by
  rcases h with rfl | rfl <;> simp
/-- Where the two sides are parted. -/
theorem sym_parts {P A B R : List Rt} {a m b md i0 j0 s : Nat} (ha : a = P.length) (hm : m = a + A.length) (hb : b = m + B.length) (h1 : a < m) (h2 : m < b) (hmd : 2 * md ≤ a + b ∧ a + b ≤ 2 * md + 1) (hij : (md < m ∧ i0 = md + m - b ∧ j0 = md) ∨ (m ≤ md ∧ i0 = a ∧ j0 = m))
    (hA : Srt A) (hB : Srt B) {g : Nat → Bool} (hg : ∀ c y x, i0 ≤ c → c < j0 → (P ++ A ++ B ++ R)[c]? = some y → (P ++ A ++ B ++ R)[md + m - 1 - c]? = some x → g c = !ltR x y) (hc : Cut g i0 j0 s) :
    (∀ y ∈ B.take (md + m - s - m), ∀ x ∈ A.drop (s - a), ltR y x = true) ∧ (∀ x ∈ A.take (s - a), ∀ y ∈ B.drop (md + m - s - m), leR x y) := by
  have h0 := hc.lo
  have h9 := hc.hi
  have hAat : ∀ {c : Nat}, a ≤ c → c < m → (P ++ A ++ B ++ R)[c]? = A[c - a]? := fun {c} q1 q2 => by
    rw [List.append_assoc (P ++ A), ha]; exact seg_at (by omega) (by omega)
  have hBat : ∀ {c : Nat}, m ≤ c → c < b → (P ++ A ++ B ++ R)[c]? = B[c - m]? := fun {c} q1 q2 => by
    have hl : (P ++ A).length = m := by rw [List.length_append]; omega
    have := seg_at (U := P ++ A) (B := B) (R := R) (c := c) (by omega) (by omega)
    rw [hl] at this
    exact this
  constructor
  · intro y hy x hx
    obtain ⟨i, hi⟩ := List.mem_iff_getElem?.1 hy
    have hil : i < md + m - s - m := by
      have := (List.getElem?_eq_some_iff.mp hi).1
      rw [List.length_take] at this
      omega
    rw [List.getElem?_take_of_lt hil] at hi
    have hiB := (List.getElem?_eq_some_iff.mp hi).1
    obtain ⟨k, hk⟩ := List.mem_iff_getElem?.1 hx
    rw [List.getElem?_drop] at hk
    have hkA := (List.getElem?_eq_some_iff.mp hk).1
    have hs : s < j0 := by omega
    have hs1 : a ≤ s := by omega
    obtain ⟨u, hu⟩ : ∃ u, A[s - a]? = some u := ⟨_, List.getElem?_eq_getElem (by omega)⟩
    obtain ⟨v, hv⟩ : ∃ v, B[md + m - 1 - s - m]? = some v := ⟨_, List.getElem?_eq_getElem (by omega)⟩
    have hgs := hg s u v h0 hs ((hAat (by omega) (by omega)).trans hu) ((hBat (by omega) (by omega)).trans hv)
    rw [hc.af s (Nat.le_refl _) hs] at hgs
    have hvu : ltR v u = true := by simpa using hgs.symm
    exact lt_le (le_lt (srt_le hB hi hv (by omega)) hvu) (srt_le hA hu hk (by omega))
  · intro x hx y hy
    obtain ⟨i, hi⟩ := List.mem_iff_getElem?.1 hx
    have hil : i < s - a := by
      have := (List.getElem?_eq_some_iff.mp hi).1
      rw [List.length_take] at this
      omega
    rw [List.getElem?_take_of_lt hil] at hi
    have hiA := (List.getElem?_eq_some_iff.mp hi).1
    obtain ⟨k, hk⟩ := List.mem_iff_getElem?.1 hy
    rw [List.getElem?_drop] at hk
    have hkB := (List.getElem?_eq_some_iff.mp hk).1
    have hs : i0 < s := by omega
    obtain ⟨u, hu⟩ : ∃ u, A[s - 1 - a]? = some u := ⟨_, List.getElem?_eq_getElem (by omega)⟩
    obtain ⟨v, hv⟩ : ∃ v, B[md + m - 1 - (s - 1) - m]? = some v := ⟨_, List.getElem?_eq_getElem (by omega)⟩
    have hgs := hg (s - 1) u v (by omega) (by omega) ((hAat (by omega) (by omega)).trans hu) ((hBat (by omega) (by omega)).trans hv)
    rw [hc.be (s - 1) (by omega) (by omega)] at hgs
    have huv : leR u v := leR_iff.2 (by simpa using hgs.symm)
    exact leR_trans (leR_trans (srt_le hA hi hu (by omega)) huv) (srt_le hB hv hk (by omega))
end Go.Ord

/-
  slices' symMerge, on a row of routes: the walk.
-/
namespace Go.Ord
open Go.Ev
set_option linter.unusedVariables false
set_option linter.unusedSimpArgs false
def SymOK (p n c sz : Nat) : Prop := ∀ (P A B R : List Rt) (st : Store), A.length + B.length ≤ sz → 0 < A.length → 0 < B.length → Srt A → Srt B → n = (P ++ A ++ B ++ R).length → Short (P ++ A ++ B ++ R) → RowIs st p 2 ((P ++ A ++ B ++ R).map Rt.e) → ∀ a m b : Nat, a = P.length → m = a + A.length → b = m + B.length →
  EvRWX Γ 72 [.rs p 0 2 n c, .int .i64 a, .int .i64 m, .int .i64 b, .func 21 []] st (fun r st' => r = .tuple [] ∧ FrR st st' p ∧ RowIs st' p 2 ((P ++ mrg A B ++ R).map Rt.e))
set_option maxHeartbeats 16000000 in
theorem s_symG (p n c sz : Nat) (hnl : n ≤ 1000000) (ih : SymOK p n c sz) (P A B R : List Rt) (st : Store) (hsz : A.length + B.length ≤ sz + 1) (hA1 : 1 < A.length) (hB1 : 1 < B.length) (hA : Srt A) (hB : Srt B) (hn : n = (P ++ A ++ B ++ R).length) (hsh : Short (P ++ A ++ B ++ R)) (hR : RowIs st p 2 ((P ++ A ++ B ++ R).map Rt.e)) (a m b : Nat) (ha : a = P.length) (hm : m = a + A.length) (hb : b = m + B.length) :
    EvRWX Γ 72 [.rs p 0 2 n c, .int .i64 a, .int .i64 m, .int .i64 b, .func 21 []] st (fun r st' => r = .tuple [] ∧ FrR st st' p ∧ RowIs st' p 2 ((P ++ mrg A B ++ R).map Rt.e)) := by
  refine EvRWX_code rfl rfl ?_
  have hnb : b ≤ n := by rw [hn]; simp; omega
  have hsub1 : IntKind.i64.wrap ((m : Int) - (a : Int)) = ((m - a : Nat) : Int) := by rw [w64 (by omega)]; omega
  have hsub2 : IntKind.i64.wrap ((b : Int) - (m : Int)) = ((b - m : Nat) : Int) := by rw [w64 (by omega)]; omega
  have hne1 : ¬ ((m - a : Nat) : Int) = 1 := by omega
  have hne2 : ¬ ((b - m : Nat) : Int) = 1 := by omega
  have hsum : IntKind.i64.wrap ((a : Int) + (b : Int)) = ((a + b : Nat) : Int) := by rw [w64 (by omega)]; omega
  have hcv1 : IntKind.u64.wrap ((a + b : Nat) : Int) = ((a + b : Nat) : Int) := by
    show ((a + b : Nat) : Int) % 18446744073709551616 = _
    omega
  have hmd : 2 * ((a + b) / 2) ≤ a + b ∧ a + b ≤ 2 * ((a + b) / 2) + 1 := by omega
  have hshr : ((a + b : Nat) : Int).fdiv (2 ^ (Nat.min (1 : Int).toNat IntKind.u64.bits)) = (((a + b) / 2 : Nat) : Int) := by rw [shr1]; omega
  have hcv2 : IntKind.i64.wrap (((a + b) / 2 : Nat) : Int) = (((a + b) / 2 : Nat) : Int) := w64 (by omega)
  generalize hmdd : (a + b) / 2 = md at *
  have hnn : IntKind.i64.wrap ((md : Int) + (m : Int)) = ((md + m : Nat) : Int) := by rw [w64 (by omega)]; omega
  have hpp : IntKind.i64.wrap (((md + m : Nat) : Int) - 1) = ((md + m - 1 : Nat) : Int) := by rw [w64 (by omega)]; omega
  obtain ⟨i0, j0, hij⟩ : ∃ i0 j0, (md < m ∧ i0 = md + m - b ∧ j0 = md) ∨ (m ≤ md ∧ i0 = a ∧ j0 = m) := by
    by_cases h : md < m
    · exact ⟨_, _, .inl ⟨h, rfl, rfl⟩⟩
    · exact ⟨_, _, .inr ⟨by omega, rfl, rfl⟩⟩
  let g : Nat → Bool := fun c => match (P ++ A ++ B ++ R)[c]?, (P ++ A ++ B ++ R)[md + m - 1 - c]? with | some y, some x => !ltR x y | _, _ => false
  have hgd : ∀ c y x, i0 ≤ c → c < j0 → (P ++ A ++ B ++ R)[c]? = some y → (P ++ A ++ B ++ R)[md + m - 1 - c]? = some x → g c = !ltR x y := fun c y x _ _ h h' => by
    show (match (P ++ A ++ B ++ R)[c]?, (P ++ A ++ B ++ R)[md + m - 1 - c]? with | some y, some x => !ltR x y | _, _ => false) = _
    rw [h, h']
  have hAat : ∀ {c : Nat}, a ≤ c → c < m → (P ++ A ++ B ++ R)[c]? = A[c - a]? := fun {c} q1 q2 => by
    rw [List.append_assoc (P ++ A), ha]; exact seg_at (by omega) (by omega)
  have hBat : ∀ {c : Nat}, m ≤ c → c < b → (P ++ A ++ B ++ R)[c]? = B[c - m]? := fun {c} q1 q2 => by
    have hl : (P ++ A).length = m := by rw [List.length_append]; omega
    have := seg_at (U := P ++ A) (B := B) (R := R) (c := c) (by omega) (by omega)
    rw [hl] at this
    exact this
  have hmo : Mono g i0 j0 := fun c c' h1 h2 h3 h4 => by
    obtain ⟨y, hy⟩ : ∃ y, A[c - a]? = some y := ⟨_, List.getElem?_eq_getElem (by omega)⟩
    obtain ⟨y', hy'⟩ : ∃ y, A[c' - a]? = some y := ⟨_, List.getElem?_eq_getElem (by omega)⟩
    obtain ⟨x, hx⟩ : ∃ y, B[md + m - 1 - c - m]? = some y := ⟨_, List.getElem?_eq_getElem (by omega)⟩
    obtain ⟨x', hx'⟩ : ∃ y, B[md + m - 1 - c' - m]? = some y := ⟨_, List.getElem?_eq_getElem (by omega)⟩
    rw [hgd c' y' x' (by omega) h3 ((hAat (by omega) (by omega)).trans hy') ((hBat (by omega) (by omega)).trans hx')] at h4
    rw [hgd c y x h1 (by omega) ((hAat (by omega) (by omega)).trans hy) ((hBat (by omega) (by omega)).trans hx)]
    have h5 : leR y' x' := leR_iff.2 (by simpa using h4)
    have := leR_iff.1 (leR_trans (leR_trans (srt_le hA hy hy' (by omega)) h5) (srt_le hB hx' hx (by omega)))
    rw [this]
    rfl
  have hlo := l_b4 p n c (P ++ A ++ B ++ R) hnl hn hsh a m b md (md + m) (md + m - 1) (by omega) g (j0 - i0) i0 j0 (Nat.le_refl _) (by omega) (by omega) hmo hgd (fun c h1 h2 => by omega)
  have hsp := fun s => @sym_parts P A B R a m b md i0 j0 s ha hm hb (by omega) (by omega) hmd hij hA hB g hgd
  clear hgd hmo hAat hBat
  have hi0 : md < m → IntKind.i64.wrap (((md + m : Nat) : Int) - (b : Int)) = (i0 : Int) := fun h => by rw [w64 (by omega)]; omega
  repeat' (first
 | (refine I_WS ?_; first
 | refine W_sub (s := ((m - a : Nat) : Int)) rfl rfl rfl rfl hsub1 ?_
 | refine W_sub (s := ((b - m : Nat) : Int)) rfl rfl rfl rfl hsub2 ?_
 | refine W_eqlF rfl rfl rfl rfl hne1 ?_
 | refine W_eqlF rfl rfl rfl rfl hne2 ?_
 | refine W_add (s := ((a + b : Nat) : Int)) rfl rfl rfl rfl hsum ?_
 | refine W_add (s := ((md + m : Nat) : Int)) rfl rfl rfl rfl hnn ?_
 | refine W_conv (s := ((a + b : Nat) : Int)) rfl rfl rfl hcv1 ?_
 | refine W_shr (s := ((md : Nat) : Int)) rfl rfl rfl rfl (by decide) hshr ?_
 | refine W_conv (s := ((md : Nat) : Int)) rfl rfl rfl hcv2 ?_
 | (refine I_mov ?_; first
 | refine W_mov (v := .int _ _) rfl rfl rfl ?_)
 | (refine I_bin ?_; first
 | (refine W_gtr rfl rfl rfl rfl ?_ ?_ <;> intro _)
 | refine W_sub rfl rfl rfl rfl (by first | exact w64 (by omega) | rfl) ?_)
 | refine WS_nil ?_)
 | refine WC_cutB (Φ := fun ρ1 st1 => st1 = st ∧ ρ1 0 = .rs p 0 2 n c ∧ ρ1 1 = .int .i64 a ∧ ρ1 2 = .int .i64 m ∧ ρ1 3 = .int .i64 b ∧ ρ1 4 = .func 21 [] ∧ ρ1 18 = .int .i64 md ∧ ρ1 19 = .int .i64 (md + m : Nat) ∧ ρ1 20 = .int .i64 i0 ∧ ρ1 21 = .int .i64 j0) ?_ ?_
 | refine WC_seq ?_
 | refine WC_opsS ?_
 | refine WC_skip ?_
 | refine WC_condT rfl ?_
 | refine WC_condF rfl ?_)
  rotate_left 2
  · rintro ρ2 st2 ⟨rfl, k0, k1, k2, k3, k4, k18, k19, k20, k21⟩
    rw [← upd_self k0, ← upd_self k1, ← upd_self k2, ← upd_self k3, ← upd_self k4, ← upd_self k18, ← upd_self k19, ← upd_self k20, ← upd_self k21]
    repeat' (first
 | (refine I_WS ?_; first
 | refine W_sub (s := ((md + m - 1 : Nat) : Int)) rfl rfl rfl rfl hpp ?_
 | (refine I_mov ?_; first
 | refine W_mov (v := .int _ _) rfl rfl rfl ?_)
 | refine WS_nil ?_)
 | (refine hlo _ _ hR ?_ ?_ ?_ ?_ ?_ ?_ ?_ ?_ ?_ ?_ _ ?_ <;> first | rfl | (intro ρ3 s hcut q0 q1 q2 q3 q4 q18 q19 q22 q20))
 | refine WC_seq ?_
 | refine WC_opsS ?_
 | refine WC_block ?_)
    have hcs := hsp s hcut
    have hs0 := hcut.lo
    have hs9 := hcut.hi
    clear hsp hlo hcut hi0
    have hsa : a ≤ s := by omega
    have hsm : s ≤ m := by omega
    have hem : m ≤ md + m - s := by omega
    have heb : md + m - s ≤ b := by omega
    obtain ⟨A1, A2, rfl, hA1l, hA1e, hA2e⟩ : ∃ A1 A2, A = A1 ++ A2 ∧ A1.length = s - a ∧ A.take (s - a) = A1 ∧ A.drop (s - a) = A2 := ⟨_, _, (List.take_append_drop (s - a) A).symm, by rw [List.length_take]; omega, rfl, rfl⟩
    obtain ⟨B1, B2, rfl, hB1l, hB1e, hB2e⟩ : ∃ A1 A2, B = A1 ++ A2 ∧ A1.length = md + m - s - m ∧ B.take (md + m - s - m) = A1 ∧ B.drop (md + m - s - m) = A2 := ⟨_, _, (List.take_append_drop (md + m - s - m) B).symm, by rw [List.length_take]; omega, rfl, rfl⟩
    rw [hA1e, hA2e, hB1e, hB2e] at hcs
    have hsplit := mrg_split _ A1 B1 A2 B2 (Nat.le_refl _) hcs.1 hcs.2
    rw [hsplit]
    rw [List.length_append] at hm hb hA1 hB1
    rw [List.length_append, List.length_append] at hsz
    have hsA1 : Srt A1 := (List.pairwise_append.1 hA).1
    have hsA2 : Srt A2 := (List.pairwise_append.1 hA).2.1
    have hsB1 : Srt B1 := (List.pairwise_append.1 hB).1
    have hsB2 : Srt B2 := (List.pairwise_append.1 hB).2.1
    have hen : IntKind.i64.wrap (((md + m : Nat) : Int) - (s : Int)) = ((md + m - s : Nat) : Int) := by rw [w64 (by omega)]; omega
    have e1 : P ++ (A1 ++ A2) ++ (B1 ++ B2) ++ R = (P ++ A1) ++ A2 ++ B1 ++ (B2 ++ R) := by simp
    have e2 : (P ++ A1) ++ B1 ++ A2 ++ (B2 ++ R) = P ++ A1 ++ B1 ++ (A2 ++ B2 ++ R) := by simp
    have e3 : P ++ mrg A1 B1 ++ (A2 ++ B2 ++ R) = (P ++ mrg A1 B1) ++ A2 ++ B2 ++ R := by simp
    have hm1 : (mrg A1 B1).length = A1.length + B1.length := mrg_len _ A1 B1 (Nat.le_refl _)
    rw [e1] at hn hsh hR
    have hn2 : n = (P ++ A1 ++ B1 ++ (A2 ++ B2 ++ R)).length := by rw [hn]; simp; omega
    have hn3 : n = ((P ++ mrg A1 B1) ++ A2 ++ B2 ++ R).length := by rw [hn]; simp [hm1]; omega
    have hsh2 : Short (P ++ A1 ++ B1 ++ (A2 ++ B2 ++ R)) := short_perm hsh (fun r hr => by
      simp only [List.mem_append] at hr ⊢
      rcases hr with ((h | h) | h) | (h | h) | h <;> simp [h])
    have hsh3 : Short ((P ++ mrg A1 B1) ++ A2 ++ B2 ++ R) := short_perm hsh (fun r hr => by
      simp only [List.mem_append, mrg_mem r _ A1 B1 (Nat.le_refl _)] at hr ⊢
      rcases hr with (((h | h | h) | h) | h) | h <;> simp [h])
    rw [← upd_self q0, ← upd_self q1, ← upd_self q2, ← upd_self q3, ← upd_self q4, ← upd_self q18, ← upd_self q19, ← upd_self q20]
    have hA2l : A2.length = m - s := by omega
    have hB2l : B2.length = b - (md + m - s) := by omega
    generalize hE : md + m - s = en at *
    have hrot := fun h1 h2 => s_rotate p n c (P ++ A1) A2 B1 (B2 ++ R) st2 hnl h1 h2 hn hR s m en (by rw [List.length_append]; omega) (by rw [List.length_append, List.length_append]; omega) (by rw [List.length_append, List.length_append, List.length_append]; omega)
    have hnoRot : A2.length = 0 ∨ B1.length = 0 → RowIs st2 p 2 ((P ++ A1 ++ B1 ++ (A2 ++ B2 ++ R)).map Rt.e) := fun h => by
      have h' : A2 = [] ∨ B1 = [] := h.imp List.length_eq_zero_iff.1 List.length_eq_zero_iff.1
      rw [← e2, ← sw_e h']
      exact hR
    repeat' (first
 | (refine I_WS ?_; first
 | refine W_sub (s := ((en : Nat) : Int)) rfl rfl rfl rfl hen ?_
 | (refine I_mov ?_; first
 | refine W_skip rfl ?_
 | refine W_mov (v := .int _ _) rfl rfl rfl ?_
 | refine W_mov (v := .bool _) rfl rfl rfl ?_
 | refine W_mov (v := .func _ _) rfl rfl rfl ?_
 | refine W_mov (v := .rs _ _ _ _ _) rfl rfl rfl ?_)
 | (refine I_bin ?_; first
 | refine W_skip rfl ?_
 | (refine W_lss rfl rfl rfl rfl ?_ ?_ <;> intro _))
 | (refine I_call ?_; first
 | (refine W_callRWX rfl rfl rfl (hrot (by omega) (by omega)) ?_ <;> intro r1 st1 hp1))
 | (refine I_pick ?_; first
 | refine W_pick (v := .bool _) rfl rfl rfl rfl ?_)
 | refine WS_nil ?_)
 | refine WC_cutOC (Φ := fun ρ1 st1 => FrR st2 st1 p ∧ RowIs st1 p 2 ((P ++ A1 ++ B1 ++ (A2 ++ B2 ++ R)).map Rt.e) ∧ ρ1 0 = .rs p 0 2 n c ∧ ρ1 1 = .int .i64 a ∧ ρ1 3 = .int .i64 b ∧ ρ1 4 = .func 21 [] ∧ ρ1 18 = .int .i64 md ∧ ρ1 20 = .int .i64 s ∧ ρ1 24 = .int .i64 en) ?_ ?_
 | refine WC_seq ?_
 | refine WC_opsS ?_
 | refine WC_skip ?_
 | refine WC_condT rfl ?_
 | refine WC_condF rfl ?_)
    all_goals first
      | exact ⟨rfl, hp1.2.1, e2 ▸ hp1.2.2, rfl, rfl, rfl, rfl, rfl, rfl, rfl⟩
      | exact ⟨rfl, FrR.refl _ _, hnoRot (by omega), rfl, rfl, rfl, rfl, rfl, rfl, rfl⟩
      | skip
    rintro ρ3 st3 ⟨hF3, hR3, k0, k1, k3, k4, k18, k20, k24⟩
    have hrec1 := fun h1 h2 => ih P A1 B1 (A2 ++ B2 ++ R) st3 (by omega) h1 h2 hsA1 hsB1 hn2 hsh2 hR3 a s md ha (by omega) (by omega)
    have hno1 : A1.length = 0 ∨ B1.length = 0 → RowIs st3 p 2 (((P ++ mrg A1 B1) ++ A2 ++ B2 ++ R).map Rt.e) := fun h => by
      have h' : A1 = [] ∨ B1 = [] := h.imp List.length_eq_zero_iff.1 List.length_eq_zero_iff.1
      rw [← e3, mrg_e h', ← List.append_assoc P]
      exact hR3
    rw [← upd_self k0, ← upd_self k1, ← upd_self k3, ← upd_self k4, ← upd_self k18, ← upd_self k20, ← upd_self k24]
    repeat' (first
 | (refine I_WS ?_; first
 | (refine I_mov ?_; first
 | refine W_skip rfl ?_
 | refine W_mov (v := .int _ _) rfl rfl rfl ?_
 | refine W_mov (v := .bool _) rfl rfl rfl ?_
 | refine W_mov (v := .func _ _) rfl rfl rfl ?_
 | refine W_mov (v := .rs _ _ _ _ _) rfl rfl rfl ?_)
 | (refine I_bin ?_; first
 | refine W_skip rfl ?_
 | (refine W_lss rfl rfl rfl rfl ?_ ?_ <;> intro _))
 | (refine I_call ?_; first
 | (refine W_callRWX rfl rfl rfl (hrec1 (by omega) (by omega)) ?_ <;> intro r1 st1 hp1))
 | (refine I_pick ?_; first
 | refine W_pick (v := .bool _) rfl rfl rfl rfl ?_)
 | refine WS_nil ?_)
 | refine WC_cutOC (Φ := fun ρ1 st1 => FrR st2 st1 p ∧ RowIs st1 p 2 (((P ++ mrg A1 B1) ++ A2 ++ B2 ++ R).map Rt.e) ∧ ρ1 0 = .rs p 0 2 n c ∧ ρ1 3 = .int .i64 b ∧ ρ1 4 = .func 21 [] ∧ ρ1 18 = .int .i64 md ∧ ρ1 24 = .int .i64 en) ?_ ?_
 | refine WC_seq ?_
 | refine WC_opsS ?_
 | refine WC_skip ?_
 | refine WC_condT rfl ?_
 | refine WC_condF rfl ?_)
    all_goals first
      | exact ⟨rfl, hF3.trans hp1.2.1, e3 ▸ hp1.2.2, rfl, rfl, rfl, rfl, rfl⟩
      | exact ⟨rfl, hF3, hno1 (by omega), rfl, rfl, rfl, rfl, rfl⟩
      | skip
    rintro ρ4 st4 ⟨hF4, hR4, k0, k3, k4, k18, k24⟩
    have hrec2 := fun h1 h2 => ih (P ++ mrg A1 B1) A2 B2 R st4 (by omega) h1 h2 hsA2 hsB2 hn3 hsh3 hR4 md en b (by rw [List.length_append, hm1]; omega) (by omega) (by omega)
    have hno2 : A2.length = 0 ∨ B2.length = 0 → RowIs st4 p 2 ((P ++ (mrg A1 B1 ++ mrg A2 B2) ++ R).map Rt.e) := fun h => by
      have h' : A2 = [] ∨ B2 = [] := h.imp List.length_eq_zero_iff.1 List.length_eq_zero_iff.1
      rw [mrg_e h']
      simpa using hR4
    have e4 : (P ++ mrg A1 B1) ++ mrg A2 B2 ++ R = P ++ (mrg A1 B1 ++ mrg A2 B2) ++ R := by simp
    rw [← upd_self k0, ← upd_self k3, ← upd_self k4, ← upd_self k18, ← upd_self k24]
    repeat' (first
 | (refine I_WS ?_; first
 | (refine I_mov ?_; first
 | refine W_skip rfl ?_
 | refine W_mov (v := .int _ _) rfl rfl rfl ?_
 | refine W_mov (v := .bool _) rfl rfl rfl ?_
 | refine W_mov (v := .func _ _) rfl rfl rfl ?_
 | refine W_mov (v := .rs _ _ _ _ _) rfl rfl rfl ?_)
 | (refine I_bin ?_; first
 | refine W_skip rfl ?_
 | (refine W_lss rfl rfl rfl rfl ?_ ?_ <;> intro _))
 | (refine I_call ?_; first
 | (refine W_callRWX rfl rfl rfl (hrec2 (by omega) (by omega)) ?_ <;> intro r1 st1 hp1))
 | (refine I_pick ?_; first
 | refine W_pick (v := .bool _) rfl rfl rfl rfl ?_)
 | refine WS_nil ?_)
 | refine WC_seq ?_
 | refine WC_opsS ?_
 | refine WC_skip ?_
 | refine WC_condT rfl ?_
 | refine WC_condF rfl ?_)
    all_goals first
      | exact ⟨.inl rfl, _, rfl, rfl, hF4.trans hp1.2.1, e4 ▸ hp1.2.2⟩
      | exact ⟨.inl rfl, _, rfl, rfl, hF4, hno2 (by omega)⟩
  all_goals rcases hij with ⟨h1, h2, h3⟩ | ⟨h1, h2, h3⟩
  all_goals first | (exfalso; omega) | (refine ⟨rfl, rfl, ?_, ?_, ?_, ?_, ?_, ?_, ?_, ?_, ?_⟩ <;> first | rfl | exact congrArg (D.int .i64) (by omega))
theorem s_symMerge (p n c : Nat) (hnl : n ≤ 1000000) : ∀ sz, SymOK p n c sz := by
  intro sz
  induction sz with
  | zero => intro P A B R st h1 h2 h3; omega
  | succ sz ih =>
    intro P A B R st hsz hA0 hB0 hA hB hn hsh hR a m b ha hm hb
    by_cases h1 : A.length = 1
    · obtain ⟨x, rfl⟩ := List.length_eq_one_iff.1 h1
      subst ha
      exact s_sym1 p n c P x B R st hnl hB hn hsh hR m b hm (by rw [hb, hm]; rfl)
    · by_cases h2 : B.length = 1
      · obtain ⟨x, rfl⟩ := List.length_eq_one_iff.1 h2
        subst ha
        have e : P ++ A ++ [x] ++ R = P ++ A ++ x :: R := by simp
        rw [e] at hn hsh hR
        exact s_sym2 p n c P A x R st hnl h1 hA hn hsh hR m b hm hb
      · exact s_symG p n c sz hnl ih P A B R st hsz (by omega) (by omega) hA hB hn hsh hR a m b ha hm hb
end Go.Ord

/-
  slices' stable sort of any length: its loops.
-/
namespace Go.Ord
open Go.Ev
set_option linter.unusedVariables false
set_option linter.unusedSimpArgs false
set_option maxHeartbeats 8000000 in
theorem l_st0 (p n c : Nat) (hnl : n ≤ 1000000) (L : List Rt) : ∀ (N : Nat) (M D' : List Rt), M.length ≤ N → (∀ Z', Blk 20 M Z' → Blk 20 L (D' ++ Z')) → n = (D' ++ M).length → Short (D' ++ M) → ∀ (ρ : Nat → D) (st : Store), RowIs st p 2 ((D' ++ M).map Rt.e) →
    ρ 0 = .rs p 0 2 n c → ρ 1 = .int .i64 n → ρ 2 = .func 21 [] → ρ 6 = .int .i64 20 → ρ 7 = .int .i64 D'.length → ρ 8 = .int .i64 ((D'.length + 20 : Nat) : Int) → ∀ (Q : X → (Nat → D) → Store → Prop),
    (∀ ρ' st' D2 M2, FrR st st' p → RowIs st' p 2 ((D2 ++ M2).map Rt.e) → M2.length < 20 → (∀ Z', Blk 20 M2 Z' → Blk 20 L (D2 ++ Z')) → n = (D2 ++ M2).length → Short (D2 ++ M2) → ρ' 0 = .rs p 0 2 n c → ρ' 1 = .int .i64 n → ρ' 2 = .func 21 [] → ρ' 6 = .int .i64 20 → ρ' 7 = .int .i64 D2.length → Q (.exit 0) ρ' st') → WC Γ (.loop c_slices_stableCmpFunc_Route_l0) ρ st Q := by
  intro N
  induction N with
  | zero =>
    intro M D' hN hZ hn hsh ρ st hR h0 h1 h2 h6 h7 h8 Q hQ
    have hln : n = D'.length + M.length := by rw [hn, List.length_append]
    have hgt : (n : Int) < ((D'.length + 20 : Nat) : Int) := by omega
    rw [← upd_self h0, ← upd_self h1, ← upd_self h2, ← upd_self h6, ← upd_self h7, ← upd_self h8]
    refine WC_loop ?_
    repeat' (first
 | (refine I_WS ?_; first
 | refine W_leqF rfl rfl rfl rfl hgt ?_
 | (refine I_mov ?_; first
 | refine W_mov (v := .int _ _) rfl rfl rfl ?_)
 | refine WS_nil ?_)
 | refine WC_seq ?_
 | refine WC_opsS ?_
 | refine WC_condF rfl ?_
 | refine WC_exit ?_)
    refine hQ _ _ D' M (FrR.refl _ _) hR (by omega) hZ hn hsh ?_ ?_ ?_ ?_ ?_ <;> rfl
  | succ N ih =>
    intro M D' hN hZ hn hsh ρ st hR h0 h1 h2 h6 h7 h8 Q hQ
    have hln : n = D'.length + M.length := by rw [hn, List.length_append]
    by_cases hM : 20 ≤ M.length
    · have hle : ((D'.length + 20 : Nat) : Int) ≤ (n : Int) := by omega
      obtain ⟨Xs, M2, rfl, hXl⟩ : ∃ Xs M2, M = Xs ++ M2 ∧ Xs.length = 20 := ⟨M.take 20, M.drop 20, (List.take_append_drop _ _).symm, by rw [List.length_take]; omega⟩
      have e1 : D' ++ (Xs ++ M2) = D' ++ Xs ++ M2 := by simp
      have e2 : D' ++ ssort Xs ++ M2 = (D' ++ ssort Xs) ++ M2 := rfl
      rw [e1] at hn hsh hR
      rw [List.length_append] at hln hN
      have hin := s_insSort p n c D' Xs M2 st hnl hn hsh hR D'.length ((D'.length + 20 : Nat) : Int) rfl (by rw [List.length_append, hXl])
      have hlen : (D' ++ ssort Xs).length = D'.length + 20 := by rw [List.length_append, ssort_len, hXl]
      have hnx := ih M2 (D' ++ ssort Xs) (by omega) (fun Z' hz => by rw [List.append_assoc]; exact hZ _ (.cons hXl hz)) (by rw [hn]; simp [ssort_len]) (short_perm hsh (fun r hr => by
        simp only [List.mem_append, ssort_mem] at hr ⊢; exact hr))
      rw [hlen] at hnx
      have hadd : IntKind.i64.wrap (((D'.length + 20 : Nat) : Int) + 20) = ((D'.length + 20 + 20 : Nat) : Int) := by rw [w64 (by omega)]; omega
      clear ih
      rw [← upd_self h0, ← upd_self h1, ← upd_self h2, ← upd_self h6, ← upd_self h7, ← upd_self h8]
      refine WC_loop ?_
      repeat' (first
 | (refine I_WS ?_; first
 | refine W_leqT rfl rfl rfl rfl hle ?_
 | refine W_add (s := ((D'.length + 20 + 20 : Nat) : Int)) rfl rfl rfl rfl hadd ?_
 | (refine I_mov ?_; first
 | refine W_mov (v := .int _ _) rfl rfl rfl ?_
 | refine W_mov (v := .func _ _) rfl rfl rfl ?_
 | refine W_mov (v := .rs _ _ _ _ _) rfl rfl rfl ?_)
 | (refine I_call ?_; first
 | (refine W_callRWX rfl rfl rfl hin ?_ <;> intro r1 st1 hp1))
 | refine WS_nil ?_)
 | refine WC_seq ?_
 | refine WC_opsS ?_
 | refine WC_skip ?_
 | refine WC_condT rfl ?_
 | refine WC_block ?_)
      obtain ⟨rfl, hF1, hR1⟩ := hp1
      skip
      refine hnx _ _ hR1 ?_ ?_ ?_ ?_ ?_ ?_ Q (fun ρ' st' D2 M2 q1 q2 q3 q4 q5 q6 q7 q8 q9 q10 q11 => hQ ρ' st' D2 M2 (hF1.trans q1) q2 q3 q4 q5 q6 q7 q8 q9 q10 q11) <;> rfl
    · have hgt : (n : Int) < ((D'.length + 20 : Nat) : Int) := by omega
      rw [← upd_self h0, ← upd_self h1, ← upd_self h2, ← upd_self h6, ← upd_self h7, ← upd_self h8]
      refine WC_loop ?_
      repeat' (first
 | (refine I_WS ?_; first
 | refine W_leqF rfl rfl rfl rfl hgt ?_
 | (refine I_mov ?_; first
 | refine W_mov (v := .int _ _) rfl rfl rfl ?_)
 | refine WS_nil ?_)
 | refine WC_seq ?_
 | refine WC_opsS ?_
 | refine WC_condF rfl ?_
 | refine WC_exit ?_)
      refine hQ _ _ D' M (FrR.refl _ _) hR (by omega) hZ hn hsh ?_ ?_ ?_ ?_ ?_ <;> rfl
set_option maxHeartbeats 8000000 in
theorem l_st1 (p n c k : Nat) (hnl : n ≤ 1000000) (hk : 0 < k) (hkn : k < n) (L : List Rt) : ∀ (N : Nat) (M M' D' : List Rt), M.length ≤ N → Blk k M M' → (∀ Z', Blk (2 * k) M Z' → Blk (2 * k) L (D' ++ Z')) → n = (D' ++ M').length → Short (D' ++ M') → ∀ (ρ : Nat → D) (st : Store), RowIs st p 2 ((D' ++ M').map Rt.e) →
    ρ 0 = .rs p 0 2 n c → ρ 1 = .int .i64 n → ρ 2 = .func 21 [] → ρ 6 = .int .i64 k → ρ 7 = .int .i64 D'.length → ρ 8 = .int .i64 ((D'.length + 2 * k : Nat) : Int) → ∀ (Q : X → (Nat → D) → Store → Prop),
    (∀ ρ' st' D2 M2 M2', FrR st st' p → RowIs st' p 2 ((D2 ++ M2').map Rt.e) → M2.length < 2 * k → Blk k M2 M2' → (∀ Z', Blk (2 * k) M2 Z' → Blk (2 * k) L (D2 ++ Z')) → n = (D2 ++ M2').length → Short (D2 ++ M2') → ρ' 0 = .rs p 0 2 n c → ρ' 1 = .int .i64 n → ρ' 2 = .func 21 [] → ρ' 6 = .int .i64 k → ρ' 7 = .int .i64 D2.length → Q (.exit 4) ρ' st') → WC Γ (.loop c_slices_stableCmpFunc_Route_l1) ρ st Q := by
  intro N
  induction N with
  | zero =>
    intro M M' D' hN hB hZ hn hsh ρ st hR h0 h1 h2 h6 h7 h8 Q hQ
    have hln : n = D'.length + M.length := by rw [hn, List.length_append, hB.len]
    have hgt : (n : Int) < ((D'.length + 2 * k : Nat) : Int) := by omega
    rw [← upd_self h0, ← upd_self h1, ← upd_self h2, ← upd_self h6, ← upd_self h7, ← upd_self h8]
    refine WC_loop ?_
    repeat' (first
 | (refine I_WS ?_; first
 | refine W_leqF rfl rfl rfl rfl hgt ?_
 | (refine I_mov ?_; first
 | refine W_mov (v := .int _ _) rfl rfl rfl ?_)
 | refine WS_nil ?_)
 | refine WC_seq ?_
 | refine WC_opsS ?_
 | refine WC_condF rfl ?_
 | refine WC_exit ?_)
    refine hQ _ _ D' M M' (FrR.refl _ _) hR (by omega) hB hZ hn hsh ?_ ?_ ?_ ?_ ?_ <;> rfl
  | succ N ih =>
    intro M M' D' hN hB hZ hn hsh ρ st hR h0 h1 h2 h6 h7 h8 Q hQ
    have hln : n = D'.length + M.length := by rw [hn, List.length_append, hB.len]
    by_cases hM : 2 * k ≤ M.length
    · have hle : ((D'.length + 2 * k : Nat) : Int) ≤ (n : Int) := by omega
      obtain ⟨Xs, Ys, M2, M2', hXl, hYl, rfl, rfl, hB2⟩ := hB.two hk hM
      have e1 : D' ++ (ssort Xs ++ ssort Ys ++ M2') = D' ++ ssort Xs ++ ssort Ys ++ M2' := by simp
      rw [e1] at hn hsh hR
      rw [List.length_append, List.length_append] at hln hN
      have hX1 := ssort_len Xs
      have hY1 := ssort_len Ys
      have hin := s_symMerge p n c hnl _ D' (ssort Xs) (ssort Ys) M2' st (Nat.le_refl _) (by omega) (by omega) (ssort_srt _) (ssort_srt _) hn hsh hR D'.length (D'.length + k) (D'.length + 2 * k) rfl (by omega) (by omega)
      rw [← ssort_app] at hin
      have hXY : (Xs ++ Ys).length = 2 * k := by rw [List.length_append]; omega
      have hlen : (D' ++ ssort (Xs ++ Ys)).length = D'.length + 2 * k := by rw [List.length_append, ssort_len, hXY]
      have hnx := ih M2 M2' (D' ++ ssort (Xs ++ Ys)) (by omega) hB2 (fun Z' hz => by rw [List.append_assoc]; exact hZ _ (.cons hXY hz)) (by rw [List.length_append, hlen, hn, List.length_append, List.length_append, List.length_append]; omega) (short_perm hsh (fun r hr => by
        simp only [List.mem_append, ssort_mem] at hr ⊢
        rcases hr with (h | h | h) | h <;> simp [h]))
      rw [hlen] at hnx
      have hs1 : IntKind.i64.wrap ((D'.length : Int) + (k : Int)) = ((D'.length + k : Nat) : Int) := by rw [w64 (by omega)]; omega
      have hs2 : IntKind.i64.wrap (2 * (k : Int)) = ((2 * k : Nat) : Int) := by rw [w64 (by omega)]; omega
      have hs3 : IntKind.i64.wrap (((D'.length + 2 * k : Nat) : Int) + ((2 * k : Nat) : Int)) = ((D'.length + 2 * k + 2 * k : Nat) : Int) := by rw [w64 (by omega)]; omega
      clear ih
      rw [← upd_self h0, ← upd_self h1, ← upd_self h2, ← upd_self h6, ← upd_self h7, ← upd_self h8]
      refine WC_loop ?_
      repeat' (first
 | (refine I_WS ?_; first
 | refine W_leqT rfl rfl rfl rfl hle ?_
 | refine W_add (s := ((D'.length + k : Nat) : Int)) rfl rfl rfl rfl hs1 ?_
 | refine W_mul (s := ((2 * k : Nat) : Int)) rfl rfl rfl rfl hs2 ?_
 | refine W_add (s := ((D'.length + 2 * k + 2 * k : Nat) : Int)) rfl rfl rfl rfl hs3 ?_
 | (refine I_mov ?_; first
 | refine W_mov (v := .int _ _) rfl rfl rfl ?_
 | refine W_mov (v := .func _ _) rfl rfl rfl ?_
 | refine W_mov (v := .rs _ _ _ _ _) rfl rfl rfl ?_)
 | (refine I_call ?_; first
 | (refine W_callRWX rfl rfl rfl hin ?_ <;> intro r1 st1 hp1))
 | refine WS_nil ?_)
 | refine WC_seq ?_
 | refine WC_opsS ?_
 | refine WC_skip ?_
 | refine WC_condT rfl ?_
 | refine WC_block ?_)
      obtain ⟨rfl, hF1, hR1⟩ := hp1
      skip
      refine hnx _ _ hR1 ?_ ?_ ?_ ?_ ?_ ?_ Q (fun ρ' st' D2 M3 M3' q1 q2 q3 q4 q5 q6 q7 q8 q9 q10 q11 q12 => hQ ρ' st' D2 M3 M3' (hF1.trans q1) q2 q3 q4 q5 q6 q7 q8 q9 q10 q11 q12) <;> rfl
    · have hgt : (n : Int) < ((D'.length + 2 * k : Nat) : Int) := by omega
      rw [← upd_self h0, ← upd_self h1, ← upd_self h2, ← upd_self h6, ← upd_self h7, ← upd_self h8]
      refine WC_loop ?_
      repeat' (first
 | (refine I_WS ?_; first
 | refine W_leqF rfl rfl rfl rfl hgt ?_
 | (refine I_mov ?_; first
 | refine W_mov (v := .int _ _) rfl rfl rfl ?_)
 | refine WS_nil ?_)
 | refine WC_seq ?_
 | refine WC_opsS ?_
 | refine WC_condF rfl ?_
 | refine WC_exit ?_)
      refine hQ _ _ D' M M' (FrR.refl _ _) hR (by omega) hB hZ hn hsh ?_ ?_ ?_ ?_ ?_ <;> rfl
end Go.Ord

/-
  slices' stable sort of any length.
-/
namespace Go.Ord
open Go.Ev
set_option linter.unusedVariables false
set_option linter.unusedSimpArgs false
set_option maxHeartbeats 8000000 in
theorem l_st2 (p n c : Nat) (hnl : n ≤ 1000000) (L : List Rt) (hLn : n = L.length) : ∀ (N k : Nat) (L1 : List Rt), n - k ≤ N → 0 < k → Blk k L L1 → Short L1 → ∀ (ρ : Nat → D) (st : Store), RowIs st p 2 (L1.map Rt.e) →
    ρ 0 = .rs p 0 2 n c → ρ 1 = .int .i64 n → ρ 2 = .func 21 [] → ρ 6 = .int .i64 k → ∀ (Q : X → (Nat → D) → Store → Prop),
    (∀ ρ' st', FrR st st' p → RowIs st' p 2 ((ssort L).map Rt.e) → Q (.exit 2) ρ' st') → WC Γ (.loop c_slices_stableCmpFunc_Route_l2) ρ st Q := by
  intro N
  induction N with
  | zero =>
    intro k L1 hN hk hB hsh ρ st hR h0 h1 h2 h6 Q hQ
    have hge : (n : Int) ≤ (k : Int) := by omega
    rw [hB.one hk (by omega)] at hR
    rw [← upd_self h0, ← upd_self h1, ← upd_self h2, ← upd_self h6]
    refine WC_loop ?_
    repeat' (first
 | (refine I_WS ?_; first
 | refine W_lssF rfl rfl rfl rfl hge ?_
 | (refine I_mov ?_; first
 | refine W_mov (v := .int _ _) rfl rfl rfl ?_)
 | refine WS_nil ?_)
 | refine WC_seq ?_
 | refine WC_opsS ?_
 | refine WC_condF rfl ?_
 | refine WC_exit ?_)
    exact hQ _ _ (FrR.refl _ _) hR
  | succ N ih =>
    intro k L1 hN hk hB hsh ρ st hR h0 h1 h2 h6 Q hQ
    by_cases hkn : k < n
    · have hlt : (k : Int) < (n : Int) := by omega
      have hL1 : L1.length = n := by rw [hB.len, hLn]
      have hlo := l_st1 p n c k hnl hk hkn L L.length L L1 [] (Nat.le_refl _) hB (fun Z' hz => hz) (by rw [List.nil_append, hL1]) (by rw [List.nil_append]; exact hsh)
      have hs2 : IntKind.i64.wrap (2 * (k : Int)) = ((([] : List Rt).length + 2 * k : Nat) : Int) := by rw [w64 (by omega)]; simp
      have hs4 : IntKind.i64.wrap ((k : Int) * 2) = ((2 * k : Nat) : Int) := by rw [w64 (by omega)]; omega
      rw [← upd_self h0, ← upd_self h1, ← upd_self h2, ← upd_self h6]
      refine WC_loop ?_
      repeat' (first
 | (refine I_WS ?_; first
 | refine W_lssT rfl rfl rfl rfl hlt ?_
 | refine W_mul (s := ((([] : List Rt).length + 2 * k : Nat) : Int)) rfl rfl rfl rfl hs2 ?_
 | (refine I_mov ?_; first
 | refine W_mov (v := .int _ _) rfl rfl rfl ?_)
 | refine WS_nil ?_)
 | (refine hlo _ _ hR ?_ ?_ ?_ ?_ ?_ ?_ _ ?_ <;> first | rfl | (intro ρ2 st2 D2 M2 M2' q1 q2 q3 q4 q5 q6 q7 k0 k1 k2 k6 k7))
 | refine WC_seq ?_
 | refine WC_opsS ?_
 | refine WC_skip ?_
 | refine WC_condT rfl ?_
 | refine WC_block ?_)
      have hln : n = D2.length + M2.length := by rw [q6, List.length_append, q4.len]
      have hs1 : IntKind.i64.wrap ((D2.length : Int) + (k : Int)) = ((D2.length + k : Nat) : Int) := by rw [w64 (by omega)]; omega
      have hB2 : Blk (2 * k) L (D2 ++ ssort M2) := q5 _ (.of (by omega))
      have hnx := ih (2 * k) (D2 ++ ssort M2) (by omega) (by omega) hB2
      rw [← upd_self k0, ← upd_self k1, ← upd_self k2, ← upd_self k6, ← upd_self k7]
      by_cases hm : D2.length + k < n
      · have hlt2 : ((D2.length + k : Nat) : Int) < (n : Int) := by omega
        obtain ⟨Xs, Ys, hXl, hYl, rfl, rfl⟩ := q4.rest hk (by omega) q3
        have hX1 := ssort_len Xs
        have hY1 := ssort_len Ys
        rw [List.length_append] at hln
        have e1 : D2 ++ (ssort Xs ++ ssort Ys) = D2 ++ ssort Xs ++ ssort Ys ++ [] := by simp
        rw [e1] at q2 q6 q7
        have hin := s_symMerge p n c hnl _ D2 (ssort Xs) (ssort Ys) [] st2 (Nat.le_refl _) (by omega) (by omega) (ssort_srt _) (ssort_srt _) q6 q7 q2 D2.length (D2.length + k) n rfl (by omega) (by omega)
        rw [← ssort_app, List.append_nil] at hin
        have hsh' : Short (D2 ++ ssort (Xs ++ Ys)) := short_perm q7 (fun r hr => by
          simp only [List.mem_append, ssort_mem] at hr ⊢
          rcases hr with h | h | h <;> simp [h])
        repeat' (first
 | (refine I_WS ?_; first
 | refine W_add (s := ((D2.length + k : Nat) : Int)) rfl rfl rfl rfl hs1 ?_
 | refine W_lssT rfl rfl rfl rfl hlt2 ?_
 | refine W_mul (s := ((2 * k : Nat) : Int)) rfl rfl rfl rfl hs4 ?_
 | (refine I_mov ?_; first
 | refine W_mov (v := .int _ _) rfl rfl rfl ?_
 | refine W_mov (v := .func _ _) rfl rfl rfl ?_
 | refine W_mov (v := .rs _ _ _ _ _) rfl rfl rfl ?_)
 | (refine I_call ?_; first
 | (refine W_callRWX rfl rfl rfl hin ?_ <;> intro r1 st3 hp1))
 | refine WS_nil ?_)
 | refine WC_seq ?_
 | refine WC_opsS ?_
 | refine WC_condT rfl ?_)
        obtain ⟨rfl, hF3, hR3⟩ := hp1
        skip
        refine hnx hsh' _ _ hR3 ?_ ?_ ?_ ?_ Q (fun ρ' st' hF hR' => hQ ρ' st' ((q1.trans hF3).trans hF) hR') <;> rfl
      · have hge2 : (n : Int) ≤ ((D2.length + k : Nat) : Int) := by omega
        have hM2 := q4.one hk (by omega)
        subst hM2
        repeat' (first
 | (refine I_WS ?_; first
 | refine W_add (s := ((D2.length + k : Nat) : Int)) rfl rfl rfl rfl hs1 ?_
 | refine W_lssF rfl rfl rfl rfl hge2 ?_
 | refine W_mul (s := ((2 * k : Nat) : Int)) rfl rfl rfl rfl hs4 ?_
 | (refine I_mov ?_; first
 | refine W_mov (v := .int _ _) rfl rfl rfl ?_)
 | refine WS_nil ?_)
 | refine WC_seq ?_
 | refine WC_opsS ?_
 | refine WC_skip ?_
 | refine WC_condF rfl ?_)
        refine hnx q7 _ _ q2 ?_ ?_ ?_ ?_ Q (fun ρ' st' hF hR' => hQ ρ' st' (q1.trans hF) hR') <;> rfl
    · have hge : (n : Int) ≤ (k : Int) := by omega
      rw [hB.one hk (by omega)] at hR
      rw [← upd_self h0, ← upd_self h1, ← upd_self h2, ← upd_self h6]
      refine WC_loop ?_
      repeat' (first
 | (refine I_WS ?_; first
 | refine W_lssF rfl rfl rfl rfl hge ?_
 | (refine I_mov ?_; first
 | refine W_mov (v := .int _ _) rfl rfl rfl ?_)
 | refine WS_nil ?_)
 | refine WC_seq ?_
 | refine WC_opsS ?_
 | refine WC_condF rfl ?_
 | refine WC_exit ?_)
      exact hQ _ _ (FrR.refl _ _) hR
set_option maxHeartbeats 4000000 in
theorem s_stable : StabOK 1000000 := by
  intro L p c n st hL hsh hR hn hne
  refine EvRWX_code rfl rfl ?_
  have hlo := l_st0 p n c (by omega) L L.length L [] (Nat.le_refl _) (fun Z' hz => hz) (by rw [List.nil_append, hn]) (by rw [List.nil_append]; exact hsh)
  repeat' (first
 | (refine I_WS ?_; first
 | (refine I_mov ?_; first
 | refine W_mov (v := .int _ _) rfl rfl rfl ?_)
 | refine WS_nil ?_)
 | (refine hlo _ _ hR ?_ ?_ ?_ ?_ ?_ ?_ _ ?_ <;> first | rfl | (intro ρ2 st2 D2 M2 q1 q2 q3 q4 q5 q6 k0 k1 k2 k6 k7))
 | refine WC_seq ?_
 | refine WC_opsS ?_
 | refine WC_block ?_)
  have e1 : D2 ++ M2 = D2 ++ M2 ++ [] := (List.append_nil _).symm
  have hin := s_insSort p n c D2 M2 [] st2 (by omega) (by rw [q5, ← e1]) (by rw [← e1]; exact q6) (by rw [← e1]; exact q2) D2.length n rfl (by rw [q5])
  rw [List.append_nil] at hin
  have hB := q4 _ (.of (Nat.le_of_lt q3))
  have hlo2 := l_st2 p n c (by omega) L hn n 20 (D2 ++ ssort M2) (by omega) (by decide) hB (short_perm q6 (fun r hr => by
    simp only [List.mem_append, ssort_mem] at hr ⊢; exact hr))
  rw [← upd_self k0, ← upd_self k1, ← upd_self k2, ← upd_self k6, ← upd_self k7]
  repeat' (first
 | (refine I_WS ?_; first
 | (refine I_mov ?_; first
 | refine W_mov (v := .int _ _) rfl rfl rfl ?_
 | refine W_mov (v := .func _ _) rfl rfl rfl ?_
 | refine W_mov (v := .rs _ _ _ _ _) rfl rfl rfl ?_)
 | (refine I_call ?_; first
 | (refine W_callRWX rfl rfl rfl hin ?_ <;> intro r1 st3 hp1))
 | refine WS_nil ?_)
 | (refine hlo2 _ _ hp1.2.2 ?_ ?_ ?_ ?_ _ ?_ <;> first | rfl | (intro ρ4 st4 hF4 hR4))
 | refine WC_block ?_)
  exact ⟨.inl rfl, _, rfl, rfl, (q1.trans hp1.2.1).trans hF4, hR4⟩
end Go.Ord

/-
  Sort.
-/
namespace Go.Ord
open Go.Ev
set_option linter.unusedVariables false
set_option linter.unusedSimpArgs false
theorem map_at {M J : List Rt} : (M ++ J).map Rt.e = M.map Rt.e ++ J.map Rt.e := List.map_append
set_option maxHeartbeats 8000000 in
theorem l_cpo (p n c : Nat) (hnl : n ≤ 1000000) (hc : n ≤ c) : ∀ (T A0 : List Rt) (y : Rt), n = (A0 ++ y :: T).length → Short (A0 ++ y :: T) → ∀ (ρ : Nat → D) (st : Store), RowIs st p 2 ((A0 ++ y :: T).map Rt.e) →
    ρ 0 = .rs p 0 2 n c → ρ 1 = .func 40 [] → ρ 5 = .int .i64 ((A0.length + 1 : Nat) : Int) → ∀ (Q : X → (Nat → D) → Store → Prop),
    (∀ ρ', dd y T = T → ρ' 0 = .rs p 0 2 n c → Q (.exit 0) ρ' st) →
    (∀ ρ' st', FrR st st' p → RowIs st' p 2 ((A0 ++ y :: dd y T).map Rt.e) → ρ' 4 = .rs p 0 2 (A0 ++ y :: dd y T).length c → Q .ret ρ' st') → WC Γ (.loop c_slices_CompactFunc_Route_l1) ρ st Q := by
  intro T
  induction T with
  | nil =>
    intro A0 y hn hsh ρ st hR h0 h1 h5 Q hQ hQ'
    have hge : (n : Int) ≤ ((A0.length + 1 : Nat) : Int) := by rw [hn]; simp
    rw [← upd_self h0, ← upd_self h1, ← upd_self h5]
    refine WC_loop ?_
    repeat' (first
 | (refine I_WS ?_; first
 | refine W_lssF rfl rfl rfl rfl hge ?_
 | (refine I_mov ?_; first
 | refine W_mov (v := .int _ _) rfl rfl rfl ?_
 | refine W_mov (v := .rs _ _ _ _ _) rfl rfl rfl ?_)
 | refine W_lenR rfl rfl rfl ?_
 | refine WS_nil ?_)
 | refine WC_seq ?_
 | refine WC_opsS ?_
 | refine WC_condF rfl ?_
 | refine WC_exit ?_)
    exact hQ _ rfl rfl
  | cons x T ih =>
    intro A0 y hn hsh ρ st hR h0 h1 h5 Q hQ hQ'
    have hln : A0.length + 1 < n := by rw [hn]; simp
    have hlt : ((A0.length + 1 : Nat) : Int) < (n : Int) := by omega
    have hA0 : A0.length < n := by omega
    have hsub : IntKind.i64.wrap (((A0.length + 1 : Nat) : Int) - 1) = ((A0.length : Nat) : Int) := by rw [w64 (by omega)]; omega
    have hadd : IntKind.i64.wrap (((A0.length + 1 : Nat) : Int) + 1) = (((A0 ++ [y]).length + 1 : Nat) : Int) := by rw [w64 (by omega)]; simp
    have hx : (A0 ++ y :: x :: T)[A0.length + 1]? = some x := by
      rw [List.getElem?_append_right (by omega)]; simp
    have hy : (A0 ++ y :: x :: T)[A0.length]? = some y := by
      rw [List.getElem?_append_right (by omega)]; simp
    have hx' := rt_at hx
    have hy' := rt_at hy
    have hxl := hsh x (by simp)
    have hyl := hsh y (by simp)
    have hC := s_eqR x y hxl hyl
    have hz1 : 0 + (A0.length + 1) * 2 = (A0.length + 1) * 2 := by omega
    have hz0 : 0 + A0.length * 2 = A0.length * 2 := by omega
    by_cases he : eqR x y = true
    · rw [he] at hC
      have e1 : A0 ++ y :: x :: T = (A0 ++ [y]) ++ [] ++ x :: T := by simp
      have hin := l_cpi p n c (A0.length + 1) hnl T (A0 ++ [y]) [] x 0 (by rw [hn, e1]) (by simp) (by rw [← e1]; exact hsh)
      rw [dd, if_pos he] at hQ'
      have hle : A0.length + 1 ≤ n := by omega
      have hW5 : D.int .i64 ((A0.length + 1 : Nat) : Int) = D.int .i64 ((A0 ++ [y]).length : Nat) := by simp
      clear ih
      rw [← upd_self h0, ← upd_self h1, ← upd_self h5]
      refine WC_loop ?_
      rw [e1] at hR
      have hx2 := hx'
      have hy2 := hy'
      rw [e1] at hx2 hy2
      repeat' (first
 | (refine I_WS ?_; first
 | refine W_lssT rfl rfl rfl rfl hlt ?_
 | refine W_sub (s := ((A0.length : Nat) : Int)) rfl rfl rfl rfl hsub ?_
 | refine W_iaddrR (j := A0.length + 1) rfl rfl rfl rfl hln ?_
 | refine W_iaddrR (j := A0.length) rfl rfl rfl rfl hA0 ?_
 | refine W_sliceRLo (j := A0.length + 1) rfl rfl rfl hle hc rfl ?_
 | (refine I_mov ?_; first
 | refine W_mov (v := .int _ _) rfl rfl rfl ?_
 | refine W_mov (v := .func _ _) rfl rfl rfl ?_
 | refine W_mov (v := .rs _ _ _ _ _) rfl rfl rfl ?_)
 | (refine I_load ?_; first
 | refine W_loadRow (j := A0.length + 1) rfl rfl hR.at hz1 rt_cells hx2 rfl ?_
 | refine W_loadRow (j := A0.length) rfl rfl hR.at hz0 rt_cells hy2 rfl ?_)
 | (refine I_call ?_; first
 | refine W_call rfl rfl rfl hC rfl rfl ?_)
 | refine W_lenR rfl rfl rfl ?_
 | refine WS_nil ?_)
 | refine okF_intro (okFlags_onlyR rfl) ?_
 | (refine hin _ _ hR ?_ ?_ ?_ ?_ ?_ _ ?_ <;> first | rfl | exact hW5 | (intro ρ2 st2 J2 hF hR2 hn2 k0 k5))
 | refine WC_seq ?_
 | refine WC_opsS ?_
 | refine WC_drawS ?_
 | refine WC_skip ?_
 | refine WC_condT rfl ?_
 | refine WC_block ?_)
      rw [← upd_self k0, ← upd_self k5]
      have hspl : n = ((A0 ++ [y]) ++ dd x T).length + J2.length := by rw [hn2]; exact List.length_append
      have hM : ((A0 ++ [y]) ++ dd x T).length ≤ n := by rw [hspl]; exact Nat.le_add_right _ _
      have hMc : ((A0 ++ [y]) ++ dd x T).length ≤ c := Nat.le_trans hM hc
      have hMz : 0 + ((A0 ++ [y]) ++ dd x T).length * 2 = (((A0 ++ [y]) ++ dd x T).map Rt.e).length * 2 := by rw [List.length_map]; omega
      have hMn : n - ((A0 ++ [y]) ++ dd x T).length = (J2.map Rt.e).length := by rw [List.length_map]; omega
      rw [map_at] at hR2
      have e3 : A0 ++ [y] ++ dd x T = A0 ++ y :: dd x T := by simp
      generalize hMM : A0 ++ [y] ++ dd x T = M at *
      rw [← e3] at hQ'
      generalize hml : M.length = m at *
      have hasm : asNat (D.int .i64 (m : Int)) = some m := by simp [asNat]
      repeat' (first
 | (refine I_WS ?_; first
 | refine W_sliceRLo (j := m) rfl rfl hasm hM hc rfl ?_
 | refine W_sliceRHi (j := m) rfl rfl hasm hMc rfl ?_
 | (refine W_clearRow rfl rfl hR2 hMz rfl hMn rt_cells rfl rfl rfl ?_ <;> intro st3 f1 f2 f3 f4 f5 hR3 hb2)
 | (refine I_mov ?_; first
 | refine W_mov (v := .int _ _) rfl rfl rfl ?_
 | refine W_mov (v := .rs _ _ _ _ _) rfl rfl rfl ?_)
 | refine WS_nil ?_)
 | refine WC_seq ?_
 | refine WC_opsS ?_
 | refine WC_ret ?_)
      skip
      refine hQ' _ _ (hF.trans ⟨f1, f2, f3, f4, f5, hb2⟩) hR3 ?_
      rfl
    · rw [Bool.not_eq_true] at he
      rw [he] at hC
      have e1 : A0 ++ y :: x :: T = (A0 ++ [y]) ++ x :: T := by simp
      rw [dd, if_neg (by rw [he]; decide)] at hQ hQ'
      have hnx := ih (A0 ++ [y]) x (by rw [hn, e1]) (by rw [← e1]; exact hsh)
      clear ih
      rw [← upd_self h0, ← upd_self h1, ← upd_self h5]
      refine WC_loop ?_
      repeat' (first
 | (refine I_WS ?_; first
 | refine W_lssT rfl rfl rfl rfl hlt ?_
 | refine W_sub (s := ((A0.length : Nat) : Int)) rfl rfl rfl rfl hsub ?_
 | refine W_add (s := (((A0 ++ [y]).length + 1 : Nat) : Int)) rfl rfl rfl rfl hadd ?_
 | refine W_iaddrR (j := A0.length + 1) rfl rfl rfl rfl hln ?_
 | refine W_iaddrR (j := A0.length) rfl rfl rfl rfl hA0 ?_
 | (refine I_mov ?_; first
 | refine W_mov (v := .int _ _) rfl rfl rfl ?_
 | refine W_mov (v := .func _ _) rfl rfl rfl ?_
 | refine W_mov (v := .rs _ _ _ _ _) rfl rfl rfl ?_)
 | (refine I_load ?_; first
 | refine W_loadRow (j := A0.length + 1) rfl rfl hR.at hz1 rt_cells hx' rfl ?_
 | refine W_loadRow (j := A0.length) rfl rfl hR.at hz0 rt_cells hy' rfl ?_)
 | (refine I_call ?_; first
 | refine W_call rfl rfl rfl hC rfl rfl ?_)
 | refine W_lenR rfl rfl rfl ?_
 | refine WS_nil ?_)
 | refine okF_intro (okFlags_onlyR rfl) ?_
 | refine WC_seq ?_
 | refine WC_opsS ?_
 | refine WC_drawS ?_
 | refine WC_skip ?_
 | refine WC_condT rfl ?_
 | refine WC_condF rfl ?_
 | refine WC_block ?_)
      rw [e1] at hR
      refine hnx _ _ hR ?_ ?_ ?_ Q (fun ρ' h k0 => hQ ρ' (by rw [h]) k0) (fun ρ' st' hF hR' k4 => hQ' ρ' st' hF (by simpa using hR') (by rw [k4]; simp)) <;> rfl
theorem s_cpt (L : List Rt) (p n c : Nat) (st : Store) (hnl : n ≤ 1000000) (hc : n ≤ c) (hn : n = L.length) (hne : L ≠ []) (hsh : Short L) (hR : RowIs st p 2 (L.map Rt.e)) :
    EvRWX Γ 39 [.rs p 0 2 n c, .func 40 []] st (fun r st' => r = .rs p 0 2 (cpt L).length c ∧ FrR st st' p ∧ RowIs st' p 2 ((cpt L).map Rt.e)) := by
  refine EvRWX_code rfl rfl ?_
  cases L with
  | nil => exact absurd rfl hne
  | cons y T =>
    have hlo := l_cpo p n c hnl hc T [] y hn hsh
    by_cases h2 : n < 2
    · have hT : T = [] := by
        cases T with
        | nil => rfl
        | cons a b => simp at hn; omega
      subst hT
      have hn1 : n = 1 := hn
      subst hn1
      repeat' (first
 | (refine I_WS ?_; first
 | (refine I_mov ?_; first
 | refine W_mov (v := .slice _ _ _) rfl rfl rfl ?_
 | refine W_mov (v := .rs _ _ _ _ _) rfl rfl rfl ?_)
 | (refine I_bin ?_; first
 | refine W_lssT rfl rfl rfl rfl (by omega) ?_)
 | refine W_lenR rfl rfl rfl ?_
 | refine WS_nil ?_)
 | refine WC_seq ?_
 | refine WC_opsS ?_
 | refine WC_condT rfl ?_
 | refine WC_ret ?_)
      exact ⟨.inr rfl, _, rfl, rfl, FrR.refl _ _, hR⟩
    · have hge : (2 : Int) ≤ (n : Int) := by omega
      repeat' (first
 | (refine I_WS ?_; first
 | refine W_lssF rfl rfl rfl rfl hge ?_
 | (refine I_mov ?_; first
 | refine W_mov (v := .int _ _) rfl rfl rfl ?_
 | refine W_mov (v := .slice _ _ _) rfl rfl rfl ?_
 | refine W_mov (v := .rs _ _ _ _ _) rfl rfl rfl ?_)
 | refine W_lenR rfl rfl rfl ?_
 | refine WS_nil ?_)
 | (refine hlo _ _ hR ?_ ?_ ?_ _ ?_ ?_ <;> first | rfl | (intro ρ2 st2 hF hR2 k4) | (intro ρ2 hd k0))
 | refine WC_seq ?_
 | refine WC_opsS ?_
 | refine WC_skip ?_
 | refine WC_condF rfl ?_
 | refine WC_block ?_)
      · rw [← upd_self k0]
        repeat' (first
 | (refine I_WS ?_; first
 | (refine I_mov ?_; first
 | refine W_mov (v := .rs _ _ _ _ _) rfl rfl rfl ?_)
 | refine WS_nil ?_)
 | refine WC_ret ?_)
        refine ⟨.inr rfl, _, rfl, ?_, FrR.refl _ _, ?_⟩
        · rw [cpt, hd, ← hn]; rfl
        · rw [cpt, hd]; exact hR
      · exact ⟨.inr rfl, _, congrArg some k4, rfl, hF, hR2⟩
end Go.Ord

/-
  Sort, of so many as the stable sort is known for.
-/
namespace Go.Ord
open Go.Ev
set_option linter.unusedVariables false
set_option linter.unusedSimpArgs false
def sortM (L : List Rt) : List Rt := cpt (ssort L)
theorem ssort_ne {L : List Rt} (h : L ≠ []) : ssort L ≠ [] := fun h' => h (by
  have := ssort_len L
  rw [h'] at this
  exact List.length_eq_zero_iff.1 this.symm)
theorem short_ssort {L : List Rt} (h : Short L) : Short (ssort L) := short_perm h (fun r hr => (ssort_mem r L).1 hr)
theorem s_copied' (L : List Rt) (hsh : Short L) (hLl : L.length ≤ 1000000) (hne : L ≠ []) (t : Tok) (s : Nat) (hs : s = 2 ∨ L = []) : EvP Γ 37 [.slice t s (L.map Rt.e)] (.slice .row 2 (L.map Rt.e)) := by
  obtain ⟨r, hr, h⟩ := s_copied L hsh hLl hne t s hs
  rcases hr with ⟨h', _⟩ | rfl
  · exact absurd h' hne
  · exact h
theorem rt_elem {L : List Rt} : ∀ d ∈ L.map Rt.e, Elem 2 d := fun d hd => by
  obtain ⟨r, _, rfl⟩ := List.mem_map.1 hd
  exact (rt_ele r).1
set_option maxHeartbeats 4000000 in
theorem s_Sort {N : Nat} (hN : StabOK N) (L : List Rt) (hL : L.length ≤ N) (hNl : N ≤ 1000000) (hsh : Short L) (hne : L ≠ []) (t : Tok) (s : Nat) (hs : s = 2 ∨ L = []) :
    EvX Γ 15 [.slice t s (L.map Rt.e)] (IsR Rt.e 2 (sortM L)) := by
  refine EvX_code rfl rfl ?_
  have hcl := fun t => s_copied' L hsh (by omega) hne t s hs
  have hel : Store.empty.lim ≤ Store.empty.next := Nat.le_refl _
  have hlen : (L.map Rt.e).length = L.length := List.length_map _
  repeat' (first
 | (refine I_WS ?_; first
 | (refine I_mov ?_; first
 | refine W_mov (v := .slice _ _ _) rfl rfl rfl ?_
 | refine W_mov (v := .rs _ _ _ _ _) rfl rfl rfl ?_)
 | (refine I_call ?_; first
 | (refine W_callRowM rfl rfl rfl (hcl _) rfl rfl rt_elem hel ?_ <;> intro st1 k1 k2 k3 k4 hR1 k5 k6))
 | refine WS_nil ?_)
 | refine WC_seq ?_
 | refine WC_opsS ?_)
  rw [hlen]
  generalize Store.empty.next = p at *
  have h2 := s_sortStable hN L p L.length L.length st1 hL hsh hR1 rfl hne
  repeat' (first
 | (refine I_WS ?_; first
 | (refine I_mov ?_; first
 | refine W_mov (v := .rs _ _ _ _ _) rfl rfl rfl ?_)
 | (refine I_call ?_; first
 | (refine W_callRWX rfl rfl rfl h2 ?_ <;> intro r2 st2 hp2))
 | refine WS_nil ?_)
 | refine WC_seq ?_
 | refine WC_opsS ?_)
  obtain ⟨rfl, hF2, hR2⟩ := hp2
  have h3 := s_cpt (ssort L) p L.length L.length st2 (by omega) (Nat.le_refl _) (ssort_len L).symm (ssort_ne hne) (short_ssort hsh) hR2
  repeat' (first
 | (refine I_WS ?_; first
 | (refine I_call ?_; first
 | (refine W_callRWX rfl rfl rfl h3 ?_ <;> intro r3 st3 hp3))))
  obtain ⟨rfl, hF3, hR3⟩ := hp3
  repeat' (first
 | (refine I_WS ?_; first
 | (refine I_mov ?_; first
 | refine W_mov (v := .rs _ _ _ _ _) rfl rfl rfl ?_)
 | refine WS_nil ?_)
 | refine WC_ret ?_)
  exact finX_R (.inr rfl) rfl (.inr ⟨p, _, _, rfl, rfl, hR3⟩) (by decide) rt_mk rfl
/-! ### Two routes -/
theorem ltR_iff {x y : Rt} : ltR x y = true ↔ cmpR x.hs x.ar y.hs y.ar < 0 := by unfold ltR; exact decide_eq_true_iff
theorem eqR_iff {x y : Rt} : eqR x y = true ↔ cmpR x.hs x.ar y.hs y.ar = 0 := by unfold eqR; exact decide_eq_true_iff
end Go.Ord

/-
  Sort of nothing; Sort of any routes.
-/
namespace Go.Ord
open Go.Ev
set_option linter.unusedVariables false
set_option linter.unusedSimpArgs false
theorem s_ins0 (t : Tok) (s : Nat) (st : Store) : EvRWX Γ 71 [.slice t s [], .int .i64 0, .int .i64 0, .func 21 []] st (fun r st' => r = .tuple [] ∧ st' = st) := by
  refine EvRWX_code rfl rfl ?_
  repeat' (first
 | (refine I_WS ?_; first
 | (refine I_mov ?_; first
 | refine W_mov (v := .int _ _) rfl rfl rfl ?_)
 | (refine I_bin ?_; first
 | refine W_lssF rfl rfl rfl rfl (by omega) ?_
 | refine W_add rfl rfl rfl rfl (by first | exact w64 (by omega) | rfl) ?_)
 | refine WS_nil ?_)
 | refine WC_loop ?_
 | refine WC_seq ?_
 | refine WC_opsS ?_
 | refine WC_condF rfl ?_
 | refine WC_block ?_
 | refine WC_exit ?_)
  exact ⟨.inl rfl, _, rfl, rfl, rfl⟩
theorem s_stb0 (t : Tok) (s : Nat) (st : Store) : EvRWX Γ 66 [.slice t s [], .int .i64 0, .func 21 []] st (fun r st' => r = .tuple [] ∧ st' = st) := by
  refine EvRWX_code rfl rfl ?_
  have h := fun t => s_ins0 t s st
  repeat' (first
 | (refine I_WS ?_; first
 | (refine I_mov ?_; first
 | refine W_mov (v := .int _ _) rfl rfl rfl ?_
 | refine W_mov (v := .slice _ _ _) rfl rfl rfl ?_
 | refine W_mov (v := .func _ _) rfl rfl rfl ?_)
 | (refine I_bin ?_; first
 | refine W_lssF rfl rfl rfl rfl (by omega) ?_
 | refine W_leqF rfl rfl rfl rfl (by omega) ?_)
 | (refine I_call ?_; first
 | (refine W_callRWX0 rfl rfl (h _) ?_ <;> intro r1 st1 hp1))
 | refine WS_nil ?_)
 | refine WC_loop ?_
 | refine WC_seq ?_
 | refine WC_opsS ?_
 | refine WC_condF rfl ?_
 | refine WC_block ?_
 | refine WC_exit ?_)
  obtain ⟨rfl, rfl⟩ := hp1
  skip
  exact ⟨.inl rfl, _, rfl, rfl, rfl⟩
theorem s_ss0 (t : Tok) (s : Nat) (st : Store) : EvRWX Γ 38 [.slice t s [], .func 21 []] st (fun r st' => r = .tuple [] ∧ st' = st) := by
  refine EvRWX_code rfl rfl ?_
  have h := fun t => s_stb0 t s st
  have hz : ([] : List D).length = 0 := rfl
  repeat' (first
 | (refine I_WS ?_; first
 | (refine I_mov ?_; first
 | refine W_mov (v := .slice _ _ _) rfl rfl rfl ?_
 | refine W_mov (v := .func _ _) rfl rfl rfl ?_)
 | (refine I_call ?_; first
 | (refine W_callRWX0 rfl rfl (h _) ?_ <;> intro r1 st1 hp1))
 | refine W_lenS0 rfl rfl rfl ?_
 | refine WS_nil ?_)
 | refine WC_opsS ?_)
  obtain ⟨rfl, rfl⟩ := hp1
  skip
  exact ⟨.inl rfl, _, rfl, rfl, rfl⟩
theorem s_cpt0 (t : Tok) (ht : t.strip.strip = .no) (s : Nat) (st : Store) : EvRWX Γ 39 [.slice t s [], .func 40 []] st (fun r st' => r = .slice .no s [] ∧ st' = st) := by
  refine EvRWX_code rfl rfl ?_
  have hz : ([] : List D).length = 0 := rfl
  repeat' (first
 | (refine I_WS ?_; first
 | (refine I_mov ?_; first
 | refine W_mov (v := .slice _ _ _) rfl rfl rfl ?_)
 | (refine I_bin ?_; first
 | refine W_lssT rfl rfl rfl rfl (by omega) ?_)
 | refine W_lenS0 rfl rfl rfl ?_
 | refine WS_nil ?_)
 | refine WC_seq ?_
 | refine WC_opsS ?_
 | refine WC_condT rfl ?_
 | refine WC_ret ?_)
  exact ⟨.inr rfl, _, rfl, congrArg (D.slice · s []) ht, rfl⟩
theorem s_Sort0 (t : Tok) (s : Nat) : EvX Γ 15 [.slice t s []] (IsR Rt.e 2 []) := by
  refine EvX_code rfl rfl ?_
  have hcl := fun t => s_copied0 t s
  have h2 := s_ss0 .exact 2 Store.empty
  have h2' := s_ss0 .no 2 Store.empty
  have h3 := s_cpt0 .exact rfl 2 Store.empty
  have h3' := s_cpt0 .no rfl 2 Store.empty
  repeat' (first
 | (refine I_WS ?_; first
 | (refine I_mov ?_; first
 | refine W_mov (v := .slice _ _ _) rfl rfl rfl ?_)
 | (refine I_call ?_; first
 | refine W_callM0 rfl rfl rfl (hcl _) rfl ?_
 | (refine W_callRWX0 rfl rfl h2 ?_ <;> intro r2 st2 hp2))
 | refine WS_nil ?_)
 | refine WC_seq ?_
 | refine WC_opsS ?_)
  obtain ⟨rfl, rfl⟩ := hp2
  repeat' (first
 | (refine I_WS ?_; first
 | (refine I_call ?_; first
 | (refine W_callRWX0 rfl rfl h3 ?_ <;> intro r2 st2 hp2))))
  obtain ⟨rfl, rfl⟩ := hp2
  repeat' (first
 | (refine I_WS ?_; first
 | (refine I_mov ?_; first
 | refine W_mov (v := .slice _ _ _) rfl rfl rfl ?_)
 | refine WS_nil ?_)
 | refine WC_ret ?_)
  exact ⟨.inr rfl, _, rfl, .inl ⟨rfl, _, _, rfl, .inr (.inl rfl)⟩⟩
/-- Sort of any routes. -/
theorem s_SortA (L : List Rt) (hL : L.length ≤ 1000000) (hsh : Short L) (t : Tok) (s : Nat) (hs : s = 2 ∨ L = []) : EvX Γ 15 [.slice t s (L.map Rt.e)] (IsR Rt.e 2 (sortM L)) := by
  by_cases hne : L = []
  · subst hne
    exact s_Sort0 t s
  · exact s_Sort s_stable L hL (Nat.le_refl _) hsh hne t s hs
end Go.Ord

/-
  What is sorted: strictly rising, one of each place, sorted again the same. Plain.
-/
namespace Go.Ord
open Go.Ev
set_option linter.unusedVariables false
def Str (l : List Rt) : Prop := l.Pairwise (fun a b => ltR a b = true)
theorem eq_symm {x y : Rt} (h : eqR x y = true) : eqR y x = true := by
  have := cmpR_anti x.hs x.ar y.hs y.ar
  rw [eqR_iff] at h ⊢
  omega
theorem eq_trans {x y z : Rt} (h : eqR x y = true) (h2 : eqR y z = true) : eqR x z = true := by
  rw [eqR_iff] at h h2 ⊢
  rw [← (cmpR_trans x.hs x.ar y.hs y.ar z.hs z.ar).2 h, h2]
theorem lt_of {x y : Rt} (h : leR x y) (h2 : ¬ eqR y x = true) : ltR x y = true := by
  rw [ltR_iff]
  have := cmpR_anti x.hs x.ar y.hs y.ar
  rw [eqR_iff] at h2
  unfold leR at h
  omega
theorem dd_str : ∀ (l : List Rt) (z : Rt), Srt (z :: l) → (∀ y ∈ dd z l, ltR z y = true) ∧ Str (dd z l)
  | [], z, _ => ⟨fun y h => absurd h List.not_mem_nil, .nil⟩
  | x :: l, z, h => by
    have h1 := List.pairwise_cons.1 h
    have hzx := h1.1 x List.mem_cons_self
    obtain ⟨i1, i2⟩ := dd_str l x h1.2
    rw [dd]
    split
    · exact ⟨fun y hy => le_lt hzx (i1 y hy), i2⟩
    · rename_i hne
      refine ⟨fun y hy => ?_, List.pairwise_cons.2 ⟨i1, i2⟩⟩
      rcases List.mem_cons.1 hy with rfl | hy
      · exact lt_of hzx hne
      · exact le_lt hzx (i1 y hy)
theorem cpt_str (l : List Rt) (h : Srt l) : Str (cpt l) := by
  cases l with
  | nil => exact .nil
  | cons y r =>
    obtain ⟨i1, i2⟩ := dd_str r y h
    exact List.pairwise_cons.2 ⟨i1, i2⟩
theorem sortM_str (L : List Rt) : Str (sortM L) := cpt_str _ (ssort_srt L)
theorem dd_cov : ∀ (l : List Rt) (z w r : Rt), eqR w z = true → r ∈ l → ∃ y, (y = w ∨ y ∈ dd z l) ∧ eqR y r = true
  | [], _, _, _, _, h => absurd h List.not_mem_nil
  | x :: l, z, w, r, hw, h => by
    rw [dd]
    split
    · rename_i he
      have hwx : eqR w x = true := eq_trans hw (eq_symm he)
      rcases List.mem_cons.1 h with rfl | h
      · exact ⟨w, .inl rfl, hwx⟩
      · exact dd_cov l x w r hwx h
    · rcases List.mem_cons.1 h with rfl | h
      · exact ⟨r, .inr List.mem_cons_self, by rw [eqR_iff]; exact cmpR_self _ _⟩
      · obtain ⟨y, hy, hyr⟩ := dd_cov l x x r (by rw [eqR_iff]; exact cmpR_self _ _) h
        rcases hy with rfl | hy
        · exact ⟨y, .inr List.mem_cons_self, hyr⟩
        · exact ⟨y, .inr (List.mem_cons_of_mem _ hy), hyr⟩
/-- Each route has one of its place there. -/
theorem sortM_cov (L : List Rt) {r : Rt} (h : r ∈ L) : ∃ y ∈ sortM L, eqR y r = true := by
  have h' := (ssort_mem r L).2 h
  unfold sortM
  cases hs : ssort L with
  | nil => rw [hs] at h'; exact absurd h' List.not_mem_nil
  | cons z l =>
    rw [hs] at h'
    rw [cpt]
    rcases List.mem_cons.1 h' with rfl | h'
    · exact ⟨r, List.mem_cons_self, by rw [eqR_iff]; exact cmpR_self _ _⟩
    · obtain ⟨y, hy, hyr⟩ := dd_cov l z z r (by rw [eqR_iff]; exact cmpR_self _ _) h'
      rcases hy with rfl | hy
      · exact ⟨y, List.mem_cons_self, hyr⟩
      · exact ⟨y, List.mem_cons_of_mem _ hy, hyr⟩
end Go.Ord

/-
  What is sorted holds the first one of each place. Plain.
-/
namespace Go.Ord
open Go.Ev
set_option linter.unusedVariables false
theorem fd_one (r x : Rt) : ([x] : List Rt).find? (eqR r) = if eqR r x then some x else none := by
  rw [List.find?_cons]
  cases eqR r x <;> rfl
theorem insL_fd (r x : Rt) (S : List Rt) : (insL S x).find? (eqR r) = (S.find? (eqR r)).or (if eqR r x then some x else none) := by
  induction hn : S.length generalizing S with
  | zero =>
    obtain rfl := List.length_eq_zero_iff.1 hn
    rw [insL_nil, fd_one]
    rfl
  | succ n ih =>
    rcases List.eq_nil_or_concat S with h' | ⟨S', y, h'⟩
    · subst h'; simp at hn
    · rw [List.concat_eq_append] at h'
      subst h'
      rw [insL_snoc]
      split
      · rename_i hxy
        rw [List.find?_append, List.find?_append, ih S' (by simpa using hn), fd_one, Option.or_assoc, Option.or_assoc]
        congr 1
        by_cases hx : eqR r x = true
        · have hy : ¬ eqR r y = true := fun hy => by
            have h1 := eqR_iff.1 (eq_trans (eq_symm hx) hy)
            have h2 := ltR_iff.1 hxy
            omega
          rw [if_pos hx, if_neg hy]; rfl
        · rw [if_neg hx]
          cases (if eqR r y = true then some y else none) <;> rfl
      · rw [show S' ++ [y, x] = S' ++ [y] ++ [x] from by simp, List.find?_append, fd_one]
theorem fold_fd (r : Rt) : ∀ (l S : List Rt), (l.foldl insL S).find? (eqR r) = (S.find? (eqR r)).or (l.find? (eqR r))
  | [], S => by simp
  | x :: l, S => by
    rw [List.foldl_cons, fold_fd r l, insL_fd, Option.or_assoc]
    congr 1
    rw [List.find?_cons]
    cases eqR r x <;> rfl
theorem ssort_fd (r : Rt) (L : List Rt) : (ssort L).find? (eqR r) = L.find? (eqR r) := by
  rw [ssort, fold_fd]; rfl
theorem dd_fd (r : Rt) : ∀ (l : List Rt) (z w : Rt), eqR w z = true → (w :: dd z l).find? (eqR r) = (w :: l).find? (eqR r)
  | [], _, _, _ => rfl
  | x :: l, z, w, hw => by
    rw [dd]
    split
    · rename_i he
      have hwx : eqR w x = true := eq_trans hw (eq_symm he)
      rw [dd_fd r l x w hwx, List.find?_cons, List.find?_cons, List.find?_cons]
      cases h : eqR r w with
      | true => rfl
      | false =>
        have hx : eqR r x = false := by
          cases h2 : eqR r x with
          | false => rfl
          | true => rw [eq_trans h2 (eq_symm hwx)] at h; cases h
        rw [hx]
    · have := dd_fd r l x x (by rw [eqR_iff]; exact cmpR_self _ _)
      rw [List.find?_cons, this, List.find?_cons (a := w)]
theorem cpt_fd (r : Rt) (l : List Rt) : (cpt l).find? (eqR r) = l.find? (eqR r) := by
  cases l with
  | nil => rfl
  | cons z l => exact dd_fd r l z z (by rw [eqR_iff]; exact cmpR_self _ _)
theorem str_fd {y : Rt} : ∀ {l : List Rt}, Str l → y ∈ l → l.find? (eqR y) = some y
  | [], _, h => absurd h List.not_mem_nil
  | z :: l, hs, h => by
    have h1 := List.pairwise_cons.1 hs
    rw [List.find?_cons]
    rcases List.mem_cons.1 h with rfl | h
    · rw [show eqR y y = true from by rw [eqR_iff]; exact cmpR_self _ _]
    · have hzy := h1.1 y h
      have hne : eqR y z = false := by
        cases he : eqR y z with
        | false => rfl
        | true =>
          have h3 := eqR_iff.1 (eq_symm he)
          have h4 := ltR_iff.1 hzy
          omega
      rw [hne]
      exact str_fd h1.2 h
/-- Of each place, the first one. -/
theorem sortM_first (L : List Rt) {y : Rt} (h : y ∈ sortM L) : L.find? (eqR y) = some y := by
  rw [← ssort_fd, ← cpt_fd]
  exact str_fd (sortM_str L) h
end Go.Ord

/-
  Few routes, of few hops.
-/
namespace Go.Ord
open Go.Ev
set_option linter.unusedVariables false
set_option linter.unusedSimpArgs false
set_option maxHeartbeats 4000000 in
theorem l_few (L : List Rt) (t : Tok) (s : Nat) (hs : s = 2 ∨ L = []) : ∀ (T A0 : List Rt), L = A0 ++ T → A0.length ≤ 50 → (∀ r ∈ A0, r.hs.length ≤ 50) → ∀ (ρ : Nat → D) (st : Store), ρ 0 = .slice t s (L.map Rt.e) → ρ 3 = .int .i64 A0.length → ∀ (Q : X → (Nat → D) → Store → Prop),
    (∀ ρ', (L.length ≤ 50 → ∀ r ∈ L, r.hs.length ≤ 50) → ρ' 0 = .slice t s (L.map Rt.e) → Q (.exit 0) ρ' st) → (∀ ρ', ρ' 2 = .bool false → Q .ret ρ' st) → WC Γ (.loop c_feluccalaw13_Few_l0) ρ st Q := by
  intro T
  induction T with
  | nil =>
    intro A0 hL hA ho ρ st h0 h3 Q hQ hR
    have hl : A0.length = L.length := by rw [hL]; simp
    have hge : ((L.length : Nat) : Int) ≤ (A0.length : Int) := by omega
    rw [← upd_self h0, ← upd_self h3]
    refine WC_loop ?_
    repeat' (first
 | (refine I_WS ?_; first
 | refine W_lenM rfl rfl rfl ?_
 | refine W_lssF rfl rfl rfl rfl hge ?_
 | (refine I_mov ?_; first
 | refine W_skip rfl ?_
 | refine W_mov (v := .int _ _) rfl rfl rfl ?_
 | refine W_mov (v := .bool _) rfl rfl rfl ?_
 | refine W_mov (v := .slice _ _ _) rfl rfl rfl ?_)
 | (refine I_bin ?_; first
 | refine W_skip rfl ?_)
 | (refine I_pick ?_; first
 | refine W_pick (v := .bool _) rfl rfl rfl rfl ?_)
 | refine WS_nil ?_)
 | refine WC_seq ?_
 | refine WC_opsS ?_
 | refine WC_condF rfl ?_
 | refine WC_exit ?_)
    exact hQ _ (fun _ r hr => ho r (by rw [hL, List.append_nil] at hr; exact hr)) rfl
  | cons x T ih =>
    intro A0 hL hA ho ρ st h0 h3 Q hQ hR
    have hl : A0.length < L.length := by rw [hL]; simp
    have hlt : (A0.length : Int) < ((L.length : Nat) : Int) := by omega
    have hx : L[A0.length]? = some x := by rw [hL]; simp
    have hs2 : s = 2 := by rcases hs with h | h; exact h; rw [h] at hl; simp at hl
    have hl' : A0.length < (L.map Rt.e).length := by rw [List.length_map]; exact hl
    have hadd : IntKind.i64.wrap ((A0.length : Int) + 1) = ((A0 ++ [x]).length : Nat) := by rw [w64 (by omega)]; simp
    rw [← upd_self h0, ← upd_self h3]
    by_cases h50 : A0.length < 50
    · have h50' : (A0.length : Int) < 50 := by omega
      by_cases hxl : x.hs.length ≤ 50
      · have hxl' : ((x.hs.length : Nat) : Int) ≤ 50 := by omega
        have hnx := ih (A0 ++ [x]) (by rw [hL]; simp) (by simp; omega) (fun r hr => by
          rcases List.mem_append.1 hr with h | h
          · exact ho r h
          · rw [List.mem_singleton.1 h]; exact hxl)
        clear ih
        refine WC_loop ?_
        repeat' (first
 | (refine I_WS ?_; first
 | refine W_lenM rfl rfl rfl ?_
 | refine W_lssT rfl rfl rfl rfl hlt ?_
 | refine W_lssT rfl rfl rfl rfl h50' ?_
 | refine W_iaddr (j := A0.length) rfl rfl rfl rfl hs2 hl' ?_
 | refine W_gtrF rfl rfl rfl rfl hxl' ?_
 | refine W_add (s := (((A0 ++ [x]).length : Nat) : Int)) rfl rfl rfl rfl hadd ?_
 | (refine I_mov ?_; first
 | refine W_mov (v := .int _ _) rfl rfl rfl ?_
 | refine W_mov (v := .bool _) rfl rfl rfl ?_
 | refine W_mov (v := .slice _ _ _) rfl rfl rfl ?_)
 | (refine I_load ?_; first
 | refine W_loadE (agg := false) (d := .slice _ _ _) rfl rfl rfl hx rfl ?_)
 | (refine I_pick ?_; first
 | refine W_pick (v := .bool _) rfl rfl rfl rfl ?_)
 | refine W_faddrE rfl rfl rfl ?_
 | refine WS_nil ?_)
 | refine WC_seq ?_
 | refine WC_opsS ?_
 | refine WC_skip ?_
 | refine WC_condT rfl ?_
 | refine WC_condF rfl ?_
 | refine WC_block ?_)
        refine hnx _ _ ?_ ?_ Q hQ hR <;> rfl
      · have hxl' : (50 : Int) < ((x.hs.length : Nat) : Int) := by omega
        refine WC_loop ?_
        repeat' (first
 | (refine I_WS ?_; first
 | refine W_lenM rfl rfl rfl ?_
 | refine W_lssT rfl rfl rfl rfl hlt ?_
 | refine W_lssT rfl rfl rfl rfl h50' ?_
 | refine W_iaddr (j := A0.length) rfl rfl rfl rfl hs2 hl' ?_
 | refine W_gtrT rfl rfl rfl rfl hxl' ?_
 | (refine I_mov ?_; first
 | refine W_mov (v := .int _ _) rfl rfl rfl ?_
 | refine W_mov (v := .bool _) rfl rfl rfl ?_
 | refine W_mov (v := .slice _ _ _) rfl rfl rfl ?_)
 | (refine I_load ?_; first
 | refine W_loadE (agg := false) (d := .slice _ _ _) rfl rfl rfl hx rfl ?_)
 | (refine I_pick ?_; first
 | refine W_pick (v := .bool _) rfl rfl rfl rfl ?_)
 | refine W_faddrE rfl rfl rfl ?_
 | refine WS_nil ?_)
 | refine WC_seq ?_
 | refine WC_opsS ?_
 | refine WC_skip ?_
 | refine WC_condT rfl ?_
 | refine WC_block ?_
 | refine WC_ret ?_)
        exact hR _ rfl
    · have h50' : (50 : Int) ≤ (A0.length : Int) := by omega
      refine WC_loop ?_
      repeat' (first
 | (refine I_WS ?_; first
 | refine W_lenM rfl rfl rfl ?_
 | refine W_lssT rfl rfl rfl rfl hlt ?_
 | refine W_lssF rfl rfl rfl rfl h50' ?_
 | (refine I_mov ?_; first
 | refine W_mov (v := .int _ _) rfl rfl rfl ?_
 | refine W_mov (v := .bool _) rfl rfl rfl ?_
 | refine W_mov (v := .slice _ _ _) rfl rfl rfl ?_)
 | (refine I_pick ?_; first
 | refine W_pick (v := .bool _) rfl rfl rfl rfl ?_)
 | refine WS_nil ?_)
 | refine WC_seq ?_
 | refine WC_opsS ?_
 | refine WC_condF rfl ?_
 | refine WC_exit ?_)
      exact hQ _ (fun h => by omega) rfl
theorem s_Few (L : List Rt) (t : Tok) (s : Nat) (hs : s = 2 ∨ L = []) : ∃ b, EvP Γ 13 [.slice t s (L.map Rt.e)] (.bool b) ∧ (b = true → L.length ≤ 50 ∧ ∀ r ∈ L, r.hs.length ≤ 50) := by
  have key : EvX Γ 13 [.slice t s (L.map Rt.e)] (fun r => ∃ b, r = .bool b ∧ (b = true → L.length ≤ 50 ∧ ∀ r ∈ L, r.hs.length ≤ 50)) := by
    refine EvX_code rfl rfl ?_
    repeat' (first
 | (refine I_WS ?_; first
 | (refine I_mov ?_; first
 | refine W_mov (v := .int _ _) rfl rfl rfl ?_
 | refine W_mov (v := .bool _) rfl rfl rfl ?_)
 | refine WS_nil ?_)
 | (refine l_few L t s hs L [] rfl (Nat.zero_le _) (fun r hr => absurd hr List.not_mem_nil) _ _ ?_ ?_ _ ?_ ?_ <;> first | rfl | (intro ρ2 hall k0) | (intro ρ2 k2))
 | refine WC_seq ?_
 | refine WC_opsS ?_
 | refine WC_block ?_)
    · rw [← upd_self k0]
      by_cases h50 : L.length ≤ 50
      · have h50' : ((L.length : Nat) : Int) ≤ 50 := by omega
        repeat' (first
 | (refine I_WS ?_; first
 | refine W_lenM rfl rfl rfl ?_
 | refine W_leqT rfl rfl rfl rfl h50' ?_
 | (refine I_mov ?_; first
 | refine W_mov (v := .bool _) rfl rfl rfl ?_
 | refine W_mov (v := .slice _ _ _) rfl rfl rfl ?_)
 | refine WS_nil ?_)
 | refine WC_ret ?_)
        exact ⟨.inr rfl, _, rfl, true, rfl, fun _ => ⟨h50, hall h50⟩⟩
      · have h50' : (50 : Int) < ((L.length : Nat) : Int) := by omega
        repeat' (first
 | (refine I_WS ?_; first
 | refine W_lenM rfl rfl rfl ?_
 | refine W_leqF rfl rfl rfl rfl h50' ?_
 | (refine I_mov ?_; first
 | refine W_mov (v := .bool _) rfl rfl rfl ?_
 | refine W_mov (v := .slice _ _ _) rfl rfl rfl ?_)
 | refine WS_nil ?_)
 | refine WC_ret ?_)
        exact ⟨.inr rfl, _, rfl, false, rfl, fun h => by cases h⟩
    · rw [← upd_self k2]
      exact ⟨.inr rfl, _, rfl, false, rfl, fun h => by cases h⟩
  obtain ⟨r, ⟨b, rfl, hb⟩, h⟩ := key
  exact ⟨b, h, hb⟩
end Go.Ord

/-
  The law OrderSorts: its first loop.
-/
namespace Go.Ord
open Go.Ev
set_option linter.unusedVariables false
set_option linter.unusedSimpArgs false
end Go.Ord

/-
  Rows of routes are the same.
-/
namespace Go.Ord
open Go.Ev
set_option linter.unusedVariables false
set_option linter.unusedSimpArgs false
instance : DecidableEq Rt := fun a b => decidable_of_iff (a.ar = b.ar ∧ a.hs = b.hs) (by
  cases a
  cases b
  simp
  exact and_comm)
end Go.Ord

/-
  The law OrderSorts: each of the routes has one of its place, and that is the first one.
-/
namespace Go.Ord
open Go.Ev
set_option linter.unusedVariables false
set_option linter.unusedSimpArgs false
end Go.Ord
