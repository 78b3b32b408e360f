/-
  The loops of slices' symMerge: three searches, two walks of one element to its place. (Printed by gen_s.py.)
-/
import Derived.Test.YtklegmbpppegaaaOrdOrdM
import Derived.Test.YtklegmbpppegaaaOrdOrdM
import Derived.Test.YtklegmbpppegaaaOrdOrdM
import Derived.Test.YtklegmbpppegaaaOrdOrdM
import Derived.Test.YtklegmbpppegaaaOrdOrdM
set_option linter.unusedVariables false
set_option linter.unusedSimpArgs false
set_option linter.unnecessarySimpa false

namespace Go.Ord
open Go.Ev
set_option linter.unusedVariables false
set_option linter.unusedSimpArgs false
theorem shr1 (n : Int) : n.fdiv (2 ^ (Nat.min (1 : Int).toNat IntKind.u64.bits)) = n / 2 := by
  rw [Int.fdiv_eq_ediv_of_nonneg _ (by decide)]; rfl
structure Cut (g : Nat → Bool) (i j s : Nat) : Prop where
  lo : i ≤ s
  hi : s ≤ j
  be : ∀ c, i ≤ c → c < s → g c = true
  af : ∀ c, s ≤ c → c < j → g c = false
def Mono (g : Nat → Bool) (i j : Nat) : Prop := ∀ c c', i ≤ c → c ≤ c' → c' < j → g c' = true → g c = true
theorem Cut.up {g : Nat → Bool} {i j h s : Nat} (hm : Mono g i j) (h1 : i ≤ h) (h2 : h < j) (hg : g h = true) (hc : Cut g (h + 1) j s) : Cut g i j s :=
  ⟨Nat.le_trans h1 (Nat.le_of_succ_le hc.lo), hc.hi, fun c a b => by
    by_cases hh : c ≤ h
    · exact hm c h a hh h2 hg
    · exact hc.be c (by omega) b, fun c a b => hc.af c a b⟩
theorem Cut.down {g : Nat → Bool} {i j h s : Nat} (hm : Mono g i j) (h1 : i ≤ h) (h2 : h < j) (hg : g h = false) (hc : Cut g i h s) : Cut g i j s :=
  ⟨hc.lo, Nat.le_trans hc.hi (Nat.le_of_lt h2), hc.be, fun c a b => by
    by_cases hh : c < h
    · exact hc.af c a hh
    · cases hgc : g c with
      | false => rfl
      | true => rw [hm h c h1 (by omega) b hgc] at hg; cases hg⟩
theorem Mono.sub {g : Nat → Bool} {i j i' j' : Nat} (hm : Mono g i j) (h1 : i ≤ i') (h2 : j' ≤ j) : Mono g i' j' := fun c c' a b d e => hm c c' (by omega) b (by omega) e

set_option maxHeartbeats 8000000 in
theorem l_b0 (p n c : Nat) (L : List Rt) (hnl : n ≤ 1000000) (hn : n = L.length) (hsh : Short L) (a m b md nn : Nat) (x : Rt) (hx : L[a]? = some x) (g : Nat → Bool) : ∀ (d i j : Nat), j - i ≤ d → i ≤ j → j ≤ n → Mono g i j → (∀ c y, i ≤ c → c < j → L[c]? = some y → g c = ltR y x) → ∀ (ρ : Nat → D) (st : Store), RowIs st p 2 (L.map Rt.e) →
    ρ 0 = .rs p 0 2 n c → ρ 1 = .int .i64 a → ρ 4 = .func 21 [] → ρ 10 = .int .i64 i → ρ 11 = .int .i64 j → ∀ (Q : X → (Nat → D) → Store → Prop),
    (∀ ρ' s, Cut g i j s → ρ' 0 = .rs p 0 2 n c → ρ' 1 = .int .i64 a → ρ' 4 = .func 21 [] → ρ' 10 = .int .i64 s → Q (.exit 0) ρ' st) → WC Γ (.loop c_slices_symMergeCmpFunc_Route_l0) ρ st Q := by
  intro d
  induction d with
  | zero =>
    intro i j hd hij hj hmo hgd ρ st hR h0 h1 h4 hi1 hj1 Q hQ
    obtain rfl : i = j := by omega
    rw [← upd_self h0, ← upd_self h1, ← upd_self h4, ← upd_self hi1, ← upd_self hj1]
    refine WC_loop ?_
    repeat' (first
 | (refine I_WS ?_; first
 | (refine I_mov ?_; first
 | refine W_mov (v := .int _ _) rfl rfl rfl ?_)
 | (refine I_bin ?_; first
 | refine W_lssF rfl rfl rfl rfl (by omega) ?_)
 | refine WS_nil ?_)
 | refine WC_seq ?_
 | refine WC_opsS ?_
 | refine WC_condF rfl ?_
 | refine WC_exit ?_)
    refine hQ _ i ⟨Nat.le_refl _, Nat.le_refl _, fun c a b => absurd b (by omega), fun c a b => absurd b (by omega)⟩ ?_ ?_ ?_ ?_ <;> rfl
  | succ d ih =>
    intro i j hd hij hj hmo hgd ρ st hR h0 h1 h4 hi1 hj1 Q hQ
    by_cases hlt0 : i < j
    · have hij' : (i : Int) < (j : Int) := by omega
      have hsum : IntKind.i64.wrap ((i : Int) + (j : Int)) = ((i + j : Nat) : Int) := by rw [w64 (by omega)]; omega
      have hcv1 : IntKind.u64.wrap ((i + j : Nat) : Int) = ((i + j : Nat) : Int) := by
        show ((i + j : Nat) : Int) % 18446744073709551616 = _
        omega
      have hshr : ((i + j : Nat) : Int).fdiv (2 ^ (Nat.min (1 : Int).toNat IntKind.u64.bits)) = (((i + j) / 2 : Nat) : Int) := by rw [shr1]; omega
      have hcv2 : IntKind.i64.wrap (((i + j) / 2 : Nat) : Int) = (((i + j) / 2 : Nat) : Int) := w64 (by omega)
      have hsuc : IntKind.i64.wrap ((((i + j) / 2 : Nat) : Int) + 1) = (((i + j) / 2 + 1 : Nat) : Int) := by rw [w64 (by omega)]; omega
      have hhn : (i + j) / 2 < n := by omega
      obtain ⟨y, hy⟩ : ∃ y, L[(i + j) / 2]? = some y := ⟨_, List.getElem?_eq_getElem (by omega)⟩
      have hon : a < n := by rw [hn]; exact (List.getElem?_eq_some_iff.mp hx).1
      have hyy := rt_at hy
      have hxx := rt_at hx
      have hyl := hsh y (List.mem_of_getElem? hy)
      have hxl := hsh x (List.mem_of_getElem? hx)
      have hC := fun t t' => s_CompareR y.hs y.ar x.hs x.ar hyl hxl t t' 3 3 (.inl rfl) (.inl rfl)
      have hgx := hgd ((i + j) / 2) y (by omega) (by omega) hy
      rw [← upd_self h0, ← upd_self h1, ← upd_self h4, ← upd_self hi1, ← upd_self hj1]
      refine WC_loop ?_
      by_cases hc : ltR y x = true
      · have hlt := ltR_iff'.1 hc
        rw [hc] at hgx
        have hgt : g ((i + j) / 2) = true := hgx
        clear hgx
        repeat' (first
 | (refine I_WS ?_; first
 | refine W_lssT rfl rfl rfl rfl hij' ?_
 | refine W_add (s := ((i + j : Nat) : Int)) rfl rfl rfl rfl hsum ?_
 | refine W_add (s := (((i + j) / 2 + 1 : Nat) : Int)) rfl rfl rfl rfl hsuc ?_
 | refine W_conv (s := ((i + j : Nat) : Int)) rfl rfl rfl hcv1 ?_
 | refine W_shr (s := (((i + j) / 2 : Nat) : Int)) rfl rfl rfl rfl (by decide) hshr ?_
 | refine W_conv (s := (((i + j) / 2 : Nat) : Int)) rfl rfl rfl hcv2 ?_
 | refine W_iaddrR (j := (i + j) / 2) rfl rfl rfl rfl hhn ?_
 | refine W_iaddrR (j := a) rfl rfl rfl rfl hon ?_
 | refine W_lssT rfl rfl rfl rfl hlt ?_
 | (refine I_mov ?_; first
 | refine W_mov (v := .int _ _) rfl rfl rfl ?_
 | refine W_mov (v := .func _ _) rfl rfl rfl ?_
 | refine W_mov (v := .rs _ _ _ _ _) rfl rfl rfl ?_)
 | (refine I_load ?_; first
 | refine W_loadRow (j := (i + j) / 2) rfl rfl hR.at (Nat.zero_add _) rt_cells hyy rfl ?_
 | refine W_loadRow (j := a) rfl rfl hR.at (Nat.zero_add _) rt_cells hxx rfl ?_)
 | (refine I_call ?_; first
 | refine W_call rfl rfl rfl (hC _ _) rfl rfl ?_)
 | refine WS_nil ?_)
 | refine okF_intro (okFlags_onlyR rfl) ?_
 | refine WC_seq ?_
 | refine WC_opsS ?_
 | refine WC_drawS ?_
 | refine WC_skip ?_
 | refine WC_condT rfl ?_
 | refine WC_block ?_)
        refine ih ((i + j) / 2 + 1) j (by omega) (by omega) hj (hmo.sub (by omega) (Nat.le_refl _)) (fun c y a b => hgd c y (by omega) (by omega)) _ st hR ?_ ?_ ?_ ?_ ?_ Q (fun ρ' s hs => hQ ρ' s (Cut.up hmo (by omega) (by omega) hgt hs)) <;> rfl
      · have hge : ¬ _ := fun h => hc (ltR_iff'.2 h)
        have hge := Int.not_lt.1 hge
        rw [Bool.not_eq_true] at hc
        rw [hc] at hgx
        have hgt : g ((i + j) / 2) = false := hgx
        clear hgx
        repeat' (first
 | (refine I_WS ?_; first
 | refine W_lssT rfl rfl rfl rfl hij' ?_
 | refine W_add (s := ((i + j : Nat) : Int)) rfl rfl rfl rfl hsum ?_
 | refine W_conv (s := ((i + j : Nat) : Int)) rfl rfl rfl hcv1 ?_
 | refine W_shr (s := (((i + j) / 2 : Nat) : Int)) rfl rfl rfl rfl (by decide) hshr ?_
 | refine W_conv (s := (((i + j) / 2 : Nat) : Int)) rfl rfl rfl hcv2 ?_
 | refine W_iaddrR (j := (i + j) / 2) rfl rfl rfl rfl hhn ?_
 | refine W_iaddrR (j := a) rfl rfl rfl rfl hon ?_
 | refine W_lssF rfl rfl rfl rfl hge ?_
 | (refine I_mov ?_; first
 | refine W_mov (v := .int _ _) rfl rfl rfl ?_
 | refine W_mov (v := .func _ _) rfl rfl rfl ?_
 | refine W_mov (v := .rs _ _ _ _ _) rfl rfl rfl ?_)
 | (refine I_load ?_; first
 | refine W_loadRow (j := (i + j) / 2) rfl rfl hR.at (Nat.zero_add _) rt_cells hyy rfl ?_
 | refine W_loadRow (j := a) rfl rfl hR.at (Nat.zero_add _) rt_cells hxx rfl ?_)
 | (refine I_call ?_; first
 | refine W_call rfl rfl rfl (hC _ _) rfl rfl ?_)
 | refine WS_nil ?_)
 | refine okF_intro (okFlags_onlyR rfl) ?_
 | refine WC_seq ?_
 | refine WC_opsS ?_
 | refine WC_drawS ?_
 | refine WC_skip ?_
 | refine WC_condT rfl ?_
 | refine WC_condF rfl ?_
 | refine WC_block ?_)
        refine ih i ((i + j) / 2) (by omega) (by omega) (by omega) (hmo.sub (Nat.le_refl _) (by omega)) (fun c y a b => hgd c y (by omega) (by omega)) _ st hR ?_ ?_ ?_ ?_ ?_ Q (fun ρ' s hs => hQ ρ' s (Cut.down hmo (by omega) (by omega) hgt hs)) <;> rfl
    · obtain rfl : i = j := by omega
      rw [← upd_self h0, ← upd_self h1, ← upd_self h4, ← upd_self hi1, ← upd_self hj1]
      refine WC_loop ?_
      repeat' (first
 | (refine I_WS ?_; first
 | (refine I_mov ?_; first
 | refine W_mov (v := .int _ _) rfl rfl rfl ?_)
 | (refine I_bin ?_; first
 | refine W_lssF rfl rfl rfl rfl (by omega) ?_)
 | refine WS_nil ?_)
 | refine WC_seq ?_
 | refine WC_opsS ?_
 | refine WC_condF rfl ?_
 | refine WC_exit ?_)
      refine hQ _ i ⟨Nat.le_refl _, Nat.le_refl _, fun c a b => absurd b (by omega), fun c a b => absurd b (by omega)⟩ ?_ ?_ ?_ ?_ <;> rfl

set_option maxHeartbeats 8000000 in
theorem l_b2 (p n c : Nat) (L : List Rt) (hnl : n ≤ 1000000) (hn : n = L.length) (hsh : Short L) (a m b md nn : Nat) (x : Rt) (hx : L[m]? = some x) (g : Nat → Bool) : ∀ (d i j : Nat), j - i ≤ d → i ≤ j → j ≤ n → Mono g i j → (∀ c y, i ≤ c → c < j → L[c]? = some y → g c = (!ltR x y)) → ∀ (ρ : Nat → D) (st : Store), RowIs st p 2 (L.map Rt.e) →
    ρ 0 = .rs p 0 2 n c → ρ 2 = .int .i64 m → ρ 4 = .func 21 [] → ρ 14 = .int .i64 i → ρ 15 = .int .i64 j → ∀ (Q : X → (Nat → D) → Store → Prop),
    (∀ ρ' s, Cut g i j s → ρ' 0 = .rs p 0 2 n c → ρ' 2 = .int .i64 m → ρ' 4 = .func 21 [] → ρ' 14 = .int .i64 s → Q (.exit 4) ρ' st) → WC Γ (.loop c_slices_symMergeCmpFunc_Route_l2) ρ st Q := by
  intro d
  induction d with
  | zero =>
    intro i j hd hij hj hmo hgd ρ st hR h0 h2 h4 hi1 hj1 Q hQ
    obtain rfl : i = j := by omega
    rw [← upd_self h0, ← upd_self h2, ← upd_self h4, ← upd_self hi1, ← upd_self hj1]
    refine WC_loop ?_
    repeat' (first
 | (refine I_WS ?_; first
 | (refine I_mov ?_; first
 | refine W_mov (v := .int _ _) rfl rfl rfl ?_)
 | (refine I_bin ?_; first
 | refine W_lssF rfl rfl rfl rfl (by omega) ?_)
 | refine WS_nil ?_)
 | refine WC_seq ?_
 | refine WC_opsS ?_
 | refine WC_condF rfl ?_
 | refine WC_exit ?_)
    refine hQ _ i ⟨Nat.le_refl _, Nat.le_refl _, fun c a b => absurd b (by omega), fun c a b => absurd b (by omega)⟩ ?_ ?_ ?_ ?_ <;> rfl
  | succ d ih =>
    intro i j hd hij hj hmo hgd ρ st hR h0 h2 h4 hi1 hj1 Q hQ
    by_cases hlt0 : i < j
    · have hij' : (i : Int) < (j : Int) := by omega
      have hsum : IntKind.i64.wrap ((i : Int) + (j : Int)) = ((i + j : Nat) : Int) := by rw [w64 (by omega)]; omega
      have hcv1 : IntKind.u64.wrap ((i + j : Nat) : Int) = ((i + j : Nat) : Int) := by
        show ((i + j : Nat) : Int) % 18446744073709551616 = _
        omega
      have hshr : ((i + j : Nat) : Int).fdiv (2 ^ (Nat.min (1 : Int).toNat IntKind.u64.bits)) = (((i + j) / 2 : Nat) : Int) := by rw [shr1]; omega
      have hcv2 : IntKind.i64.wrap (((i + j) / 2 : Nat) : Int) = (((i + j) / 2 : Nat) : Int) := w64 (by omega)
      have hsuc : IntKind.i64.wrap ((((i + j) / 2 : Nat) : Int) + 1) = (((i + j) / 2 + 1 : Nat) : Int) := by rw [w64 (by omega)]; omega
      have hhn : (i + j) / 2 < n := by omega
      obtain ⟨y, hy⟩ : ∃ y, L[(i + j) / 2]? = some y := ⟨_, List.getElem?_eq_getElem (by omega)⟩
      have hon : m < n := by rw [hn]; exact (List.getElem?_eq_some_iff.mp hx).1
      have hyy := rt_at hy
      have hxx := rt_at hx
      have hyl := hsh y (List.mem_of_getElem? hy)
      have hxl := hsh x (List.mem_of_getElem? hx)
      have hC := fun t t' => s_CompareR x.hs x.ar y.hs y.ar hxl hyl t t' 3 3 (.inl rfl) (.inl rfl)
      have hgx := hgd ((i + j) / 2) y (by omega) (by omega) hy
      rw [← upd_self h0, ← upd_self h2, ← upd_self h4, ← upd_self hi1, ← upd_self hj1]
      refine WC_loop ?_
      by_cases hc : ltR x y = true
      · have hlt := ltR_iff'.1 hc
        rw [hc] at hgx
        have hgt : g ((i + j) / 2) = false := hgx
        clear hgx
        repeat' (first
 | (refine I_WS ?_; first
 | refine W_lssT rfl rfl rfl rfl hij' ?_
 | refine W_add (s := ((i + j : Nat) : Int)) rfl rfl rfl rfl hsum ?_
 | refine W_conv (s := ((i + j : Nat) : Int)) rfl rfl rfl hcv1 ?_
 | refine W_shr (s := (((i + j) / 2 : Nat) : Int)) rfl rfl rfl rfl (by decide) hshr ?_
 | refine W_conv (s := (((i + j) / 2 : Nat) : Int)) rfl rfl rfl hcv2 ?_
 | refine W_iaddrR (j := (i + j) / 2) rfl rfl rfl rfl hhn ?_
 | refine W_iaddrR (j := m) rfl rfl rfl rfl hon ?_
 | refine W_lssT rfl rfl rfl rfl hlt ?_
 | (refine I_mov ?_; first
 | refine W_mov (v := .int _ _) rfl rfl rfl ?_
 | refine W_mov (v := .func _ _) rfl rfl rfl ?_
 | refine W_mov (v := .rs _ _ _ _ _) rfl rfl rfl ?_)
 | (refine I_load ?_; first
 | refine W_loadRow (j := (i + j) / 2) rfl rfl hR.at (Nat.zero_add _) rt_cells hyy rfl ?_
 | refine W_loadRow (j := m) rfl rfl hR.at (Nat.zero_add _) rt_cells hxx rfl ?_)
 | (refine I_call ?_; first
 | refine W_call rfl rfl rfl (hC _ _) rfl rfl ?_)
 | refine W_not rfl rfl rfl ?_
 | refine WS_nil ?_)
 | refine okF_intro (okFlags_onlyR rfl) ?_
 | refine WC_seq ?_
 | refine WC_opsS ?_
 | refine WC_drawS ?_
 | refine WC_skip ?_
 | refine WC_condT rfl ?_
 | refine WC_condF rfl ?_
 | refine WC_block ?_)
        refine ih i ((i + j) / 2) (by omega) (by omega) (by omega) (hmo.sub (Nat.le_refl _) (by omega)) (fun c y a b => hgd c y (by omega) (by omega)) _ st hR ?_ ?_ ?_ ?_ ?_ Q (fun ρ' s hs => hQ ρ' s (Cut.down hmo (by omega) (by omega) hgt hs)) <;> rfl
      · have hge : ¬ _ := fun h => hc (ltR_iff'.2 h)
        have hge := Int.not_lt.1 hge
        rw [Bool.not_eq_true] at hc
        rw [hc] at hgx
        have hgt : g ((i + j) / 2) = true := hgx
        clear hgx
        repeat' (first
 | (refine I_WS ?_; first
 | refine W_lssT rfl rfl rfl rfl hij' ?_
 | refine W_add (s := ((i + j : Nat) : Int)) rfl rfl rfl rfl hsum ?_
 | refine W_add (s := (((i + j) / 2 + 1 : Nat) : Int)) rfl rfl rfl rfl hsuc ?_
 | refine W_conv (s := ((i + j : Nat) : Int)) rfl rfl rfl hcv1 ?_
 | refine W_shr (s := (((i + j) / 2 : Nat) : Int)) rfl rfl rfl rfl (by decide) hshr ?_
 | refine W_conv (s := (((i + j) / 2 : Nat) : Int)) rfl rfl rfl hcv2 ?_
 | refine W_iaddrR (j := (i + j) / 2) rfl rfl rfl rfl hhn ?_
 | refine W_iaddrR (j := m) rfl rfl rfl rfl hon ?_
 | refine W_lssF rfl rfl rfl rfl hge ?_
 | (refine I_mov ?_; first
 | refine W_mov (v := .int _ _) rfl rfl rfl ?_
 | refine W_mov (v := .func _ _) rfl rfl rfl ?_
 | refine W_mov (v := .rs _ _ _ _ _) rfl rfl rfl ?_)
 | (refine I_load ?_; first
 | refine W_loadRow (j := (i + j) / 2) rfl rfl hR.at (Nat.zero_add _) rt_cells hyy rfl ?_
 | refine W_loadRow (j := m) rfl rfl hR.at (Nat.zero_add _) rt_cells hxx rfl ?_)
 | (refine I_call ?_; first
 | refine W_call rfl rfl rfl (hC _ _) rfl rfl ?_)
 | refine W_not rfl rfl rfl ?_
 | refine WS_nil ?_)
 | refine okF_intro (okFlags_onlyR rfl) ?_
 | refine WC_seq ?_
 | refine WC_opsS ?_
 | refine WC_drawS ?_
 | refine WC_skip ?_
 | refine WC_condT rfl ?_
 | refine WC_block ?_)
        refine ih ((i + j) / 2 + 1) j (by omega) (by omega) hj (hmo.sub (by omega) (Nat.le_refl _)) (fun c y a b => hgd c y (by omega) (by omega)) _ st hR ?_ ?_ ?_ ?_ ?_ Q (fun ρ' s hs => hQ ρ' s (Cut.up hmo (by omega) (by omega) hgt hs)) <;> rfl
    · obtain rfl : i = j := by omega
      rw [← upd_self h0, ← upd_self h2, ← upd_self h4, ← upd_self hi1, ← upd_self hj1]
      refine WC_loop ?_
      repeat' (first
 | (refine I_WS ?_; first
 | (refine I_mov ?_; first
 | refine W_mov (v := .int _ _) rfl rfl rfl ?_)
 | (refine I_bin ?_; first
 | refine W_lssF rfl rfl rfl rfl (by omega) ?_)
 | refine WS_nil ?_)
 | refine WC_seq ?_
 | refine WC_opsS ?_
 | refine WC_condF rfl ?_
 | refine WC_exit ?_)
      refine hQ _ i ⟨Nat.le_refl _, Nat.le_refl _, fun c a b => absurd b (by omega), fun c a b => absurd b (by omega)⟩ ?_ ?_ ?_ ?_ <;> rfl

set_option maxHeartbeats 8000000 in
theorem l_b4 (p n c : Nat) (L : List Rt) (hnl : n ≤ 1000000) (hn : n = L.length) (hsh : Short L) (a m b md nn : Nat) (pp : Nat) (hpn : pp ≤ 2000000) (g : Nat → Bool) : ∀ (d i j : Nat), j - i ≤ d → i ≤ j → j ≤ n → Mono g i j → (∀ c y x, i ≤ c → c < j → L[c]? = some y → L[pp - c]? = some x → g c = (!ltR x y)) → (∀ c, i ≤ c → c < j → pp - c < n ∧ c ≤ pp) → ∀ (ρ : Nat → D) (st : Store), RowIs st p 2 (L.map Rt.e) →
    ρ 0 = .rs p 0 2 n c → ρ 1 = .int .i64 a → ρ 2 = .int .i64 m → ρ 3 = .int .i64 b → ρ 4 = .func 21 [] → ρ 18 = .int .i64 md → ρ 19 = .int .i64 nn → ρ 22 = .int .i64 pp → ρ 20 = .int .i64 i → ρ 21 = .int .i64 j → ∀ (Q : X → (Nat → D) → Store → Prop),
    (∀ ρ' s, Cut g i j s → ρ' 0 = .rs p 0 2 n c → ρ' 1 = .int .i64 a → ρ' 2 = .int .i64 m → ρ' 3 = .int .i64 b → ρ' 4 = .func 21 [] → ρ' 18 = .int .i64 md → ρ' 19 = .int .i64 nn → ρ' 22 = .int .i64 pp → ρ' 20 = .int .i64 s → Q (.exit 8) ρ' st) → WC Γ (.loop c_slices_symMergeCmpFunc_Route_l4) ρ st Q := by
  intro d
  induction d with
  | zero =>
    intro i j hd hij hj hmo hgd hdom ρ st hR h0 h1 h2 h3 h4 h18 h19 h22 hi1 hj1 Q hQ
    obtain rfl : i = j := by omega
    rw [← upd_self h0, ← upd_self h1, ← upd_self h2, ← upd_self h3, ← upd_self h4, ← upd_self h18, ← upd_self h19, ← upd_self h22, ← upd_self hi1, ← upd_self hj1]
    refine WC_loop ?_
    repeat' (first
 | (refine I_WS ?_; first
 | (refine I_mov ?_; first
 | refine W_mov (v := .int _ _) rfl rfl rfl ?_)
 | (refine I_bin ?_; first
 | refine W_lssF rfl rfl rfl rfl (by omega) ?_)
 | refine WS_nil ?_)
 | refine WC_seq ?_
 | refine WC_opsS ?_
 | refine WC_condF rfl ?_
 | refine WC_exit ?_)
    refine hQ _ i ⟨Nat.le_refl _, Nat.le_refl _, fun c a b => absurd b (by omega), fun c a b => absurd b (by omega)⟩ ?_ ?_ ?_ ?_ ?_ ?_ ?_ ?_ ?_ <;> rfl
  | succ d ih =>
    intro i j hd hij hj hmo hgd hdom ρ st hR h0 h1 h2 h3 h4 h18 h19 h22 hi1 hj1 Q hQ
    by_cases hlt0 : i < j
    · have hij' : (i : Int) < (j : Int) := by omega
      have hsum : IntKind.i64.wrap ((i : Int) + (j : Int)) = ((i + j : Nat) : Int) := by rw [w64 (by omega)]; omega
      have hcv1 : IntKind.u64.wrap ((i + j : Nat) : Int) = ((i + j : Nat) : Int) := by
        show ((i + j : Nat) : Int) % 18446744073709551616 = _
        omega
      have hshr : ((i + j : Nat) : Int).fdiv (2 ^ (Nat.min (1 : Int).toNat IntKind.u64.bits)) = (((i + j) / 2 : Nat) : Int) := by rw [shr1]; omega
      have hcv2 : IntKind.i64.wrap (((i + j) / 2 : Nat) : Int) = (((i + j) / 2 : Nat) : Int) := w64 (by omega)
      have hsuc : IntKind.i64.wrap ((((i + j) / 2 : Nat) : Int) + 1) = (((i + j) / 2 + 1 : Nat) : Int) := by rw [w64 (by omega)]; omega
      have hhn : (i + j) / 2 < n := by omega
      obtain ⟨y, hy⟩ : ∃ y, L[(i + j) / 2]? = some y := ⟨_, List.getElem?_eq_getElem (by omega)⟩
      obtain ⟨hon, hcp⟩ := hdom ((i + j) / 2) (by omega) (by omega)
      obtain ⟨x, hx⟩ : ∃ x, L[pp - (i + j) / 2]? = some x := ⟨_, List.getElem?_eq_getElem (by omega)⟩
      have hsub : IntKind.i64.wrap ((pp : Int) - (((i + j) / 2 : Nat) : Int)) = ((pp - (i + j) / 2 : Nat) : Int) := by rw [w64 (by omega)]; omega
      have hyy := rt_at hy
      have hxx := rt_at hx
      have hyl := hsh y (List.mem_of_getElem? hy)
      have hxl := hsh x (List.mem_of_getElem? hx)
      have hC := fun t t' => s_CompareR x.hs x.ar y.hs y.ar hxl hyl t t' 3 3 (.inl rfl) (.inl rfl)
      have hgx := hgd ((i + j) / 2) y x (by omega) (by omega) hy hx
      rw [← upd_self h0, ← upd_self h1, ← upd_self h2, ← upd_self h3, ← upd_self h4, ← upd_self h18, ← upd_self h19, ← upd_self h22, ← upd_self hi1, ← upd_self hj1]
      refine WC_loop ?_
      by_cases hc : ltR x y = true
      · have hlt := ltR_iff'.1 hc
        rw [hc] at hgx
        have hgt : g ((i + j) / 2) = false := hgx
        clear hgx
        repeat' (first
 | (refine I_WS ?_; first
 | refine W_lssT rfl rfl rfl rfl hij' ?_
 | refine W_add (s := ((i + j : Nat) : Int)) rfl rfl rfl rfl hsum ?_
 | refine W_sub (s := ((pp - (i + j) / 2 : Nat) : Int)) rfl rfl rfl rfl hsub ?_
 | refine W_conv (s := ((i + j : Nat) : Int)) rfl rfl rfl hcv1 ?_
 | refine W_shr (s := (((i + j) / 2 : Nat) : Int)) rfl rfl rfl rfl (by decide) hshr ?_
 | refine W_conv (s := (((i + j) / 2 : Nat) : Int)) rfl rfl rfl hcv2 ?_
 | refine W_iaddrR (j := (i + j) / 2) rfl rfl rfl rfl hhn ?_
 | refine W_iaddrR (j := (pp - (i + j) / 2)) rfl rfl rfl rfl hon ?_
 | refine W_lssT rfl rfl rfl rfl hlt ?_
 | (refine I_mov ?_; first
 | refine W_mov (v := .int _ _) rfl rfl rfl ?_
 | refine W_mov (v := .func _ _) rfl rfl rfl ?_
 | refine W_mov (v := .rs _ _ _ _ _) rfl rfl rfl ?_)
 | (refine I_load ?_; first
 | refine W_loadRow (j := (i + j) / 2) rfl rfl hR.at (Nat.zero_add _) rt_cells hyy rfl ?_
 | refine W_loadRow (j := (pp - (i + j) / 2)) rfl rfl hR.at (Nat.zero_add _) rt_cells hxx rfl ?_)
 | (refine I_call ?_; first
 | refine W_call rfl rfl rfl (hC _ _) rfl rfl ?_)
 | refine W_not rfl rfl rfl ?_
 | refine WS_nil ?_)
 | refine okF_intro (okFlags_onlyR rfl) ?_
 | refine WC_seq ?_
 | refine WC_opsS ?_
 | refine WC_drawS ?_
 | refine WC_skip ?_
 | refine WC_condT rfl ?_
 | refine WC_condF rfl ?_
 | refine WC_block ?_)
        refine ih i ((i + j) / 2) (by omega) (by omega) (by omega) (hmo.sub (Nat.le_refl _) (by omega)) (fun c y x a b => hgd c y x (by omega) (by omega)) (fun c a b => hdom c (by omega) (by omega)) _ st hR ?_ ?_ ?_ ?_ ?_ ?_ ?_ ?_ ?_ ?_ Q (fun ρ' s hs => hQ ρ' s (Cut.down hmo (by omega) (by omega) hgt hs)) <;> rfl
      · have hge : ¬ _ := fun h => hc (ltR_iff'.2 h)
        have hge := Int.not_lt.1 hge
        rw [Bool.not_eq_true] at hc
        rw [hc] at hgx
        have hgt : g ((i + j) / 2) = true := hgx
        clear hgx
        repeat' (first
 | (refine I_WS ?_; first
 | refine W_lssT rfl rfl rfl rfl hij' ?_
 | refine W_add (s := ((i + j : Nat) : Int)) rfl rfl rfl rfl hsum ?_
 | refine W_add (s := (((i + j) / 2 + 1 : Nat) : Int)) rfl rfl rfl rfl hsuc ?_
 | refine W_sub (s := ((pp - (i + j) / 2 : Nat) : Int)) rfl rfl rfl rfl hsub ?_
 | refine W_conv (s := ((i + j : Nat) : Int)) rfl rfl rfl hcv1 ?_
 | refine W_shr (s := (((i + j) / 2 : Nat) : Int)) rfl rfl rfl rfl (by decide) hshr ?_
 | refine W_conv (s := (((i + j) / 2 : Nat) : Int)) rfl rfl rfl hcv2 ?_
 | refine W_iaddrR (j := (i + j) / 2) rfl rfl rfl rfl hhn ?_
 | refine W_iaddrR (j := (pp - (i + j) / 2)) rfl rfl rfl rfl hon ?_
 | refine W_lssF rfl rfl rfl rfl hge ?_
 | (refine I_mov ?_; first
 | refine W_mov (v := .int _ _) rfl rfl rfl ?_
 | refine W_mov (v := .func _ _) rfl rfl rfl ?_
 | refine W_mov (v := .rs _ _ _ _ _) rfl rfl rfl ?_)
 | (refine I_load ?_; first
 | refine W_loadRow (j := (i + j) / 2) rfl rfl hR.at (Nat.zero_add _) rt_cells hyy rfl ?_
 | refine W_loadRow (j := (pp - (i + j) / 2)) rfl rfl hR.at (Nat.zero_add _) rt_cells hxx rfl ?_)
 | (refine I_call ?_; first
 | refine W_call rfl rfl rfl (hC _ _) rfl rfl ?_)
 | refine W_not rfl rfl rfl ?_
 | refine WS_nil ?_)
 | refine okF_intro (okFlags_onlyR rfl) ?_
 | refine WC_seq ?_
 | refine WC_opsS ?_
 | refine WC_drawS ?_
 | refine WC_skip ?_
 | refine WC_condT rfl ?_
 | refine WC_block ?_)
        refine ih ((i + j) / 2 + 1) j (by omega) (by omega) hj (hmo.sub (by omega) (Nat.le_refl _)) (fun c y x a b => hgd c y x (by omega) (by omega)) (fun c a b => hdom c (by omega) (by omega)) _ st hR ?_ ?_ ?_ ?_ ?_ ?_ ?_ ?_ ?_ ?_ Q (fun ρ' s hs => hQ ρ' s (Cut.up hmo (by omega) (by omega) hgt hs)) <;> rfl
    · obtain rfl : i = j := by omega
      rw [← upd_self h0, ← upd_self h1, ← upd_self h2, ← upd_self h3, ← upd_self h4, ← upd_self h18, ← upd_self h19, ← upd_self h22, ← upd_self hi1, ← upd_self hj1]
      refine WC_loop ?_
      repeat' (first
 | (refine I_WS ?_; first
 | (refine I_mov ?_; first
 | refine W_mov (v := .int _ _) rfl rfl rfl ?_)
 | (refine I_bin ?_; first
 | refine W_lssF rfl rfl rfl rfl (by omega) ?_)
 | refine WS_nil ?_)
 | refine WC_seq ?_
 | refine WC_opsS ?_
 | refine WC_condF rfl ?_
 | refine WC_exit ?_)
      refine hQ _ i ⟨Nat.le_refl _, Nat.le_refl _, fun c a b => absurd b (by omega), fun c a b => absurd b (by omega)⟩ ?_ ?_ ?_ ?_ ?_ ?_ ?_ ?_ ?_ <;> rfl

end Go.Ord

/-
  slices' symMerge: one element's way to its place.
-/
namespace Go.Ord
open Go.Ev
set_option linter.unusedVariables false
set_option linter.unusedSimpArgs false
set_option maxHeartbeats 8000000 in
theorem l_m1 (p n c i : Nat) (hnl : n ≤ 1000000) (x : Rt) (W : List Rt) : ∀ (Y U : List Rt), n = (U ++ x :: (Y ++ W)).length → i = (U ++ Y).length + 1 → ∀ (ρ : Nat → D) (st : Store), RowIs st p 2 ((U ++ x :: (Y ++ W)).map Rt.e) →
    ρ 0 = .rs p 0 2 n c → ρ 10 = .int .i64 i → ρ 13 = .int .i64 U.length → ∀ (Q : X → (Nat → D) → Store → Prop),
    (∀ ρ' st', FrR st st' p → RowIs st' p 2 ((U ++ Y ++ x :: W).map Rt.e) → Q (.exit 2) ρ' st') → WC Γ (.loop c_slices_symMergeCmpFunc_Route_l1) ρ st Q := by
  intro Y
  induction Y with
  | nil =>
    intro U hn hi ρ st hR h0 h10 h13 Q hQ
    have hil : U.length + 1 ≤ n := by rw [hn]; simp
    rw [List.append_nil] at hi
    have hsub : IntKind.i64.wrap ((i : Int) - 1) = ((U.length : Nat) : Int) := by rw [w64 (by omega)]; omega
    rw [← upd_self h0, ← upd_self h10, ← upd_self h13]
    refine WC_loop ?_
    repeat' (first
 | (refine I_WS ?_; first
 | refine W_sub (s := ((U.length : Nat) : Int)) rfl rfl rfl rfl hsub ?_
 | (refine I_mov ?_; first
 | refine W_mov (v := .int _ _) rfl rfl rfl ?_)
 | (refine I_bin ?_; first
 | refine W_lssF rfl rfl rfl rfl (by omega) ?_)
 | refine WS_nil ?_)
 | refine WC_seq ?_
 | refine WC_opsS ?_
 | refine WC_condF rfl ?_
 | refine WC_exit ?_)
    exact hQ _ _ (FrR.refl _ _) (by simpa using hR)
  | cons y Y ih =>
    intro U hn hi ρ st hR h0 h10 h13 Q hQ
    have e1 : U ++ x :: (y :: Y ++ W) = U ++ x :: ([] ++ y :: (Y ++ W)) := rfl
    have e2 : U ++ y :: ([] ++ x :: (Y ++ W)) = (U ++ [y]) ++ x :: (Y ++ W) := by simp
    have hnx := ih (U ++ [y]) (by rw [hn]; simp <;> omega) (by rw [hi]; simp <;> omega)
    have hsw := @swap2 U [] (Y ++ W) x y
    have hUn : U.length + 1 < n := by rw [hn]; simp <;> omega
    have hU0 : U.length < n := by omega
    have hil : i = U.length + Y.length + 2 := by rw [hi]; simp <;> omega
    have hin : i ≤ n := by rw [hn, hi]; simp <;> omega
    have hsub : IntKind.i64.wrap ((i : Int) - 1) = ((i - 1 : Nat) : Int) := by rw [w64 (by omega)]; omega
    have hlt : ((U.length : Nat) : Int) < ((i - 1 : Nat) : Int) := by omega
    have hadd : IntKind.i64.wrap ((U.length : Int) + 1) = ((U.length + 1 : Nat) : Int) := by rw [w64 (by omega)]; omega
    rw [e1] at hR hn
    have hx : (U ++ x :: ([] ++ y :: (Y ++ W)))[U.length]? = some x := by simp
    have hy : (U ++ x :: ([] ++ y :: (Y ++ W)))[U.length + 1]? = some y := by
      rw [List.getElem?_append_right (by omega)]; simp
    have hx' := rt_at hx
    have hy' := rt_at hy
    clear ih
    generalize hL : U ++ x :: ([] ++ y :: (Y ++ W)) = L at *
    have hi1 : U.length < (L.map Rt.e).length := by rw [List.length_map, ← hn]; exact hU0
    have hi2 : U.length + 1 < ((L.map Rt.e).set U.length (.agg [.slice .no 3 (y.hs.map Hp.e), .int .i64 y.ar])).length := by rw [List.length_set, List.length_map, ← hn]; exact hUn
    have hcel : ∀ d ∈ ((L.map Rt.e).set U.length (.agg [.slice .no 3 (y.hs.map Hp.e), .int .i64 y.ar])), d.cells.length = 2 := by
      intro d hd
      rcases List.mem_or_eq_of_mem_set hd with hd | rfl
      · exact rt_cells d hd
      · rfl
    rw [← upd_self h0, ← upd_self h10, ← upd_self h13]
    refine WC_loop ?_
    repeat' (first
 | (refine I_WS ?_; first
 | refine W_lssT rfl rfl rfl rfl hlt ?_
 | refine W_sub (s := ((i - 1 : Nat) : Int)) rfl rfl rfl rfl hsub ?_
 | refine W_add (s := ((U.length + 1 : Nat) : Int)) rfl rfl rfl rfl hadd ?_
 | refine W_iaddrR (j := U.length) rfl rfl rfl rfl hU0 ?_
 | refine W_iaddrR (j := U.length + 1) rfl rfl rfl rfl hUn ?_
 | (refine I_mov ?_; first
 | refine W_mov (v := .int _ _) rfl rfl rfl ?_
 | refine W_mov (v := .rs _ _ _ _ _) rfl rfl rfl ?_)
 | (refine I_load ?_; first
 | refine W_loadRow (j := U.length) rfl rfl hR.at (Nat.zero_add _) rt_cells hx' rfl ?_
 | refine W_loadRow (j := U.length + 1) rfl rfl hR.at (Nat.zero_add _) rt_cells hy' rfl ?_)
 | (refine I_store ?_; first
 | (refine W_storeRow (j := U.length) rfl rfl rfl hR (Nat.zero_add _) rt_cells hi1 rfl rfl rfl ?_ <;> intro st1 f1 f2 f3 f4 f5 hR1 hb2))
 | refine WS_nil ?_)
 | refine WC_seq ?_
 | refine WC_opsS ?_
 | refine WC_drawS ?_
 | refine WC_skip ?_
 | refine WC_condT rfl ?_
 | refine WC_block ?_)
    refine W_storeRow (j := U.length + 1) rfl rfl rfl hR1 (Nat.zero_add _) hcel hi2 rfl rfl rfl ?_
    intro st2 g1 g2 g3 g4 g5 hR2 hb3
    have hR3 : RowIs st2 p 2 (((U ++ [y]) ++ x :: (Y ++ W)).map Rt.e) := by rw [← e2, ← hsw]; exact hR2
    have hz : D.int .i64 ((U.length + 1 : Nat) : Int) = D.int .i64 ((U ++ [y]).length : Nat) := by simp
    repeat' (first
 | (refine I_WS ?_; first
 | refine W_add (s := ((U.length + 1 : Nat) : Int)) rfl rfl rfl rfl hadd ?_
 | (refine I_mov ?_; first
 | refine W_mov (v := .int _ _) rfl rfl rfl ?_)
 | refine WS_nil ?_)
 | refine okF_intro (by simp [okFlags, List.range, List.range.loop, Fl.clash]) ?_
 | refine WC_opsS ?_)
    refine hnx _ _ hR3 ?_ ?_ ?_ Q (fun ρ' st' hF hR' => hQ ρ' st' (FrR.trans ⟨g1.trans f1, g2.trans f2, g3.trans f3, g4.trans f4, g5.trans f5, fun q hq => (hb3 q hq).trans (hb2 q hq)⟩ hF) (by simpa using hR')) <;> first | rfl | exact hz
set_option maxHeartbeats 8000000 in
theorem l_m3 (p n c : Nat) (hnl : n ≤ 1000000) (x : Rt) (U : List Rt) : ∀ (m : Nat) (Y W : List Rt), Y.length = m → n = (U ++ Y ++ x :: W).length → ∀ (ρ : Nat → D) (st : Store), RowIs st p 2 ((U ++ Y ++ x :: W).map Rt.e) →
    ρ 0 = .rs p 0 2 n c → ρ 14 = .int .i64 U.length → ρ 17 = .int .i64 ((U ++ Y).length : Nat) → ∀ (Q : X → (Nat → D) → Store → Prop),
    (∀ ρ' st', FrR st st' p → RowIs st' p 2 ((U ++ x :: (Y ++ W)).map Rt.e) → Q (.exit 6) ρ' st') → WC Γ (.loop c_slices_symMergeCmpFunc_Route_l3) ρ st Q := by
  intro m
  induction m with
  | zero =>
    intro Y W hY hn ρ st hR h0 h14 h17 Q hQ
    obtain rfl := List.length_eq_zero_iff.1 hY
    rw [List.append_nil] at h17
    rw [← upd_self h0, ← upd_self h14, ← upd_self h17]
    refine WC_loop ?_
    repeat' (first
 | (refine I_WS ?_; first
 | (refine I_mov ?_; first
 | refine W_mov (v := .int _ _) rfl rfl rfl ?_)
 | (refine I_bin ?_; first
 | refine W_gtrF rfl rfl rfl rfl (by omega) ?_)
 | refine WS_nil ?_)
 | refine WC_seq ?_
 | refine WC_opsS ?_
 | refine WC_condF rfl ?_
 | refine WC_exit ?_)
    exact hQ _ _ (FrR.refl _ _) (by simpa using hR)
  | succ m ih =>
    intro Y1 W hY hn ρ st hR h0 h14 h17 Q hQ
    obtain ⟨Y, y, rfl⟩ : ∃ S y, Y1 = S ++ [y] := by
      rcases List.eq_nil_or_concat Y1 with h | ⟨S, y, h⟩
      · subst h; simp at hY
      · exact ⟨S, y, by rw [h, List.concat_eq_append]⟩
    have e1 : U ++ (Y ++ [y]) ++ x :: W = (U ++ Y) ++ y :: x :: W := by simp
    have e2 : ((U ++ (Y ++ [y])).length : Nat) = (U ++ Y).length + 1 := by rw [← List.append_assoc, List.length_append]; rfl
    rw [e1] at hn hR
    rw [e2] at h17
    have hnx := ih Y (y :: W) (by simpa using hY) (by rw [hn]; simp)
    have hUA : U.length ≤ (U ++ Y).length := by simp
    have hx : ((U ++ Y) ++ y :: x :: W)[(U ++ Y).length + 1]? = some x := by
      rw [List.getElem?_append_right (by omega)]; simp
    have hy : ((U ++ Y) ++ y :: x :: W)[(U ++ Y).length]? = some y := by
      rw [List.getElem?_append_right (by omega)]; simp
    have hsw := @swap_eq (U ++ Y) W x y
    have hAn : (U ++ Y).length + 1 < n := by rw [hn, List.length_append (as := U ++ Y)]; simp
    clear ih
    have hgoal : U ++ x :: (Y ++ [y] ++ W) = U ++ x :: (Y ++ y :: W) := by simp
    rw [hgoal] at hQ
    generalize hA : U ++ Y = A at *
    generalize hL : A ++ y :: x :: W = L at *
    have hgt : (U.length : Int) < ((A.length + 1 : Nat) : Int) := by omega
    have hsub : IntKind.i64.wrap (((A.length + 1 : Nat) : Int) - 1) = ((A.length : Nat) : Int) := by rw [w64 (by omega)]; omega
    have hx' := rt_at hx
    have hy' := rt_at hy
    have hi1 : A.length + 1 < (L.map Rt.e).length := by rw [List.length_map]; omega
    have hA0 : A.length < n := by omega
    have hi2 : A.length < ((L.map Rt.e).set (A.length + 1) (.agg [.slice .no 3 (y.hs.map Hp.e), .int .i64 y.ar])).length := by rw [List.length_set, List.length_map]; omega
    have hcel : ∀ d ∈ ((L.map Rt.e).set (A.length + 1) (.agg [.slice .no 3 (y.hs.map Hp.e), .int .i64 y.ar])), d.cells.length = 2 := by
      intro d hd
      rcases List.mem_or_eq_of_mem_set hd with hd | rfl
      · exact rt_cells d hd
      · rfl
    rw [← upd_self h0, ← upd_self h14, ← upd_self h17]
    refine WC_loop ?_
    repeat' (first
 | (refine I_WS ?_; first
 | refine W_sub (s := ((A.length : Nat) : Int)) rfl rfl rfl rfl hsub ?_
 | refine W_gtrT rfl rfl rfl rfl hgt ?_
 | refine W_iaddrR (j := A.length + 1) rfl rfl rfl rfl hAn ?_
 | refine W_iaddrR (j := A.length) rfl rfl rfl rfl hA0 ?_
 | (refine I_mov ?_; first
 | refine W_mov (v := .int _ _) rfl rfl rfl ?_
 | refine W_mov (v := .rs _ _ _ _ _) rfl rfl rfl ?_)
 | (refine I_load ?_; first
 | refine W_loadRow (j := A.length + 1) rfl rfl hR.at (Nat.zero_add _) rt_cells hx' rfl ?_
 | refine W_loadRow (j := A.length) rfl rfl hR.at (Nat.zero_add _) rt_cells hy' rfl ?_)
 | (refine I_store ?_; first
 | (refine W_storeRow (j := A.length + 1) rfl rfl rfl hR (Nat.zero_add _) rt_cells hi1 rfl rfl rfl ?_ <;> intro st1 f1 f2 f3 f4 f5 hR1 hb2))
 | refine WS_nil ?_)
 | refine WC_seq ?_
 | refine WC_opsS ?_
 | refine WC_drawS ?_
 | refine WC_skip ?_
 | refine WC_condT rfl ?_
 | refine WC_block ?_)
    refine W_storeRow (j := A.length) rfl rfl rfl hR1 (Nat.zero_add _) hcel hi2 rfl rfl rfl ?_
    intro st2 g1 g2 g3 g4 g5 hR2 hb3
    have hR3 : RowIs st2 p 2 ((A ++ x :: (y :: W)).map Rt.e) := by rw [← hsw]; exact hR2
    repeat' (first
 | (refine I_WS ?_; first
 | refine W_sub (s := ((A.length : Nat) : Int)) rfl rfl rfl rfl hsub ?_
 | (refine I_mov ?_; first
 | refine W_mov (v := .int _ _) rfl rfl rfl ?_)
 | refine WS_nil ?_)
 | refine okF_intro (by simp [okFlags, List.range, List.range.loop, Fl.clash]) ?_
 | refine WC_opsS ?_)
    refine hnx _ _ hR3 ?_ ?_ ?_ Q (fun ρ' st' hF hR' => hQ ρ' st' (FrR.trans ⟨g1.trans f1, g2.trans f2, g3.trans f3, g4.trans f4, g5.trans f5, fun q hq => (hb3 q hq).trans (hb2 q hq)⟩ hF) hR') <;> rfl
end Go.Ord

/-
  slices' symMerge, where one side has one element.
-/
namespace Go.Ord
open Go.Ev
set_option linter.unusedVariables false
set_option linter.unusedSimpArgs false
theorem leR_refl (x : Rt) : leR x x := by unfold leR; rw [cmpR_self]; exact Int.le_refl _
theorem srt_le {B : List Rt} (h : Srt B) {i j : Nat} {y z : Rt} (hy : B[i]? = some y) (hz : B[j]? = some z) (hij : i ≤ j) : leR y z := by
  obtain ⟨h1, rfl⟩ := List.getElem?_eq_some_iff.mp hy
  obtain ⟨h2, rfl⟩ := List.getElem?_eq_some_iff.mp hz
  rcases Nat.lt_or_eq_of_le hij with h' | rfl
  · exact List.pairwise_iff_getElem.1 h i j h1 h2 h'
  · exact leR_refl _
theorem seg_at {U B R : List Rt} {c : Nat} (h1 : U.length ≤ c) (h2 : c < U.length + B.length) : (U ++ B ++ R)[c]? = B[c - U.length]? := by
  rw [List.getElem?_append_left (by rw [List.length_append]; omega), List.getElem?_append_right h1]
theorem cut_parts {U B R : List Rt} {g : Nat → Bool} {f : Rt → Bool} {s : Nat} (hg : ∀ c y, U.length ≤ c → c < U.length + B.length → (U ++ B ++ R)[c]? = some y → g c = f y) (hc : Cut g U.length (U.length + B.length) s) :
    (∀ b ∈ B.take (s - U.length), f b = true) ∧ (∀ b ∈ B.drop (s - U.length), f b = false) := by
  have h0 := hc.lo
  have h9 := hc.hi
  constructor
  · intro b hb
    obtain ⟨i, hi⟩ := List.mem_iff_getElem?.1 hb
    have hil : i < s - U.length := by
      have := (List.getElem?_eq_some_iff.mp hi).1
      rw [List.length_take] at this
      omega
    rw [List.getElem?_take_of_lt hil] at hi
    have hiB := (List.getElem?_eq_some_iff.mp hi).1
    have hh := hg (U.length + i) b (by omega) (by omega) (by rw [seg_at (by omega) (by omega)]; rw [show U.length + i - U.length = i from by omega]; exact hi)
    rw [← hh]
    exact hc.be _ (by omega) (by omega)
  · intro b hb
    obtain ⟨i, hi⟩ := List.mem_iff_getElem?.1 hb
    rw [List.getElem?_drop] at hi
    have hiB := (List.getElem?_eq_some_iff.mp hi).1
    have hh := hg (s + i) b (by omega) (by omega) (by rw [seg_at (by omega) (by omega), show s + i - U.length = s - U.length + i from by omega]; exact hi)
    rw [← hh]
    exact hc.af _ (by omega) (by omega)
theorem mrg_one_l {x : Rt} {B1 B2 : List Rt} (h1 : ∀ b ∈ B1, ltR b x = true) (h2 : ∀ b ∈ B2, ltR b x = false) : mrg [x] (B1 ++ B2) = B1 ++ x :: B2 := by
  have e1 := mrg_split _ [] B1 [x] B2 (Nat.le_refl _) (fun b hb a ha => by rw [List.mem_singleton.1 ha]; exact h1 b hb) (fun a ha => absurd ha List.not_mem_nil)
  have e2 := mrg_split _ [x] [] [] B2 (Nat.le_refl _) (fun b hb => absurd hb List.not_mem_nil) (fun a ha b hb => by rw [List.mem_singleton.1 ha]; exact leR_iff.2 (h2 b hb))
  simp only [List.nil_append, List.append_nil, mrg_nl, mrg_nr] at e1 e2
  rw [e1, e2]
  rfl
theorem mrg_one_r {x : Rt} {A1 A2 : List Rt} (h1 : ∀ a ∈ A1, ltR x a = false) (h2 : ∀ a ∈ A2, ltR x a = true) : mrg (A1 ++ A2) [x] = A1 ++ x :: A2 := by
  have e1 := mrg_split _ A1 [] A2 [x] (Nat.le_refl _) (fun b hb => absurd hb List.not_mem_nil) (fun a ha b hb => by rw [List.mem_singleton.1 hb]; exact leR_iff.2 (h1 a ha))
  have e2 := mrg_split _ [] [x] A2 [] (Nat.le_refl _) (fun b hb a ha => by rw [List.mem_singleton.1 hb]; exact h2 a ha) (fun a ha => absurd ha List.not_mem_nil)
  simp only [List.nil_append, List.append_nil, mrg_nl, mrg_nr] at e1 e2
  rw [e1, e2]
  rfl
set_option maxHeartbeats 8000000 in
theorem s_sym1 (p n c : Nat) (P : List Rt) (x : Rt) (B R : List Rt) (st : Store) (hnl : n ≤ 1000000) (hB : Srt B) (hn : n = (P ++ [x] ++ B ++ R).length) (hsh : Short (P ++ [x] ++ B ++ R)) (hR : RowIs st p 2 ((P ++ [x] ++ B ++ R).map Rt.e)) (m b : Nat) (hm : m = P.length + 1) (hb : b = P.length + 1 + B.length) :
    EvRWX Γ 72 [.rs p 0 2 n c, .int .i64 P.length, .int .i64 m, .int .i64 b, .func 21 []] st (fun r st' => r = .tuple [] ∧ FrR st st' p ∧ RowIs st' p 2 ((P ++ mrg [x] B ++ R).map Rt.e)) := by
  refine EvRWX_code rfl rfl ?_
  have hUl : (P ++ [x]).length = P.length + 1 := by simp
  have hx : (P ++ [x] ++ B ++ R)[P.length]? = some x := by simp
  have hnb : b ≤ n := by rw [hn, hb]; simp; omega
  have hsat : ∀ {c : Nat} {y : Rt}, m ≤ c → c < b → (P ++ [x] ++ B ++ R)[c]? = some y → B[c - m]? = some y := fun {c y} h1 h2 h => by
    rw [seg_at (by omega) (by omega), hUl, ← hm] at h; exact h
  let g : Nat → Bool := fun c => match (P ++ [x] ++ B ++ R)[c]? with | some y => ltR y x | none => false
  have hgd : ∀ c y, m ≤ c → c < b → (P ++ [x] ++ B ++ R)[c]? = some y → g c = ltR y x := fun c y _ _ h => by show (match (P ++ [x] ++ B ++ R)[c]? with | some y => ltR y x | none => false) = _; rw [h]
  have hmo : Mono g m b := fun c c' h1 h2 h3 h4 => by
    obtain ⟨y, hy⟩ : ∃ y, (P ++ [x] ++ B ++ R)[c]? = some y := ⟨_, List.getElem?_eq_getElem (by omega)⟩
    obtain ⟨y', hy'⟩ : ∃ y, (P ++ [x] ++ B ++ R)[c']? = some y := ⟨_, List.getElem?_eq_getElem (by omega)⟩
    rw [hgd c' y' (by omega) h3 hy'] at h4
    rw [hgd c y h1 (by omega) hy]
    exact le_lt (srt_le hB (hsat h1 (by omega) hy) (hsat (by omega) h3 hy') (by omega)) h4
  have hlo := l_b0 p n c (P ++ [x] ++ B ++ R) hnl hn hsh P.length m b 0 0 x hx g (b - m) m b (Nat.le_refl _) (by omega) hnb hmo hgd
  have hsub : IntKind.i64.wrap ((m : Int) - (P.length : Int)) = 1 := by rw [w64 (by omega)]; omega
  repeat' (first
 | (refine I_WS ?_; first
 | refine W_sub (s := 1) rfl rfl rfl rfl hsub ?_
 | (refine I_mov ?_; first
 | refine W_mov (v := .int _ _) rfl rfl rfl ?_)
 | (refine I_bin ?_; first
 | refine W_eqlT rfl rfl rfl rfl (by omega) ?_)
 | refine WS_nil ?_)
 | (refine hlo _ _ hR ?_ ?_ ?_ ?_ ?_ _ ?_ <;> first | rfl | (intro ρ2 s hcut k0 k1 k4 k10))
 | refine WC_seq ?_
 | refine WC_opsS ?_
 | refine WC_condT rfl ?_
 | refine WC_block ?_)
  have hcp := cut_parts (U := P ++ [x]) (B := B) (R := R) (f := fun y => ltR y x) (s := s) (fun c y h1 h2 h => hgd c y (by omega) (by omega) h) (by rw [hUl, ← hm, show m + B.length = b from by omega]; exact hcut)
  rw [hUl, ← hm] at hcp
  have hs0 := hcut.lo
  have hs9 := hcut.hi
  have hmg := mrg_one_l hcp.1 hcp.2
  rw [List.take_append_drop] at hmg
  have hBt : (B.take (s - m)).length = s - m := by rw [List.length_take]; omega
  have e1 : P ++ [x] ++ B ++ R = P ++ x :: (B.take (s - m) ++ (B.drop (s - m) ++ R)) := by
    rw [← List.append_assoc (B.take (s - m)), List.take_append_drop]; simp
  have hwm := l_m1 p n c s hnl x (B.drop (s - m) ++ R) (B.take (s - m)) P (by rw [hn, e1]) (by rw [List.length_append, hBt]; omega)
  rw [e1] at hR
  rw [← upd_self k0, ← upd_self k1, ← upd_self k4, ← upd_self k10]
  repeat' (first
 | (refine I_WS ?_; first
 | (refine I_mov ?_; first
 | refine W_mov (v := .int _ _) rfl rfl rfl ?_)
 | refine WS_nil ?_)
 | (refine hwm _ _ hR ?_ ?_ ?_ _ ?_ <;> first | rfl | (intro ρ3 st3 hF3 hR3))
 | refine WC_block ?_
 | refine WC_ret ?_)
  refine ⟨.inr rfl, _, rfl, rfl, hF3, ?_⟩
  rw [hmg]
  simpa using hR3
set_option maxHeartbeats 8000000 in
theorem s_sym2 (p n c : Nat) (P A : List Rt) (x : Rt) (R : List Rt) (st : Store) (hnl : n ≤ 1000000) (hA2 : A.length ≠ 1) (hA : Srt A) (hn : n = (P ++ A ++ x :: R).length) (hsh : Short (P ++ A ++ x :: R)) (hR : RowIs st p 2 ((P ++ A ++ x :: R).map Rt.e)) (m b : Nat) (hm : m = P.length + A.length) (hb : b = m + 1) :
    EvRWX Γ 72 [.rs p 0 2 n c, .int .i64 P.length, .int .i64 m, .int .i64 b, .func 21 []] st (fun r st' => r = .tuple [] ∧ FrR st st' p ∧ RowIs st' p 2 ((P ++ mrg A [x] ++ R).map Rt.e)) := by
  refine EvRWX_code rfl rfl ?_
  have hx : (P ++ A ++ x :: R)[m]? = some x := by rw [List.getElem?_append_right (by simp; omega)]; simp [hm]
  have hnb : b ≤ n := by rw [hn, hb, hm]; simp; omega
  have hsat : ∀ {c : Nat} {y : Rt}, P.length ≤ c → c < m → (P ++ A ++ x :: R)[c]? = some y → A[c - P.length]? = some y := fun {c y} h1 h2 h => by
    rw [seg_at (by omega) (by omega)] at h; exact h
  let g : Nat → Bool := fun c => match (P ++ A ++ x :: R)[c]? with | some y => !ltR x y | none => false
  have hgd : ∀ c y, P.length ≤ c → c < m → (P ++ A ++ x :: R)[c]? = some y → g c = !ltR x y := fun c y _ _ h => by show (match (P ++ A ++ x :: R)[c]? with | some y => !ltR x y | none => false) = _; rw [h]
  have hmo : Mono g P.length m := fun c c' h1 h2 h3 h4 => by
    obtain ⟨y, hy⟩ : ∃ y, (P ++ A ++ x :: R)[c]? = some y := ⟨_, List.getElem?_eq_getElem (by omega)⟩
    obtain ⟨y', hy'⟩ : ∃ y, (P ++ A ++ x :: R)[c']? = some y := ⟨_, List.getElem?_eq_getElem (by omega)⟩
    rw [hgd c' y' (by omega) h3 hy'] at h4
    rw [hgd c y h1 (by omega) hy]
    have h5 : leR y' x := leR_iff.2 (by simpa using h4)
    have := leR_iff.1 (leR_trans (srt_le hA (hsat h1 (by omega) hy) (hsat (by omega) h3 hy') (by omega)) h5)
    rw [this]
    rfl
  have hlo := l_b2 p n c (P ++ A ++ x :: R) hnl hn hsh P.length m b 0 0 x hx g (m - P.length) P.length m (Nat.le_refl _) (by omega) (by omega) hmo hgd
  have hsub : IntKind.i64.wrap ((m : Int) - (P.length : Int)) = (A.length : Int) := by rw [w64 (by omega)]; omega
  have hsub2 : IntKind.i64.wrap ((b : Int) - (m : Int)) = 1 := by rw [w64 (by omega)]; omega
  have hA2' : ¬ ((A.length : Nat) : Int) = 1 := by omega
  repeat' (first
 | (refine I_WS ?_; first
 | refine W_sub (s := (A.length : Int)) rfl rfl rfl rfl hsub ?_
 | refine W_sub (s := 1) rfl rfl rfl rfl hsub2 ?_
 | refine W_eqlF rfl rfl rfl rfl hA2' ?_
 | (refine I_mov ?_; first
 | refine W_mov (v := .int _ _) rfl rfl rfl ?_)
 | (refine I_bin ?_; first
 | refine W_eqlT rfl rfl rfl rfl (by omega) ?_)
 | refine WS_nil ?_)
 | (refine hlo _ _ hR ?_ ?_ ?_ ?_ ?_ _ ?_ <;> first | rfl | (intro ρ2 s hcut k0 k2 k4 k14))
 | refine WC_seq ?_
 | refine WC_opsS ?_
 | refine WC_skip ?_
 | refine WC_condT rfl ?_
 | refine WC_condF rfl ?_
 | refine WC_block ?_)
  have hcp := cut_parts (U := P) (B := A) (R := x :: R) (f := fun y => !ltR x y) (s := s) (fun c y h1 h2 h => hgd c y (by omega) (by omega) h) (by rw [← hm]; exact hcut)
  have hs0 := hcut.lo
  have hs9 := hcut.hi
  have hmg := mrg_one_r (x := x) (A1 := A.take (s - P.length)) (A2 := A.drop (s - P.length)) (fun a ha => by simpa using hcp.1 a ha) (fun a ha => by simpa using hcp.2 a ha)
  rw [List.take_append_drop] at hmg
  have hAt : (P ++ A.take (s - P.length)).length = s := by rw [List.length_append, List.length_take]; omega
  have e1 : P ++ A ++ x :: R = (P ++ A.take (s - P.length)) ++ A.drop (s - P.length) ++ x :: R := by
    rw [List.append_assoc P (A.take _), List.take_append_drop]
  have hwm := l_m3 p n c hnl x (P ++ A.take (s - P.length)) _ (A.drop (s - P.length)) R rfl (by rw [hn, e1])
  have hml : ((P ++ A.take (s - P.length) ++ A.drop (s - P.length)).length : Nat) = m := by rw [List.append_assoc P, List.take_append_drop, List.length_append, hm]
  rw [e1] at hR
  rw [hAt, hml] at hwm
  rw [← upd_self k0, ← upd_self k2, ← upd_self k4, ← upd_self k14]
  repeat' (first
 | (refine I_WS ?_; first
 | (refine I_mov ?_; first
 | refine W_mov (v := .int _ _) rfl rfl rfl ?_)
 | refine WS_nil ?_)
 | (refine hwm _ _ hR ?_ ?_ ?_ _ ?_ <;> first | rfl | (intro ρ3 st3 hF3 hR3))
 | refine WC_block ?_
 | refine WC_ret ?_)
  refine ⟨.inr rfl, _, rfl, rfl, hF3, ?_⟩
  rw [hmg]
  simpa using hR3
end Go.Ord

/-
  slices' symMerge, on a row of routes.
-/
namespace Go.Ord
open Go.Ev
set_option linter.unusedVariables false
set_option linter.unusedSimpArgs false
section
variable {Γ : Nat → Option FD} {ρ : Nat → D} {st : Store} {Q : X → (Nat → D) → Store → Prop}
/-- A piece that ends with a choice, said at once. -/
theorem WC_cutOC {dr : Bool} {ops : List Op1} {x : A} {a b r : C} (Φ : (Nat → D) → Store → Prop) (h1 : WC Γ (.seq (.ops dr ops) (.cond x a b)) ρ st (fun X ρ2 st2 => X = .normal ∧ Φ ρ2 st2)) (h2 : ∀ ρ2 st2, Φ ρ2 st2 → WC Γ r ρ2 st2 Q) : WC Γ (.seq (.seq (.ops dr ops) (.cond x a b)) r) ρ st Q := by
  refine WC_seq (h1.mono ?_)
  rintro X ρ1 st1 ⟨rfl, h⟩
  exact h2 ρ1 st1 h
theorem WC_cutB {dr dr2 : Bool} {ops ops2 : List Op1} {x : A} {a b bb rr : C} {i : Nat} (Φ : (Nat → D) → Store → Prop) (h1 : WC Γ (.seq (.ops dr ops) (.cond x a b)) ρ st (fun X ρ2 st2 => X = .normal ∧ Φ ρ2 st2)) (h2 : ∀ ρ2 st2, Φ ρ2 st2 → WC Γ (.seq (.ops dr2 ops2) (.seq (.block i bb) rr)) ρ2 st2 Q) : WC Γ (.seq (.seq (.ops dr ops) (.cond x a b)) (.seq (.ops dr2 ops2) (.seq (.block i bb) rr))) ρ st Q := WC_cutOC Φ h1 h2
end
theorem mrg_e {A B : List Rt} (h : A = [] ∨ B = []) : mrg A B = A ++ B := by
  rcases h with rfl | rfl
  · rw [mrg_nl]; rfl
  · rw [mrg_nr, List.append_nil]
theorem sw_e {P A B R : List Rt} (h : A = [] ∨ B = []) : P ++ A ++ B ++ R = P ++ B ++ A ++ R := by
  rcases h with rfl | rfl <;> simp
/-- Where the two sides are parted. -/
theorem sym_parts {P A B R : List Rt} {a m b md i0 j0 s : Nat} (ha : a = P.length) (hm : m = a + A.length) (hb : b = m + B.length) (h1 : a < m) (h2 : m < b) (hmd : 2 * md ≤ a + b ∧ a + b ≤ 2 * md + 1) (hij : (md < m ∧ i0 = md + m - b ∧ j0 = md) ∨ (m ≤ md ∧ i0 = a ∧ j0 = m))
    (hA : Srt A) (hB : Srt B) {g : Nat → Bool} (hg : ∀ c y x, i0 ≤ c → c < j0 → (P ++ A ++ B ++ R)[c]? = some y → (P ++ A ++ B ++ R)[md + m - 1 - c]? = some x → g c = !ltR x y) (hc : Cut g i0 j0 s) :
    (∀ y ∈ B.take (md + m - s - m), ∀ x ∈ A.drop (s - a), ltR y x = true) ∧ (∀ x ∈ A.take (s - a), ∀ y ∈ B.drop (md + m - s - m), leR x y) := by
  have h0 := hc.lo
  have h9 := hc.hi
  have hAat : ∀ {c : Nat}, a ≤ c → c < m → (P ++ A ++ B ++ R)[c]? = A[c - a]? := fun {c} q1 q2 => by
    rw [List.append_assoc (P ++ A), ha]; exact seg_at (by omega) (by omega)
  have hBat : ∀ {c : Nat}, m ≤ c → c < b → (P ++ A ++ B ++ R)[c]? = B[c - m]? := fun {c} q1 q2 => by
    have hl : (P ++ A).length = m := by rw [List.length_append]; omega
    have := seg_at (U := P ++ A) (B := B) (R := R) (c := c) (by omega) (by omega)
    rw [hl] at this
    exact this
  constructor
  · intro y hy x hx
    obtain ⟨i, hi⟩ := List.mem_iff_getElem?.1 hy
    have hil : i < md + m - s - m := by
      have := (List.getElem?_eq_some_iff.mp hi).1
      rw [List.length_take] at this
      omega
    rw [List.getElem?_take_of_lt hil] at hi
    have hiB := (List.getElem?_eq_some_iff.mp hi).1
    obtain ⟨k, hk⟩ := List.mem_iff_getElem?.1 hx
    rw [List.getElem?_drop] at hk
    have hkA := (List.getElem?_eq_some_iff.mp hk).1
    have hs : s < j0 := by omega
    have hs1 : a ≤ s := by omega
    obtain ⟨u, hu⟩ : ∃ u, A[s - a]? = some u := ⟨_, List.getElem?_eq_getElem (by omega)⟩
    obtain ⟨v, hv⟩ : ∃ v, B[md + m - 1 - s - m]? = some v := ⟨_, List.getElem?_eq_getElem (by omega)⟩
    have hgs := hg s u v h0 hs ((hAat (by omega) (by omega)).trans hu) ((hBat (by omega) (by omega)).trans hv)
    rw [hc.af s (Nat.le_refl _) hs] at hgs
    have hvu : ltR v u = true := by simpa using hgs.symm
    exact lt_le (le_lt (srt_le hB hi hv (by omega)) hvu) (srt_le hA hu hk (by omega))
  · intro x hx y hy
    obtain ⟨i, hi⟩ := List.mem_iff_getElem?.1 hx
    have hil : i < s - a := by
      have := (List.getElem?_eq_some_iff.mp hi).1
      rw [List.length_take] at this
      omega
    rw [List.getElem?_take_of_lt hil] at hi
    have hiA := (List.getElem?_eq_some_iff.mp hi).1
    obtain ⟨k, hk⟩ := List.mem_iff_getElem?.1 hy
    rw [List.getElem?_drop] at hk
    have hkB := (List.getElem?_eq_some_iff.mp hk).1
    have hs : i0 < s := by omega
    obtain ⟨u, hu⟩ : ∃ u, A[s - 1 - a]? = some u := ⟨_, List.getElem?_eq_getElem (by omega)⟩
    obtain ⟨v, hv⟩ : ∃ v, B[md + m - 1 - (s - 1) - m]? = some v := ⟨_, List.getElem?_eq_getElem (by omega)⟩
    have hgs := hg (s - 1) u v (by omega) (by omega) ((hAat (by omega) (by omega)).trans hu) ((hBat (by omega) (by omega)).trans hv)
    rw [hc.be (s - 1) (by omega) (by omega)] at hgs
    have huv : leR u v := leR_iff.2 (by simpa using hgs.symm)
    exact leR_trans (leR_trans (srt_le hA hi hu (by omega)) huv) (srt_le hB hv hk (by omega))
end Go.Ord

/-
  slices' symMerge, on a row of routes: the walk.
-/
namespace Go.Ord
open Go.Ev
set_option linter.unusedVariables false
set_option linter.unusedSimpArgs false
def SymOK (p n c sz : Nat) : Prop := ∀ (P A B R : List Rt) (st : Store), A.length + B.length ≤ sz → 0 < A.length → 0 < B.length → Srt A → Srt B → n = (P ++ A ++ B ++ R).length → Short (P ++ A ++ B ++ R) → RowIs st p 2 ((P ++ A ++ B ++ R).map Rt.e) → ∀ a m b : Nat, a = P.length → m = a + A.length → b = m + B.length →
  EvRWX Γ 72 [.rs p 0 2 n c, .int .i64 a, .int .i64 m, .int .i64 b, .func 21 []] st (fun r st' => r = .tuple [] ∧ FrR st st' p ∧ RowIs st' p 2 ((P ++ mrg A B ++ R).map Rt.e))
set_option maxHeartbeats 16000000 in
theorem s_symG (p n c sz : Nat) (hnl : n ≤ 1000000) (ih : SymOK p n c sz) (P A B R : List Rt) (st : Store) (hsz : A.length + B.length ≤ sz + 1) (hA1 : 1 < A.length) (hB1 : 1 < B.length) (hA : Srt A) (hB : Srt B) (hn : n = (P ++ A ++ B ++ R).length) (hsh : Short (P ++ A ++ B ++ R)) (hR : RowIs st p 2 ((P ++ A ++ B ++ R).map Rt.e)) (a m b : Nat) (ha : a = P.length) (hm : m = a + A.length) (hb : b = m + B.length) :
    EvRWX Γ 72 [.rs p 0 2 n c, .int .i64 a, .int .i64 m, .int .i64 b, .func 21 []] st (fun r st' => r = .tuple [] ∧ FrR st st' p ∧ RowIs st' p 2 ((P ++ mrg A B ++ R).map Rt.e)) := by
  refine EvRWX_code rfl rfl ?_
  have hnb : b ≤ n := by rw [hn]; simp; omega
  have hsub1 : IntKind.i64.wrap ((m : Int) - (a : Int)) = ((m - a : Nat) : Int) := by rw [w64 (by omega)]; omega
  have hsub2 : IntKind.i64.wrap ((b : Int) - (m : Int)) = ((b - m : Nat) : Int) := by rw [w64 (by omega)]; omega
  have hne1 : ¬ ((m - a : Nat) : Int) = 1 := by omega
  have hne2 : ¬ ((b - m : Nat) : Int) = 1 := by omega
  have hsum : IntKind.i64.wrap ((a : Int) + (b : Int)) = ((a + b : Nat) : Int) := by rw [w64 (by omega)]; omega
  have hcv1 : IntKind.u64.wrap ((a + b : Nat) : Int) = ((a + b : Nat) : Int) := by
    show ((a + b : Nat) : Int) % 18446744073709551616 = _
    omega
  have hmd : 2 * ((a + b) / 2) ≤ a + b ∧ a + b ≤ 2 * ((a + b) / 2) + 1 := by omega
  have hshr : ((a + b : Nat) : Int).fdiv (2 ^ (Nat.min (1 : Int).toNat IntKind.u64.bits)) = (((a + b) / 2 : Nat) : Int) := by rw [shr1]; omega
  have hcv2 : IntKind.i64.wrap (((a + b) / 2 : Nat) : Int) = (((a + b) / 2 : Nat) : Int) := w64 (by omega)
  generalize hmdd : (a + b) / 2 = md at *
  have hnn : IntKind.i64.wrap ((md : Int) + (m : Int)) = ((md + m : Nat) : Int) := by rw [w64 (by omega)]; omega
  have hpp : IntKind.i64.wrap (((md + m : Nat) : Int) - 1) = ((md + m - 1 : Nat) : Int) := by rw [w64 (by omega)]; omega
  obtain ⟨i0, j0, hij⟩ : ∃ i0 j0, (md < m ∧ i0 = md + m - b ∧ j0 = md) ∨ (m ≤ md ∧ i0 = a ∧ j0 = m) := by
    by_cases h : md < m
    · exact ⟨_, _, .inl ⟨h, rfl, rfl⟩⟩
    · exact ⟨_, _, .inr ⟨by omega, rfl, rfl⟩⟩
  let g : Nat → Bool := fun c => match (P ++ A ++ B ++ R)[c]?, (P ++ A ++ B ++ R)[md + m - 1 - c]? with | some y, some x => !ltR x y | _, _ => false
  have hgd : ∀ c y x, i0 ≤ c → c < j0 → (P ++ A ++ B ++ R)[c]? = some y → (P ++ A ++ B ++ R)[md + m - 1 - c]? = some x → g c = !ltR x y := fun c y x _ _ h h' => by
    show (match (P ++ A ++ B ++ R)[c]?, (P ++ A ++ B ++ R)[md + m - 1 - c]? with | some y, some x => !ltR x y | _, _ => false) = _
    rw [h, h']
  have hAat : ∀ {c : Nat}, a ≤ c → c < m → (P ++ A ++ B ++ R)[c]? = A[c - a]? := fun {c} q1 q2 => by
    rw [List.append_assoc (P ++ A), ha]; exact seg_at (by omega) (by omega)
  have hBat : ∀ {c : Nat}, m ≤ c → c < b → (P ++ A ++ B ++ R)[c]? = B[c - m]? := fun {c} q1 q2 => by
    have hl : (P ++ A).length = m := by rw [List.length_append]; omega
    have := seg_at (U := P ++ A) (B := B) (R := R) (c := c) (by omega) (by omega)
    rw [hl] at this
    exact this
  have hmo : Mono g i0 j0 := fun c c' h1 h2 h3 h4 => by
    obtain ⟨y, hy⟩ : ∃ y, A[c - a]? = some y := ⟨_, List.getElem?_eq_getElem (by omega)⟩
    obtain ⟨y', hy'⟩ : ∃ y, A[c' - a]? = some y := ⟨_, List.getElem?_eq_getElem (by omega)⟩
    obtain ⟨x, hx⟩ : ∃ y, B[md + m - 1 - c - m]? = some y := ⟨_, List.getElem?_eq_getElem (by omega)⟩
    obtain ⟨x', hx'⟩ : ∃ y, B[md + m - 1 - c' - m]? = some y := ⟨_, List.getElem?_eq_getElem (by omega)⟩
    rw [hgd c' y' x' (by omega) h3 ((hAat (by omega) (by omega)).trans hy') ((hBat (by omega) (by omega)).trans hx')] at h4
    rw [hgd c y x h1 (by omega) ((hAat (by omega) (by omega)).trans hy) ((hBat (by omega) (by omega)).trans hx)]
    have h5 : leR y' x' := leR_iff.2 (by simpa using h4)
    have := leR_iff.1 (leR_trans (leR_trans (srt_le hA hy hy' (by omega)) h5) (srt_le hB hx' hx (by omega)))
    rw [this]
    rfl
  have hlo := l_b4 p n c (P ++ A ++ B ++ R) hnl hn hsh a m b md (md + m) (md + m - 1) (by omega) g (j0 - i0) i0 j0 (Nat.le_refl _) (by omega) (by omega) hmo hgd (fun c h1 h2 => by omega)
  have hsp := fun s => @sym_parts P A B R a m b md i0 j0 s ha hm hb (by omega) (by omega) hmd hij hA hB g hgd
  clear hgd hmo hAat hBat
  have hi0 : md < m → IntKind.i64.wrap (((md + m : Nat) : Int) - (b : Int)) = (i0 : Int) := fun h => by rw [w64 (by omega)]; omega
  repeat' (first
 | (refine I_WS ?_; first
 | refine W_sub (s := ((m - a : Nat) : Int)) rfl rfl rfl rfl hsub1 ?_
 | refine W_sub (s := ((b - m : Nat) : Int)) rfl rfl rfl rfl hsub2 ?_
 | refine W_eqlF rfl rfl rfl rfl hne1 ?_
 | refine W_eqlF rfl rfl rfl rfl hne2 ?_
 | refine W_add (s := ((a + b : Nat) : Int)) rfl rfl rfl rfl hsum ?_
 | refine W_add (s := ((md + m : Nat) : Int)) rfl rfl rfl rfl hnn ?_
 | refine W_conv (s := ((a + b : Nat) : Int)) rfl rfl rfl hcv1 ?_
 | refine W_shr (s := ((md : Nat) : Int)) rfl rfl rfl rfl (by decide) hshr ?_
 | refine W_conv (s := ((md : Nat) : Int)) rfl rfl rfl hcv2 ?_
 | (refine I_mov ?_; first
 | refine W_mov (v := .int _ _) rfl rfl rfl ?_)
 | (refine I_bin ?_; first
 | (refine W_gtr rfl rfl rfl rfl ?_ ?_ <;> intro _)
 | refine W_sub rfl rfl rfl rfl (by first | exact w64 (by omega) | rfl) ?_)
 | refine WS_nil ?_)
 | refine WC_cutB (Φ := fun ρ1 st1 => st1 = st ∧ ρ1 0 = .rs p 0 2 n c ∧ ρ1 1 = .int .i64 a ∧ ρ1 2 = .int .i64 m ∧ ρ1 3 = .int .i64 b ∧ ρ1 4 = .func 21 [] ∧ ρ1 18 = .int .i64 md ∧ ρ1 19 = .int .i64 (md + m : Nat) ∧ ρ1 20 = .int .i64 i0 ∧ ρ1 21 = .int .i64 j0) ?_ ?_
 | refine WC_seq ?_
 | refine WC_opsS ?_
 | refine WC_skip ?_
 | refine WC_condT rfl ?_
 | refine WC_condF rfl ?_)
  rotate_left 2
  · rintro ρ2 st2 ⟨rfl, k0, k1, k2, k3, k4, k18, k19, k20, k21⟩
    rw [← upd_self k0, ← upd_self k1, ← upd_self k2, ← upd_self k3, ← upd_self k4, ← upd_self k18, ← upd_self k19, ← upd_self k20, ← upd_self k21]
    repeat' (first
 | (refine I_WS ?_; first
 | refine W_sub (s := ((md + m - 1 : Nat) : Int)) rfl rfl rfl rfl hpp ?_
 | (refine I_mov ?_; first
 | refine W_mov (v := .int _ _) rfl rfl rfl ?_)
 | refine WS_nil ?_)
 | (refine hlo _ _ hR ?_ ?_ ?_ ?_ ?_ ?_ ?_ ?_ ?_ ?_ _ ?_ <;> first | rfl | (intro ρ3 s hcut q0 q1 q2 q3 q4 q18 q19 q22 q20))
 | refine WC_seq ?_
 | refine WC_opsS ?_
 | refine WC_block ?_)
    have hcs := hsp s hcut
    have hs0 := hcut.lo
    have hs9 := hcut.hi
    clear hsp hlo hcut hi0
    have hsa : a ≤ s := by omega
    have hsm : s ≤ m := by omega
    have hem : m ≤ md + m - s := by omega
    have heb : md + m - s ≤ b := by omega
    obtain ⟨A1, A2, rfl, hA1l, hA1e, hA2e⟩ : ∃ A1 A2, A = A1 ++ A2 ∧ A1.length = s - a ∧ A.take (s - a) = A1 ∧ A.drop (s - a) = A2 := ⟨_, _, (List.take_append_drop (s - a) A).symm, by rw [List.length_take]; omega, rfl, rfl⟩
    obtain ⟨B1, B2, rfl, hB1l, hB1e, hB2e⟩ : ∃ A1 A2, B = A1 ++ A2 ∧ A1.length = md + m - s - m ∧ B.take (md + m - s - m) = A1 ∧ B.drop (md + m - s - m) = A2 := ⟨_, _, (List.take_append_drop (md + m - s - m) B).symm, by rw [List.length_take]; omega, rfl, rfl⟩
    rw [hA1e, hA2e, hB1e, hB2e] at hcs
    have hsplit := mrg_split _ A1 B1 A2 B2 (Nat.le_refl _) hcs.1 hcs.2
    rw [hsplit]
    rw [List.length_append] at hm hb hA1 hB1
    rw [List.length_append, List.length_append] at hsz
    have hsA1 : Srt A1 := (List.pairwise_append.1 hA).1
    have hsA2 : Srt A2 := (List.pairwise_append.1 hA).2.1
    have hsB1 : Srt B1 := (List.pairwise_append.1 hB).1
    have hsB2 : Srt B2 := (List.pairwise_append.1 hB).2.1
    have hen : IntKind.i64.wrap (((md + m : Nat) : Int) - (s : Int)) = ((md + m - s : Nat) : Int) := by rw [w64 (by omega)]; omega
    have e1 : P ++ (A1 ++ A2) ++ (B1 ++ B2) ++ R = (P ++ A1) ++ A2 ++ B1 ++ (B2 ++ R) := by simp
    have e2 : (P ++ A1) ++ B1 ++ A2 ++ (B2 ++ R) = P ++ A1 ++ B1 ++ (A2 ++ B2 ++ R) := by simp
    have e3 : P ++ mrg A1 B1 ++ (A2 ++ B2 ++ R) = (P ++ mrg A1 B1) ++ A2 ++ B2 ++ R := by simp
    have hm1 : (mrg A1 B1).length = A1.length + B1.length := mrg_len _ A1 B1 (Nat.le_refl _)
    rw [e1] at hn hsh hR
    have hn2 : n = (P ++ A1 ++ B1 ++ (A2 ++ B2 ++ R)).length := by rw [hn]; simp; omega
    have hn3 : n = ((P ++ mrg A1 B1) ++ A2 ++ B2 ++ R).length := by rw [hn]; simp [hm1]; omega
    have hsh2 : Short (P ++ A1 ++ B1 ++ (A2 ++ B2 ++ R)) := short_perm hsh (fun r hr => by
      simp only [List.mem_append] at hr ⊢
      rcases hr with ((h | h) | h) | (h | h) | h <;> simp [h])
    have hsh3 : Short ((P ++ mrg A1 B1) ++ A2 ++ B2 ++ R) := short_perm hsh (fun r hr => by
      simp only [List.mem_append, mrg_mem r _ A1 B1 (Nat.le_refl _)] at hr ⊢
      rcases hr with (((h | h | h) | h) | h) | h <;> simp [h])
    rw [← upd_self q0, ← upd_self q1, ← upd_self q2, ← upd_self q3, ← upd_self q4, ← upd_self q18, ← upd_self q19, ← upd_self q20]
    have hA2l : A2.length = m - s := by omega
    have hB2l : B2.length = b - (md + m - s) := by omega
    generalize hE : md + m - s = en at *
    have hrot := fun h1 h2 => s_rotate p n c (P ++ A1) A2 B1 (B2 ++ R) st2 hnl h1 h2 hn hR s m en (by rw [List.length_append]; omega) (by rw [List.length_append, List.length_append]; omega) (by rw [List.length_append, List.length_append, List.length_append]; omega)
    have hnoRot : A2.length = 0 ∨ B1.length = 0 → RowIs st2 p 2 ((P ++ A1 ++ B1 ++ (A2 ++ B2 ++ R)).map Rt.e) := fun h => by
      have h' : A2 = [] ∨ B1 = [] := h.imp List.length_eq_zero_iff.1 List.length_eq_zero_iff.1
      rw [← e2, ← sw_e h']
      exact hR
    repeat' (first
 | (refine I_WS ?_; first
 | refine W_sub (s := ((en : Nat) : Int)) rfl rfl rfl rfl hen ?_
 | (refine I_mov ?_; first
 | refine W_skip rfl ?_
 | refine W_mov (v := .int _ _) rfl rfl rfl ?_
 | refine W_mov (v := .bool _) rfl rfl rfl ?_
 | refine W_mov (v := .func _ _) rfl rfl rfl ?_
 | refine W_mov (v := .rs _ _ _ _ _) rfl rfl rfl ?_)
 | (refine I_bin ?_; first
 | refine W_skip rfl ?_
 | (refine W_lss rfl rfl rfl rfl ?_ ?_ <;> intro _))
 | (refine I_call ?_; first
 | (refine W_callRWX rfl rfl rfl (hrot (by omega) (by omega)) ?_ <;> intro r1 st1 hp1))
 | (refine I_pick ?_; first
 | refine W_pick (v := .bool _) rfl rfl rfl rfl ?_)
 | refine WS_nil ?_)
 | refine WC_cutOC (Φ := fun ρ1 st1 => FrR st2 st1 p ∧ RowIs st1 p 2 ((P ++ A1 ++ B1 ++ (A2 ++ B2 ++ R)).map Rt.e) ∧ ρ1 0 = .rs p 0 2 n c ∧ ρ1 1 = .int .i64 a ∧ ρ1 3 = .int .i64 b ∧ ρ1 4 = .func 21 [] ∧ ρ1 18 = .int .i64 md ∧ ρ1 20 = .int .i64 s ∧ ρ1 24 = .int .i64 en) ?_ ?_
 | refine WC_seq ?_
 | refine WC_opsS ?_
 | refine WC_skip ?_
 | refine WC_condT rfl ?_
 | refine WC_condF rfl ?_)
    all_goals first
      | exact ⟨rfl, hp1.2.1, e2 ▸ hp1.2.2, rfl, rfl, rfl, rfl, rfl, rfl, rfl⟩
      | exact ⟨rfl, FrR.refl _ _, hnoRot (by omega), rfl, rfl, rfl, rfl, rfl, rfl, rfl⟩
      | skip
    rintro ρ3 st3 ⟨hF3, hR3, k0, k1, k3, k4, k18, k20, k24⟩
    have hrec1 := fun h1 h2 => ih P A1 B1 (A2 ++ B2 ++ R) st3 (by omega) h1 h2 hsA1 hsB1 hn2 hsh2 hR3 a s md ha (by omega) (by omega)
    have hno1 : A1.length = 0 ∨ B1.length = 0 → RowIs st3 p 2 (((P ++ mrg A1 B1) ++ A2 ++ B2 ++ R).map Rt.e) := fun h => by
      have h' : A1 = [] ∨ B1 = [] := h.imp List.length_eq_zero_iff.1 List.length_eq_zero_iff.1
      rw [← e3, mrg_e h', ← List.append_assoc P]
      exact hR3
    rw [← upd_self k0, ← upd_self k1, ← upd_self k3, ← upd_self k4, ← upd_self k18, ← upd_self k20, ← upd_self k24]
    repeat' (first
 | (refine I_WS ?_; first
 | (refine I_mov ?_; first
 | refine W_skip rfl ?_
 | refine W_mov (v := .int _ _) rfl rfl rfl ?_
 | refine W_mov (v := .bool _) rfl rfl rfl ?_
 | refine W_mov (v := .func _ _) rfl rfl rfl ?_
 | refine W_mov (v := .rs _ _ _ _ _) rfl rfl rfl ?_)
 | (refine I_bin ?_; first
 | refine W_skip rfl ?_
 | (refine W_lss rfl rfl rfl rfl ?_ ?_ <;> intro _))
 | (refine I_call ?_; first
 | (refine W_callRWX rfl rfl rfl (hrec1 (by omega) (by omega)) ?_ <;> intro r1 st1 hp1))
 | (refine I_pick ?_; first
 | refine W_pick (v := .bool _) rfl rfl rfl rfl ?_)
 | refine WS_nil ?_)
 | refine WC_cutOC (Φ := fun ρ1 st1 => FrR st2 st1 p ∧ RowIs st1 p 2 (((P ++ mrg A1 B1) ++ A2 ++ B2 ++ R).map Rt.e) ∧ ρ1 0 = .rs p 0 2 n c ∧ ρ1 3 = .int .i64 b ∧ ρ1 4 = .func 21 [] ∧ ρ1 18 = .int .i64 md ∧ ρ1 24 = .int .i64 en) ?_ ?_
 | refine WC_seq ?_
 | refine WC_opsS ?_
 | refine WC_skip ?_
 | refine WC_condT rfl ?_
 | refine WC_condF rfl ?_)
    all_goals first
      | exact ⟨rfl, hF3.trans hp1.2.1, e3 ▸ hp1.2.2, rfl, rfl, rfl, rfl, rfl⟩
      | exact ⟨rfl, hF3, hno1 (by omega), rfl, rfl, rfl, rfl, rfl⟩
      | skip
    rintro ρ4 st4 ⟨hF4, hR4, k0, k3, k4, k18, k24⟩
    have hrec2 := fun h1 h2 => ih (P ++ mrg A1 B1) A2 B2 R st4 (by omega) h1 h2 hsA2 hsB2 hn3 hsh3 hR4 md en b (by rw [List.length_append, hm1]; omega) (by omega) (by omega)
    have hno2 : A2.length = 0 ∨ B2.length = 0 → RowIs st4 p 2 ((P ++ (mrg A1 B1 ++ mrg A2 B2) ++ R).map Rt.e) := fun h => by
      have h' : A2 = [] ∨ B2 = [] := h.imp List.length_eq_zero_iff.1 List.length_eq_zero_iff.1
      rw [mrg_e h']
      simpa using hR4
    have e4 : (P ++ mrg A1 B1) ++ mrg A2 B2 ++ R = P ++ (mrg A1 B1 ++ mrg A2 B2) ++ R := by simp
    rw [← upd_self k0, ← upd_self k3, ← upd_self k4, ← upd_self k18, ← upd_self k24]
    repeat' (first
 | (refine I_WS ?_; first
 | (refine I_mov ?_; first
 | refine W_skip rfl ?_
 | refine W_mov (v := .int _ _) rfl rfl rfl ?_
 | refine W_mov (v := .bool _) rfl rfl rfl ?_
 | refine W_mov (v := .func _ _) rfl rfl rfl ?_
 | refine W_mov (v := .rs _ _ _ _ _) rfl rfl rfl ?_)
 | (refine I_bin ?_; first
 | refine W_skip rfl ?_
 | (refine W_lss rfl rfl rfl rfl ?_ ?_ <;> intro _))
 | (refine I_call ?_; first
 | (refine W_callRWX rfl rfl rfl (hrec2 (by omega) (by omega)) ?_ <;> intro r1 st1 hp1))
 | (refine I_pick ?_; first
 | refine W_pick (v := .bool _) rfl rfl rfl rfl ?_)
 | refine WS_nil ?_)
 | refine WC_seq ?_
 | refine WC_opsS ?_
 | refine WC_skip ?_
 | refine WC_condT rfl ?_
 | refine WC_condF rfl ?_)
    all_goals first
      | exact ⟨.inl rfl, _, rfl, rfl, hF4.trans hp1.2.1, e4 ▸ hp1.2.2⟩
      | exact ⟨.inl rfl, _, rfl, rfl, hF4, hno2 (by omega)⟩
  all_goals rcases hij with ⟨h1, h2, h3⟩ | ⟨h1, h2, h3⟩
  all_goals first | (exfalso; omega) | (refine ⟨rfl, rfl, ?_, ?_, ?_, ?_, ?_, ?_, ?_, ?_, ?_⟩ <;> first | rfl | exact congrArg (D.int .i64) (by omega))
theorem s_symMerge (p n c : Nat) (hnl : n ≤ 1000000) : ∀ sz, SymOK p n c sz := by
  intro sz
  induction sz with
  | zero => intro P A B R st h1 h2 h3; omega
  | succ sz ih =>
    intro P A B R st hsz hA0 hB0 hA hB hn hsh hR a m b ha hm hb
    by_cases h1 : A.length = 1
    · obtain ⟨x, rfl⟩ := List.length_eq_one_iff.1 h1
      subst ha
      exact s_sym1 p n c P x B R st hnl hB hn hsh hR m b hm (by rw [hb, hm]; rfl)
    · by_cases h2 : B.length = 1
      · obtain ⟨x, rfl⟩ := List.length_eq_one_iff.1 h2
        subst ha
        have e : P ++ A ++ [x] ++ R = P ++ A ++ x :: R := by simp
        rw [e] at hn hsh hR
        exact s_sym2 p n c P A x R st hnl h1 hA hn hsh hR m b hm hb
      · exact s_symG p n c sz hnl ih P A B R st hsz (by omega) (by omega) hA hB hn hsh hR a m b ha hm hb
end Go.Ord

/-
  slices' stable sort of any length: its loops.
-/
namespace Go.Ord
open Go.Ev
set_option linter.unusedVariables false
set_option linter.unusedSimpArgs false
set_option maxHeartbeats 8000000 in
theorem l_st0 (p n c : Nat) (hnl : n ≤ 1000000) (L : List Rt) : ∀ (N : Nat) (M D' : List Rt), M.length ≤ N → (∀ Z', Blk 20 M Z' → Blk 20 L (D' ++ Z')) → n = (D' ++ M).length → Short (D' ++ M) → ∀ (ρ : Nat → D) (st : Store), RowIs st p 2 ((D' ++ M).map Rt.e) →
    ρ 0 = .rs p 0 2 n c → ρ 1 = .int .i64 n → ρ 2 = .func 21 [] → ρ 6 = .int .i64 20 → ρ 7 = .int .i64 D'.length → ρ 8 = .int .i64 ((D'.length + 20 : Nat) : Int) → ∀ (Q : X → (Nat → D) → Store → Prop),
    (∀ ρ' st' D2 M2, FrR st st' p → RowIs st' p 2 ((D2 ++ M2).map Rt.e) → M2.length < 20 → (∀ Z', Blk 20 M2 Z' → Blk 20 L (D2 ++ Z')) → n = (D2 ++ M2).length → Short (D2 ++ M2) → ρ' 0 = .rs p 0 2 n c → ρ' 1 = .int .i64 n → ρ' 2 = .func 21 [] → ρ' 6 = .int .i64 20 → ρ' 7 = .int .i64 D2.length → Q (.exit 0) ρ' st') → WC Γ (.loop c_slices_stableCmpFunc_Route_l0) ρ st Q := by
  intro N
  induction N with
  | zero =>
    intro M D' hN hZ hn hsh ρ st hR h0 h1 h2 h6 h7 h8 Q hQ
    have hln : n = D'.length + M.length := by rw [hn, List.length_append]
    have hgt : (n : Int) < ((D'.length + 20 : Nat) : Int) := by omega
    rw [← upd_self h0, ← upd_self h1, ← upd_self h2, ← upd_self h6, ← upd_self h7, ← upd_self h8]
    refine WC_loop ?_
    repeat' (first
 | (refine I_WS ?_; first
 | refine W_leqF rfl rfl rfl rfl hgt ?_
 | (refine I_mov ?_; first
 | refine W_mov (v := .int _ _) rfl rfl rfl ?_)
 | refine WS_nil ?_)
 | refine WC_seq ?_
 | refine WC_opsS ?_
 | refine WC_condF rfl ?_
 | refine WC_exit ?_)
    refine hQ _ _ D' M (FrR.refl _ _) hR (by omega) hZ hn hsh ?_ ?_ ?_ ?_ ?_ <;> rfl
  | succ N ih =>
    intro M D' hN hZ hn hsh ρ st hR h0 h1 h2 h6 h7 h8 Q hQ
    have hln : n = D'.length + M.length := by rw [hn, List.length_append]
    by_cases hM : 20 ≤ M.length
    · have hle : ((D'.length + 20 : Nat) : Int) ≤ (n : Int) := by omega
      obtain ⟨Xs, M2, rfl, hXl⟩ : ∃ Xs M2, M = Xs ++ M2 ∧ Xs.length = 20 := ⟨M.take 20, M.drop 20, (List.take_append_drop _ _).symm, by rw [List.length_take]; omega⟩
      have e1 : D' ++ (Xs ++ M2) = D' ++ Xs ++ M2 := by simp
      have e2 : D' ++ ssort Xs ++ M2 = (D' ++ ssort Xs) ++ M2 := rfl
      rw [e1] at hn hsh hR
      rw [List.length_append] at hln hN
      have hin := s_insSort p n c D' Xs M2 st hnl hn hsh hR D'.length ((D'.length + 20 : Nat) : Int) rfl (by rw [List.length_append, hXl])
      have hlen : (D' ++ ssort Xs).length = D'.length + 20 := by rw [List.length_append, ssort_len, hXl]
      have hnx := ih M2 (D' ++ ssort Xs) (by omega) (fun Z' hz => by rw [List.append_assoc]; exact hZ _ (.cons hXl hz)) (by rw [hn]; simp [ssort_len]) (short_perm hsh (fun r hr => by
        simp only [List.mem_append, ssort_mem] at hr ⊢; exact hr))
      rw [hlen] at hnx
      have hadd : IntKind.i64.wrap (((D'.length + 20 : Nat) : Int) + 20) = ((D'.length + 20 + 20 : Nat) : Int) := by rw [w64 (by omega)]; omega
      clear ih
      rw [← upd_self h0, ← upd_self h1, ← upd_self h2, ← upd_self h6, ← upd_self h7, ← upd_self h8]
      refine WC_loop ?_
      repeat' (first
 | (refine I_WS ?_; first
 | refine W_leqT rfl rfl rfl rfl hle ?_
 | refine W_add (s := ((D'.length + 20 + 20 : Nat) : Int)) rfl rfl rfl rfl hadd ?_
 | (refine I_mov ?_; first
 | refine W_mov (v := .int _ _) rfl rfl rfl ?_
 | refine W_mov (v := .func _ _) rfl rfl rfl ?_
 | refine W_mov (v := .rs _ _ _ _ _) rfl rfl rfl ?_)
 | (refine I_call ?_; first
 | (refine W_callRWX rfl rfl rfl hin ?_ <;> intro r1 st1 hp1))
 | refine WS_nil ?_)
 | refine WC_seq ?_
 | refine WC_opsS ?_
 | refine WC_skip ?_
 | refine WC_condT rfl ?_
 | refine WC_block ?_)
      obtain ⟨rfl, hF1, hR1⟩ := hp1
      skip
      refine hnx _ _ hR1 ?_ ?_ ?_ ?_ ?_ ?_ Q (fun ρ' st' D2 M2 q1 q2 q3 q4 q5 q6 q7 q8 q9 q10 q11 => hQ ρ' st' D2 M2 (hF1.trans q1) q2 q3 q4 q5 q6 q7 q8 q9 q10 q11) <;> rfl
    · have hgt : (n : Int) < ((D'.length + 20 : Nat) : Int) := by omega
      rw [← upd_self h0, ← upd_self h1, ← upd_self h2, ← upd_self h6, ← upd_self h7, ← upd_self h8]
      refine WC_loop ?_
      repeat' (first
 | (refine I_WS ?_; first
 | refine W_leqF rfl rfl rfl rfl hgt ?_
 | (refine I_mov ?_; first
 | refine W_mov (v := .int _ _) rfl rfl rfl ?_)
 | refine WS_nil ?_)
 | refine WC_seq ?_
 | refine WC_opsS ?_
 | refine WC_condF rfl ?_
 | refine WC_exit ?_)
      refine hQ _ _ D' M (FrR.refl _ _) hR (by omega) hZ hn hsh ?_ ?_ ?_ ?_ ?_ <;> rfl
set_option maxHeartbeats 8000000 in
theorem l_st1 (p n c k : Nat) (hnl : n ≤ 1000000) (hk : 0 < k) (hkn : k < n) (L : List Rt) : ∀ (N : Nat) (M M' D' : List Rt), M.length ≤ N → Blk k M M' → (∀ Z', Blk (2 * k) M Z' → Blk (2 * k) L (D' ++ Z')) → n = (D' ++ M').length → Short (D' ++ M') → ∀ (ρ : Nat → D) (st : Store), RowIs st p 2 ((D' ++ M').map Rt.e) →
    ρ 0 = .rs p 0 2 n c → ρ 1 = .int .i64 n → ρ 2 = .func 21 [] → ρ 6 = .int .i64 k → ρ 7 = .int .i64 D'.length → ρ 8 = .int .i64 ((D'.length + 2 * k : Nat) : Int) → ∀ (Q : X → (Nat → D) → Store → Prop),
    (∀ ρ' st' D2 M2 M2', FrR st st' p → RowIs st' p 2 ((D2 ++ M2').map Rt.e) → M2.length < 2 * k → Blk k M2 M2' → (∀ Z', Blk (2 * k) M2 Z' → Blk (2 * k) L (D2 ++ Z')) → n = (D2 ++ M2').length → Short (D2 ++ M2') → ρ' 0 = .rs p 0 2 n c → ρ' 1 = .int .i64 n → ρ' 2 = .func 21 [] → ρ' 6 = .int .i64 k → ρ' 7 = .int .i64 D2.length → Q (.exit 4) ρ' st') → WC Γ (.loop c_slices_stableCmpFunc_Route_l1) ρ st Q := by
  intro N
  induction N with
  | zero =>
    intro M M' D' hN hB hZ hn hsh ρ st hR h0 h1 h2 h6 h7 h8 Q hQ
    have hln : n = D'.length + M.length := by rw [hn, List.length_append, hB.len]
    have hgt : (n : Int) < ((D'.length + 2 * k : Nat) : Int) := by omega
    rw [← upd_self h0, ← upd_self h1, ← upd_self h2, ← upd_self h6, ← upd_self h7, ← upd_self h8]
    refine WC_loop ?_
    repeat' (first
 | (refine I_WS ?_; first
 | refine W_leqF rfl rfl rfl rfl hgt ?_
 | (refine I_mov ?_; first
 | refine W_mov (v := .int _ _) rfl rfl rfl ?_)
 | refine WS_nil ?_)
 | refine WC_seq ?_
 | refine WC_opsS ?_
 | refine WC_condF rfl ?_
 | refine WC_exit ?_)
    refine hQ _ _ D' M M' (FrR.refl _ _) hR (by omega) hB hZ hn hsh ?_ ?_ ?_ ?_ ?_ <;> rfl
  | succ N ih =>
    intro M M' D' hN hB hZ hn hsh ρ st hR h0 h1 h2 h6 h7 h8 Q hQ
    have hln : n = D'.length + M.length := by rw [hn, List.length_append, hB.len]
    by_cases hM : 2 * k ≤ M.length
    · have hle : ((D'.length + 2 * k : Nat) : Int) ≤ (n : Int) := by omega
      obtain ⟨Xs, Ys, M2, M2', hXl, hYl, rfl, rfl, hB2⟩ := hB.two hk hM
      have e1 : D' ++ (ssort Xs ++ ssort Ys ++ M2') = D' ++ ssort Xs ++ ssort Ys ++ M2' := by simp
      rw [e1] at hn hsh hR
      rw [List.length_append, List.length_append] at hln hN
      have hX1 := ssort_len Xs
      have hY1 := ssort_len Ys
      have hin := s_symMerge p n c hnl _ D' (ssort Xs) (ssort Ys) M2' st (Nat.le_refl _) (by omega) (by omega) (ssort_srt _) (ssort_srt _) hn hsh hR D'.length (D'.length + k) (D'.length + 2 * k) rfl (by omega) (by omega)
      rw [← ssort_app] at hin
      have hXY : (Xs ++ Ys).length = 2 * k := by rw [List.length_append]; omega
      have hlen : (D' ++ ssort (Xs ++ Ys)).length = D'.length + 2 * k := by rw [List.length_append, ssort_len, hXY]
      have hnx := ih M2 M2' (D' ++ ssort (Xs ++ Ys)) (by omega) hB2 (fun Z' hz => by rw [List.append_assoc]; exact hZ _ (.cons hXY hz)) (by rw [List.length_append, hlen, hn, List.length_append, List.length_append, List.length_append]; omega) (short_perm hsh (fun r hr => by
        simp only [List.mem_append, ssort_mem] at hr ⊢
        rcases hr with (h | h | h) | h <;> simp [h]))
      rw [hlen] at hnx
      have hs1 : IntKind.i64.wrap ((D'.length : Int) + (k : Int)) = ((D'.length + k : Nat) : Int) := by rw [w64 (by omega)]; omega
      have hs2 : IntKind.i64.wrap (2 * (k : Int)) = ((2 * k : Nat) : Int) := by rw [w64 (by omega)]; omega
      have hs3 : IntKind.i64.wrap (((D'.length + 2 * k : Nat) : Int) + ((2 * k : Nat) : Int)) = ((D'.length + 2 * k + 2 * k : Nat) : Int) := by rw [w64 (by omega)]; omega
      clear ih
      rw [← upd_self h0, ← upd_self h1, ← upd_self h2, ← upd_self h6, ← upd_self h7, ← upd_self h8]
      refine WC_loop ?_
      repeat' (first
 | (refine I_WS ?_; first
 | refine W_leqT rfl rfl rfl rfl hle ?_
 | refine W_add (s := ((D'.length + k : Nat) : Int)) rfl rfl rfl rfl hs1 ?_
 | refine W_mul (s := ((2 * k : Nat) : Int)) rfl rfl rfl rfl hs2 ?_
 | refine W_add (s := ((D'.length + 2 * k + 2 * k : Nat) : Int)) rfl rfl rfl rfl hs3 ?_
 | (refine I_mov ?_; first
 | refine W_mov (v := .int _ _) rfl rfl rfl ?_
 | refine W_mov (v := .func _ _) rfl rfl rfl ?_
 | refine W_mov (v := .rs _ _ _ _ _) rfl rfl rfl ?_)
 | (refine I_call ?_; first
 | (refine W_callRWX rfl rfl rfl hin ?_ <;> intro r1 st1 hp1))
 | refine WS_nil ?_)
 | refine WC_seq ?_
 | refine WC_opsS ?_
 | refine WC_skip ?_
 | refine WC_condT rfl ?_
 | refine WC_block ?_)
      obtain ⟨rfl, hF1, hR1⟩ := hp1
      skip
      refine hnx _ _ hR1 ?_ ?_ ?_ ?_ ?_ ?_ Q (fun ρ' st' D2 M3 M3' q1 q2 q3 q4 q5 q6 q7 q8 q9 q10 q11 q12 => hQ ρ' st' D2 M3 M3' (hF1.trans q1) q2 q3 q4 q5 q6 q7 q8 q9 q10 q11 q12) <;> rfl
    · have hgt : (n : Int) < ((D'.length + 2 * k : Nat) : Int) := by omega
      rw [← upd_self h0, ← upd_self h1, ← upd_self h2, ← upd_self h6, ← upd_self h7, ← upd_self h8]
      refine WC_loop ?_
      repeat' (first
 | (refine I_WS ?_; first
 | refine W_leqF rfl rfl rfl rfl hgt ?_
 | (refine I_mov ?_; first
 | refine W_mov (v := .int _ _) rfl rfl rfl ?_)
 | refine WS_nil ?_)
 | refine WC_seq ?_
 | refine WC_opsS ?_
 | refine WC_condF rfl ?_
 | refine WC_exit ?_)
      refine hQ _ _ D' M M' (FrR.refl _ _) hR (by omega) hB hZ hn hsh ?_ ?_ ?_ ?_ ?_ <;> rfl
end Go.Ord

/-
  slices' stable sort of any length.
-/
namespace Go.Ord
open Go.Ev
set_option linter.unusedVariables false
set_option linter.unusedSimpArgs false
set_option maxHeartbeats 8000000 in
theorem l_st2 (p n c : Nat) (hnl : n ≤ 1000000) (L : List Rt) (hLn : n = L.length) : ∀ (N k : Nat) (L1 : List Rt), n - k ≤ N → 0 < k → Blk k L L1 → Short L1 → ∀ (ρ : Nat → D) (st : Store), RowIs st p 2 (L1.map Rt.e) →
    ρ 0 = .rs p 0 2 n c → ρ 1 = .int .i64 n → ρ 2 = .func 21 [] → ρ 6 = .int .i64 k → ∀ (Q : X → (Nat → D) → Store → Prop),
    (∀ ρ' st', FrR st st' p → RowIs st' p 2 ((ssort L).map Rt.e) → Q (.exit 2) ρ' st') → WC Γ (.loop c_slices_stableCmpFunc_Route_l2) ρ st Q := by
  intro N
  induction N with
  | zero =>
    intro k L1 hN hk hB hsh ρ st hR h0 h1 h2 h6 Q hQ
    have hge : (n : Int) ≤ (k : Int) := by omega
    rw [hB.one hk (by omega)] at hR
    rw [← upd_self h0, ← upd_self h1, ← upd_self h2, ← upd_self h6]
    refine WC_loop ?_
    repeat' (first
 | (refine I_WS ?_; first
 | refine W_lssF rfl rfl rfl rfl hge ?_
 | (refine I_mov ?_; first
 | refine W_mov (v := .int _ _) rfl rfl rfl ?_)
 | refine WS_nil ?_)
 | refine WC_seq ?_
 | refine WC_opsS ?_
 | refine WC_condF rfl ?_
 | refine WC_exit ?_)
    exact hQ _ _ (FrR.refl _ _) hR
  | succ N ih =>
    intro k L1 hN hk hB hsh ρ st hR h0 h1 h2 h6 Q hQ
    by_cases hkn : k < n
    · have hlt : (k : Int) < (n : Int) := by omega
      have hL1 : L1.length = n := by rw [hB.len, hLn]
      have hlo := l_st1 p n c k hnl hk hkn L L.length L L1 [] (Nat.le_refl _) hB (fun Z' hz => hz) (by rw [List.nil_append, hL1]) (by rw [List.nil_append]; exact hsh)
      have hs2 : IntKind.i64.wrap (2 * (k : Int)) = ((([] : List Rt).length + 2 * k : Nat) : Int) := by rw [w64 (by omega)]; simp
      have hs4 : IntKind.i64.wrap ((k : Int) * 2) = ((2 * k : Nat) : Int) := by rw [w64 (by omega)]; omega
      rw [← upd_self h0, ← upd_self h1, ← upd_self h2, ← upd_self h6]
      refine WC_loop ?_
      repeat' (first
 | (refine I_WS ?_; first
 | refine W_lssT rfl rfl rfl rfl hlt ?_
 | refine W_mul (s := ((([] : List Rt).length + 2 * k : Nat) : Int)) rfl rfl rfl rfl hs2 ?_
 | (refine I_mov ?_; first
 | refine W_mov (v := .int _ _) rfl rfl rfl ?_)
 | refine WS_nil ?_)
 | (refine hlo _ _ hR ?_ ?_ ?_ ?_ ?_ ?_ _ ?_ <;> first | rfl | (intro ρ2 st2 D2 M2 M2' q1 q2 q3 q4 q5 q6 q7 k0 k1 k2 k6 k7))
 | refine WC_seq ?_
 | refine WC_opsS ?_
 | refine WC_skip ?_
 | refine WC_condT rfl ?_
 | refine WC_block ?_)
      have hln : n = D2.length + M2.length := by rw [q6, List.length_append, q4.len]
      have hs1 : IntKind.i64.wrap ((D2.length : Int) + (k : Int)) = ((D2.length + k : Nat) : Int) := by rw [w64 (by omega)]; omega
      have hB2 : Blk (2 * k) L (D2 ++ ssort M2) := q5 _ (.of (by omega))
      have hnx := ih (2 * k) (D2 ++ ssort M2) (by omega) (by omega) hB2
      rw [← upd_self k0, ← upd_self k1, ← upd_self k2, ← upd_self k6, ← upd_self k7]
      by_cases hm : D2.length + k < n
      · have hlt2 : ((D2.length + k : Nat) : Int) < (n : Int) := by omega
        obtain ⟨Xs, Ys, hXl, hYl, rfl, rfl⟩ := q4.rest hk (by omega) q3
        have hX1 := ssort_len Xs
        have hY1 := ssort_len Ys
        rw [List.length_append] at hln
        have e1 : D2 ++ (ssort Xs ++ ssort Ys) = D2 ++ ssort Xs ++ ssort Ys ++ [] := by simp
        rw [e1] at q2 q6 q7
        have hin := s_symMerge p n c hnl _ D2 (ssort Xs) (ssort Ys) [] st2 (Nat.le_refl _) (by omega) (by omega) (ssort_srt _) (ssort_srt _) q6 q7 q2 D2.length (D2.length + k) n rfl (by omega) (by omega)
        rw [← ssort_app, List.append_nil] at hin
        have hsh' : Short (D2 ++ ssort (Xs ++ Ys)) := short_perm q7 (fun r hr => by
          simp only [List.mem_append, ssort_mem] at hr ⊢
          rcases hr with h | h | h <;> simp [h])
        repeat' (first
 | (refine I_WS ?_; first
 | refine W_add (s := ((D2.length + k : Nat) : Int)) rfl rfl rfl rfl hs1 ?_
 | refine W_lssT rfl rfl rfl rfl hlt2 ?_
 | refine W_mul (s := ((2 * k : Nat) : Int)) rfl rfl rfl rfl hs4 ?_
 | (refine I_mov ?_; first
 | refine W_mov (v := .int _ _) rfl rfl rfl ?_
 | refine W_mov (v := .func _ _) rfl rfl rfl ?_
 | refine W_mov (v := .rs _ _ _ _ _) rfl rfl rfl ?_)
 | (refine I_call ?_; first
 | (refine W_callRWX rfl rfl rfl hin ?_ <;> intro r1 st3 hp1))
 | refine WS_nil ?_)
 | refine WC_seq ?_
 | refine WC_opsS ?_
 | refine WC_condT rfl ?_)
        obtain ⟨rfl, hF3, hR3⟩ := hp1
        skip
        refine hnx hsh' _ _ hR3 ?_ ?_ ?_ ?_ Q (fun ρ' st' hF hR' => hQ ρ' st' ((q1.trans hF3).trans hF) hR') <;> rfl
      · have hge2 : (n : Int) ≤ ((D2.length + k : Nat) : Int) := by omega
        have hM2 := q4.one hk (by omega)
        subst hM2
        repeat' (first
 | (refine I_WS ?_; first
 | refine W_add (s := ((D2.length + k : Nat) : Int)) rfl rfl rfl rfl hs1 ?_
 | refine W_lssF rfl rfl rfl rfl hge2 ?_
 | refine W_mul (s := ((2 * k : Nat) : Int)) rfl rfl rfl rfl hs4 ?_
 | (refine I_mov ?_; first
 | refine W_mov (v := .int _ _) rfl rfl rfl ?_)
 | refine WS_nil ?_)
 | refine WC_seq ?_
 | refine WC_opsS ?_
 | refine WC_skip ?_
 | refine WC_condF rfl ?_)
        refine hnx q7 _ _ q2 ?_ ?_ ?_ ?_ Q (fun ρ' st' hF hR' => hQ ρ' st' (q1.trans hF) hR') <;> rfl
    · have hge : (n : Int) ≤ (k : Int) := by omega
      rw [hB.one hk (by omega)] at hR
      rw [← upd_self h0, ← upd_self h1, ← upd_self h2, ← upd_self h6]
      refine WC_loop ?_
      repeat' (first
 | (refine I_WS ?_; first
 | refine W_lssF rfl rfl rfl rfl hge ?_
 | (refine I_mov ?_; first
 | refine W_mov (v := .int _ _) rfl rfl rfl ?_)
 | refine WS_nil ?_)
 | refine WC_seq ?_
 | refine WC_opsS ?_
 | refine WC_condF rfl ?_
 | refine WC_exit ?_)
      exact hQ _ _ (FrR.refl _ _) hR
set_option maxHeartbeats 4000000 in
theorem s_stable : StabOK 1000000 := by
  intro L p c n st hL hsh hR hn hne
  refine EvRWX_code rfl rfl ?_
  have hlo := l_st0 p n c (by omega) L L.length L [] (Nat.le_refl _) (fun Z' hz => hz) (by rw [List.nil_append, hn]) (by rw [List.nil_append]; exact hsh)
  repeat' (first
 | (refine I_WS ?_; first
 | (refine I_mov ?_; first
 | refine W_mov (v := .int _ _) rfl rfl rfl ?_)
 | refine WS_nil ?_)
 | (refine hlo _ _ hR ?_ ?_ ?_ ?_ ?_ ?_ _ ?_ <;> first | rfl | (intro ρ2 st2 D2 M2 q1 q2 q3 q4 q5 q6 k0 k1 k2 k6 k7))
 | refine WC_seq ?_
 | refine WC_opsS ?_
 | refine WC_block ?_)
  have e1 : D2 ++ M2 = D2 ++ M2 ++ [] := (List.append_nil _).symm
  have hin := s_insSort p n c D2 M2 [] st2 (by omega) (by rw [q5, ← e1]) (by rw [← e1]; exact q6) (by rw [← e1]; exact q2) D2.length n rfl (by rw [q5])
  rw [List.append_nil] at hin
  have hB := q4 _ (.of (Nat.le_of_lt q3))
  have hlo2 := l_st2 p n c (by omega) L hn n 20 (D2 ++ ssort M2) (by omega) (by decide) hB (short_perm q6 (fun r hr => by
    simp only [List.mem_append, ssort_mem] at hr ⊢; exact hr))
  rw [← upd_self k0, ← upd_self k1, ← upd_self k2, ← upd_self k6, ← upd_self k7]
  repeat' (first
 | (refine I_WS ?_; first
 | (refine I_mov ?_; first
 | refine W_mov (v := .int _ _) rfl rfl rfl ?_
 | refine W_mov (v := .func _ _) rfl rfl rfl ?_
 | refine W_mov (v := .rs _ _ _ _ _) rfl rfl rfl ?_)
 | (refine I_call ?_; first
 | (refine W_callRWX rfl rfl rfl hin ?_ <;> intro r1 st3 hp1))
 | refine WS_nil ?_)
 | (refine hlo2 _ _ hp1.2.2 ?_ ?_ ?_ ?_ _ ?_ <;> first | rfl | (intro ρ4 st4 hF4 hR4))
 | refine WC_block ?_)
  exact ⟨.inl rfl, _, rfl, rfl, (q1.trans hp1.2.1).trans hF4, hR4⟩
end Go.Ord

/-
  The law OrderSorts: its first loop.
-/
namespace Go.Ord
open Go.Ev
set_option linter.unusedVariables false
set_option linter.unusedSimpArgs false
theorem str_lt {S : List Rt} (h : Str S) {i : Nat} {x y : Rt} (hx : S[i]? = some x) (hy : S[i + 1]? = some y) : cmpR x.hs x.ar y.hs y.ar = -1 := by
  obtain ⟨h1, rfl⟩ := List.getElem?_eq_some_iff.mp hx
  obtain ⟨h2, rfl⟩ := List.getElem?_eq_some_iff.mp hy
  have h3 := ltR_iff.1 (List.pairwise_iff_getElem.1 h i (i + 1) h1 h2 (Nat.lt_succ_self i))
  have h4 := (cmpR_range (S[i]).hs (S[i]).ar (S[i + 1]).hs (S[i + 1]).ar).1
  omega
set_option maxHeartbeats 4000000 in
theorem l_so0 (S L : List Rt) (hS : Str S) (hsh : Short S) (hl : S.length ≤ 1000000) (t : Tok) (s : Nat) (hs : s = 2 ∨ S = []) (d0 d3 : D) : ∀ (N i : Nat), S.length - i ≤ N → ∀ (ρ : Nat → D) (st : Store), ρ 0 = d0 → ρ 3 = d3 → ρ 5 = .slice t s (S.map Rt.e) → ρ 6 = .int .i64 ((i + 1 : Nat) : Int) → ∀ (Q : X → (Nat → D) → Store → Prop),
    (∀ ρ', ρ' 0 = d0 → ρ' 3 = d3 → ρ' 5 = .slice t s (S.map Rt.e) → Q (.exit 0) ρ' st) → WC Γ (.loop c_feluccalaw13_OrderSorts_l0) ρ st Q := by
  intro N
  induction N with
  | zero =>
    intro i hN ρ st h0 h3 h5 h6 Q hQ
    have hge : ((S.length : Nat) : Int) ≤ ((i + 1 : Nat) : Int) := by omega
    rw [← upd_self h0, ← upd_self h3, ← upd_self h5, ← upd_self h6]
    refine WC_loop ?_
    repeat' (first
 | (refine I_WS ?_; first
 | refine W_lenM rfl rfl rfl ?_
 | refine W_lssF rfl rfl rfl rfl hge ?_
 | (refine I_mov ?_; first
 | refine W_mov (v := .int _ _) rfl rfl rfl ?_
 | refine W_mov (v := .slice _ _ _) rfl rfl rfl ?_)
 | refine WS_nil ?_)
 | refine WC_seq ?_
 | refine WC_opsS ?_
 | refine WC_condF rfl ?_
 | refine WC_exit ?_)
    refine hQ _ ?_ ?_ ?_ <;> rfl
  | succ N ih =>
    intro i hN ρ st h0 h3 h5 h6 Q hQ
    by_cases hi : i + 1 < S.length
    · have hlt : ((i + 1 : Nat) : Int) < ((S.length : Nat) : Int) := by omega
      obtain ⟨x, hx⟩ : ∃ x, S[i]? = some x := ⟨_, List.getElem?_eq_getElem (by omega)⟩
      obtain ⟨y, hy⟩ : ∃ x, S[i + 1]? = some x := ⟨_, List.getElem?_eq_getElem (by omega)⟩
      have hs2 : s = 2 := by rcases hs with h | h; exact h; rw [h] at hi; simp at hi
      have hxy := str_lt hS hx hy
      have hC := fun t t' => s_CompareR x.hs x.ar y.hs y.ar (hsh x (List.mem_of_getElem? hx)) (hsh y (List.mem_of_getElem? hy)) t t' 3 3 (.inl rfl) (.inl rfl)
      rw [hxy] at hC
      have hsub : IntKind.i64.wrap (((i + 1 : Nat) : Int) - 1) = ((i : Nat) : Int) := by rw [w64 (by omega)]; omega
      have hadd : IntKind.i64.wrap (((i + 1 : Nat) : Int) + 1) = ((i + 1 + 1 : Nat) : Int) := by rw [w64 (by omega)]; omega
      have hl0 : i < (S.map Rt.e).length := by rw [List.length_map]; omega
      have hl1 : i + 1 < (S.map Rt.e).length := by rw [List.length_map]; omega
      have hnx := ih (i + 1) (by omega)
      clear ih
      rw [← upd_self h0, ← upd_self h3, ← upd_self h5, ← upd_self h6]
      refine WC_loop ?_
      repeat' (first
 | (refine I_WS ?_; first
 | refine W_lenM rfl rfl rfl ?_
 | refine W_lssT rfl rfl rfl rfl hlt ?_
 | refine W_sub (s := ((i : Nat) : Int)) rfl rfl rfl rfl hsub ?_
 | refine W_add (s := ((i + 1 + 1 : Nat) : Int)) rfl rfl rfl rfl hadd ?_
 | refine W_iaddr (j := i) rfl rfl rfl rfl hs2 hl0 ?_
 | refine W_iaddr (j := i + 1) rfl rfl rfl rfl hs2 hl1 ?_
 | (refine I_mov ?_; first
 | refine W_mov (v := .int _ _) rfl rfl rfl ?_
 | refine W_mov (v := .slice _ _ _) rfl rfl rfl ?_)
 | (refine I_bin ?_; first
 | refine W_neqF rfl rfl rfl rfl (by omega) ?_)
 | (refine I_load ?_; first
 | refine W_loadE (agg := true) (d := .agg [_, _]) rfl rfl rfl hx rfl ?_
 | refine W_loadE (agg := true) (d := .agg [_, _]) rfl rfl rfl hy rfl ?_)
 | (refine I_call ?_; first
 | refine W_call rfl rfl rfl (hC _ _) rfl rfl ?_)
 | refine WS_nil ?_)
 | refine okF_intro (okFlags_onlyR rfl) ?_
 | refine WC_seq ?_
 | refine WC_opsS ?_
 | refine WC_drawS ?_
 | refine WC_skip ?_
 | refine WC_condT rfl ?_
 | refine WC_condF rfl ?_
 | refine WC_block ?_)
      refine hnx _ _ ?_ ?_ ?_ ?_ Q hQ <;> rfl
    · have hge : ((S.length : Nat) : Int) ≤ ((i + 1 : Nat) : Int) := by omega
      rw [← upd_self h0, ← upd_self h3, ← upd_self h5, ← upd_self h6]
      refine WC_loop ?_
      repeat' (first
 | (refine I_WS ?_; first
 | refine W_lenM rfl rfl rfl ?_
 | refine W_lssF rfl rfl rfl rfl hge ?_
 | (refine I_mov ?_; first
 | refine W_mov (v := .int _ _) rfl rfl rfl ?_
 | refine W_mov (v := .slice _ _ _) rfl rfl rfl ?_)
 | refine WS_nil ?_)
 | refine WC_seq ?_
 | refine WC_opsS ?_
 | refine WC_condF rfl ?_
 | refine WC_exit ?_)
      refine hQ _ ?_ ?_ ?_ <;> rfl
set_option maxHeartbeats 4000000 in
theorem l_so1 (S L : List Rt) (r : Rt) (hrl : r.hs.length ≤ 1000000) (hsh : Short S) (hl : S.length ≤ 1000000) (t t' : Tok) (s s' : Nat) (hs : s = 2 ∨ S = []) (hs' : s' = 2 ∨ L = []) (d3 : D) (j : Nat) (hr : L[j]? = some r) : ∀ (T A0 : List Rt), S = A0 ++ T → ∀ (ρ : Nat → D) (st : Store), ρ 0 = .slice t' s' (L.map Rt.e) → ρ 3 = d3 → ρ 5 = .slice t s (S.map Rt.e) → ρ 7 = .int .i64 j → ρ 8 = .int .i64 ((A0.countP (fun y => eqR y r) : Nat) : Int) → ρ 9 = .int .i64 A0.length → ∀ (Q : X → (Nat → D) → Store → Prop),
    (∀ ρ', ρ' 0 = .slice t' s' (L.map Rt.e) → ρ' 3 = d3 → ρ' 5 = .slice t s (S.map Rt.e) → ρ' 7 = .int .i64 j → ρ' 8 = .int .i64 ((S.countP (fun y => eqR y r) : Nat) : Int) → Q (.exit 4) ρ' st) → WC Γ (.loop c_feluccalaw13_OrderSorts_l1) ρ st Q := by
  intro T
  induction T with
  | nil =>
    intro A0 hS ρ st h0 h3 h5 h7 h8 h9 Q hQ
    rw [List.append_nil] at hS
    subst hS
    rw [← upd_self h0, ← upd_self h3, ← upd_self h5, ← upd_self h7, ← upd_self h8, ← upd_self h9]
    refine WC_loop ?_
    repeat' (first
 | (refine I_WS ?_; first
 | refine W_lenM rfl rfl rfl ?_
 | (refine I_mov ?_; first
 | refine W_mov (v := .int _ _) rfl rfl rfl ?_
 | refine W_mov (v := .slice _ _ _) rfl rfl rfl ?_)
 | (refine I_bin ?_; first
 | refine W_lssF rfl rfl rfl rfl (by omega) ?_)
 | refine WS_nil ?_)
 | refine WC_seq ?_
 | refine WC_opsS ?_
 | refine WC_condF rfl ?_
 | refine WC_exit ?_)
    all_goals first | (exfalso; omega) | (refine hQ _ ?_ ?_ ?_ ?_ ?_ <;> rfl)
  | cons x T ih =>
    intro A0 hS ρ st h0 h3 h5 h7 h8 h9 Q hQ
    have hi : A0.length < S.length := by rw [hS]; simp
    have hlt : (A0.length : Int) < ((S.length : Nat) : Int) := by omega
    have hx : S[A0.length]? = some x := by rw [hS]; simp
    have hs2 : s = 2 := by rcases hs with h | h; exact h; rw [h] at hi; simp at hi
    have hjl := (List.getElem?_eq_some_iff.mp hr).1
    have hs2' : s' = 2 := by rcases hs' with h | h; exact h; rw [h] at hjl; simp at hjl
    have hC := fun t t' => s_CompareR x.hs x.ar r.hs r.ar (hsh x (List.mem_of_getElem? hx)) hrl t t' 3 3 (.inl rfl) (.inl rfl)
    have hcl : A0.countP (fun y => eqR y r) ≤ A0.length := List.countP_le_length
    have hl0 : A0.length < (S.map Rt.e).length := by rw [List.length_map]; omega
    have hl1 : j < (L.map Rt.e).length := by rw [List.length_map]; omega
    have hadd : IntKind.i64.wrap ((A0.length : Int) + 1) = ((A0 ++ [x]).length : Nat) := by rw [w64 (by omega)]; simp
    have hadd2 : IntKind.i64.wrap (((A0.countP (fun y => eqR y r) : Nat) : Int) + 1) = ((A0.countP (fun y => eqR y r) + 1 : Nat) : Int) := by rw [w64 (by omega)]; omega
    have hnx := ih (A0 ++ [x]) (by rw [hS]; simp)
    rw [List.countP_append, List.countP_singleton] at hnx
    clear ih
    generalize A0.countP (fun y => eqR y r) = cn at *
    rw [← upd_self h0, ← upd_self h3, ← upd_self h5, ← upd_self h7, ← upd_self h8, ← upd_self h9]
    refine WC_loop ?_
    by_cases he : eqR x r = true
    · rw [if_pos he] at hnx
      rw [eqR_iff.1 he] at hC
      repeat' (first
 | (refine I_WS ?_; first
 | refine W_lenM rfl rfl rfl ?_
 | refine W_lssT rfl rfl rfl rfl hlt ?_
 | refine W_add (s := (((A0 ++ [x]).length : Nat) : Int)) rfl rfl rfl rfl hadd ?_
 | refine W_add (s := ((cn + 1 : Nat) : Int)) rfl rfl rfl rfl hadd2 ?_
 | refine W_iaddr (j := A0.length) rfl rfl rfl rfl hs2 hl0 ?_
 | refine W_iaddr (j := j) rfl rfl rfl rfl hs2' hl1 ?_
 | (refine I_mov ?_; first
 | refine W_mov (v := .int _ _) rfl rfl rfl ?_
 | refine W_mov (v := .slice _ _ _) rfl rfl rfl ?_)
 | (refine I_bin ?_; first
 | refine W_eqlT rfl rfl rfl rfl (by omega) ?_)
 | (refine I_load ?_; first
 | refine W_loadE (agg := true) (d := .agg [_, _]) rfl rfl rfl hx rfl ?_
 | refine W_loadE (agg := true) (d := .agg [_, _]) rfl rfl rfl hr rfl ?_)
 | (refine I_call ?_; first
 | refine W_call rfl rfl rfl (hC _ _) rfl rfl ?_)
 | refine WS_nil ?_)
 | refine okF_intro (okFlags_onlyR rfl) ?_
 | refine WC_seq ?_
 | refine WC_opsS ?_
 | refine WC_drawS ?_
 | refine WC_skip ?_
 | refine WC_condT rfl ?_
 | refine WC_block ?_)
      all_goals first | (exfalso; omega) | (refine hnx _ _ ?_ ?_ ?_ ?_ ?_ ?_ Q hQ <;> rfl)
    · rw [if_neg he, Nat.add_zero] at hnx
      have hne : ¬ cmpR x.hs x.ar r.hs r.ar = 0 := fun h => he (eqR_iff.2 h)
      generalize cmpR x.hs x.ar r.hs r.ar = cc at *
      repeat' (first
 | (refine I_WS ?_; first
 | refine W_lenM rfl rfl rfl ?_
 | refine W_lssT rfl rfl rfl rfl hlt ?_
 | refine W_eqlF rfl rfl rfl rfl hne ?_
 | refine W_add (s := (((A0 ++ [x]).length : Nat) : Int)) rfl rfl rfl rfl hadd ?_
 | refine W_iaddr (j := A0.length) rfl rfl rfl rfl hs2 hl0 ?_
 | refine W_iaddr (j := j) rfl rfl rfl rfl hs2' hl1 ?_
 | (refine I_mov ?_; first
 | refine W_mov (v := .int _ _) rfl rfl rfl ?_
 | refine W_mov (v := .slice _ _ _) rfl rfl rfl ?_)
 | (refine I_load ?_; first
 | refine W_loadE (agg := true) (d := .agg [_, _]) rfl rfl rfl hx rfl ?_
 | refine W_loadE (agg := true) (d := .agg [_, _]) rfl rfl rfl hr rfl ?_)
 | (refine I_call ?_; first
 | refine W_call rfl rfl rfl (hC _ _) rfl rfl ?_)
 | refine WS_nil ?_)
 | refine okF_intro (okFlags_onlyR rfl) ?_
 | refine WC_seq ?_
 | refine WC_opsS ?_
 | refine WC_drawS ?_
 | refine WC_skip ?_
 | refine WC_condT rfl ?_
 | refine WC_condF rfl ?_
 | refine WC_block ?_)
      all_goals first | (exfalso; omega) | (refine hnx _ _ ?_ ?_ ?_ ?_ ?_ ?_ Q hQ <;> rfl)
end Go.Ord

/-
  Rows of routes are the same.
-/
namespace Go.Ord
open Go.Ev
set_option linter.unusedVariables false
set_option linter.unusedSimpArgs false
instance : DecidableEq Rt := fun a b => decidable_of_iff (a.ar = b.ar ∧ a.hs = b.hs) (by
  cases a
  cases b
  simp
  exact and_comm)
theorem Rt.ext' {a b : Rt} : (a.ar = b.ar ∧ a.hs = b.hs) ↔ a = b := by
  cases a
  cases b
  simp
  exact and_comm
set_option maxHeartbeats 4000000 in
theorem l_eqf (a b : List Rt) (hl : a.length ≤ 1000000) (hsh : Short a) (hab : a.length = b.length) (t t' t2 : Tok) (sa sb : Nat) (ha : sa = 2 ∨ a = []) (hb : sb = 2 ∨ b = []) : ∀ (m i : Nat), a.length - i = m → i ≤ a.length → a.take i = b.take i →
    ∀ (ρ : Nat → D) (st : Store) (hlim : st.lim ≤ st.next) (h1 : ρ 1 = .slice t' sb (b.map Rt.e)) (h2 : ρ 2 = .func 25 []) (h15 : ρ 15 = .slice t2 sa (a.map Rt.e)) (h16 : ρ 16 = .int .i64 a.length) (h17 : ρ 17 = .int .i64 i) (Q : X → (Nat → D) → Store → Prop),
    (a = b → ∀ ρ' st', Q (.exit 0) ρ' st') → (a ≠ b → ∀ ρ' st', ρ' 6 = .bool false → Q .ret ρ' st') → WC Γ (.loop c_slices_EqualFunc_Route_l0) ρ st Q := by
  intro m
  induction m with
  | zero =>
    intro i hm hi he ρ st hlim h1 h2 h15 h16 h17 Q hQ hQ2
    rw [← upd_self h1, ← upd_self h2, ← upd_self h15, ← upd_self h16, ← upd_self h17]
    refine WC_loop ?_
    repeat' (first
 | (refine I_WS ?_; first
 | (refine I_bin ?_; first
 | refine W_lssF rfl rfl rfl rfl (by omega) ?_)
 | refine WS_nil ?_)
 | refine WC_seq ?_
 | refine WC_opsS ?_
 | refine WC_condF rfl ?_
 | refine WC_exit ?_)
    refine hQ ?_ _ _
    rw [List.take_of_length_le (by omega), List.take_of_length_le (by omega)] at he
    exact he
  | succ m ih =>
    intro i hm hi he ρ st hlim h1 h2 h15 h16 h17 Q hQ hQ2
    have hlim2 : st.lim ≤ st.next + 1 := Nat.le_succ_of_le hlim
    have hn1 : st.next ≠ st.next + 1 := by omega
    have hlim3 : st.lim ≤ st.next + 1 + 1 := Nat.le_succ_of_le hlim2
    obtain ⟨x, hx⟩ : ∃ v, a[i]? = some v := ⟨_, List.getElem?_eq_getElem (by omega)⟩
    obtain ⟨y, hy⟩ : ∃ v, b[i]? = some v := ⟨_, List.getElem?_eq_getElem (by omega)⟩
    have hz : sa = 2 := ha.resolve_right (by rintro rfl; simp at hx)
    have hz2 : sb = 2 := hb.resolve_right (by rintro rfl; simp at hy)
    subst hz hz2
    have hpa : i < (a.map Rt.e).length := by simp; omega
    have hpb : i < (b.map Rt.e).length := by simp; omega
    have hltl : (i : Int) < a.length := by omega
    have hS := fun t t' => s_SameR x.hs y.hs x.ar y.ar (Nat.le_trans (hsh x (List.mem_of_getElem? hx)) (by decide)) t t' 3 3 (.inl rfl) (.inl rfl)
    have hadd : IntKind.i64.wrap ((i : Int) + 1) = ((i + 1 : Nat) : Int) := by rw [w64 (by omega)]; omega
    rw [← upd_self h1, ← upd_self h2, ← upd_self h15, ← upd_self h16, ← upd_self h17]
    refine WC_loop ?_
    by_cases hxy : x.ar = y.ar ∧ x.hs = y.hs
    · rw [decide_eq_true hxy] at hS
      have hnx := ih (i + 1) (by omega) (by omega) (by rw [List.take_add_one, List.take_add_one, he, hx, hy, Rt.ext'.1 hxy])
      clear ih
      repeat' (first
 | (refine I_WS ?_; first
 | refine W_lssT rfl rfl rfl rfl hltl ?_
 | refine W_add (s := ((i + 1 : Nat) : Int)) rfl rfl rfl rfl hadd ?_
 | refine W_iaddr (j := i) rfl rfl rfl rfl rfl hpa ?_
 | refine W_iaddr (j := i) rfl rfl rfl rfl rfl hpb ?_
 | (refine I_mov ?_; first
 | refine W_mov (v := .int _ _) rfl rfl rfl ?_
 | refine W_mov (v := .slice _ _ _) rfl rfl rfl ?_
 | refine W_mov (v := .func _ _) rfl rfl rfl ?_)
 | (refine I_load ?_; first
 | refine W_loadE (agg := true) (d := .agg [_, _]) rfl rfl rfl hx rfl ?_
 | refine W_loadE (agg := true) (d := .agg [_, _]) rfl rfl rfl hy rfl ?_
 | refine W_load (agg := true) (d := .agg [_, _]) rfl rfl rfl (bxs hn1 (bxs hn1 (bxc rfl))) hlim rfl ?_
 | refine W_load (agg := true) (d := .agg [_, _]) rfl rfl rfl (bxc rfl) hlim2 rfl ?_)
 | (refine I_call ?_; first
 | refine W_call rfl rfl rfl (hS _ _) rfl rfl ?_)
 | (refine I_store ?_; first
 | refine W_store (cs' := [_, _]) rfl rfl (upd_same _ _ _) rfl (by first | exact Nat.zero_le _ | assumption | exact Nat.le_trans hlim (Nat.zero_le _) | omega) rfl rfl rfl ?_)
 | refine W_not rfl rfl rfl ?_
 | refine W_alloc rfl rfl ?_
 | refine WS_nil ?_)
 | refine WC_seq ?_
 | refine WC_opsS ?_
 | refine WC_skip ?_
 | refine WC_condT rfl ?_
 | refine WC_condF rfl ?_
 | refine WC_block ?_)
      refine hnx _ _ ?_ ?_ ?_ ?_ ?_ ?_ Q hQ hQ2 <;> first | exact hlim3 | rfl
    · rw [decide_eq_false hxy] at hS
      clear ih
      have hne : a ≠ b := fun hab => hxy (by
        subst hab
        rw [hx] at hy
        cases hy
        exact ⟨rfl, rfl⟩)
      repeat' (first
 | (refine I_WS ?_; first
 | refine W_lssT rfl rfl rfl rfl hltl ?_
 | refine W_iaddr (j := i) rfl rfl rfl rfl rfl hpa ?_
 | refine W_iaddr (j := i) rfl rfl rfl rfl rfl hpb ?_
 | (refine I_mov ?_; first
 | refine W_mov (v := .int _ _) rfl rfl rfl ?_
 | refine W_mov (v := .bool _) rfl rfl rfl ?_
 | refine W_mov (v := .slice _ _ _) rfl rfl rfl ?_
 | refine W_mov (v := .func _ _) rfl rfl rfl ?_)
 | (refine I_load ?_; first
 | refine W_loadE (agg := true) (d := .agg [_, _]) rfl rfl rfl hx rfl ?_
 | refine W_loadE (agg := true) (d := .agg [_, _]) rfl rfl rfl hy rfl ?_
 | refine W_load (agg := true) (d := .agg [_, _]) rfl rfl rfl (bxs hn1 (bxs hn1 (bxc rfl))) hlim rfl ?_
 | refine W_load (agg := true) (d := .agg [_, _]) rfl rfl rfl (bxc rfl) hlim2 rfl ?_)
 | (refine I_call ?_; first
 | refine W_call rfl rfl rfl (hS _ _) rfl rfl ?_)
 | (refine I_store ?_; first
 | refine W_store (cs' := [_, _]) rfl rfl (upd_same _ _ _) rfl (by first | exact Nat.zero_le _ | assumption | exact Nat.le_trans hlim (Nat.zero_le _) | omega) rfl rfl rfl ?_)
 | refine W_not rfl rfl rfl ?_
 | refine W_alloc rfl rfl ?_
 | refine WS_nil ?_)
 | refine WC_seq ?_
 | refine WC_opsS ?_
 | refine WC_skip ?_
 | refine WC_condT rfl ?_
 | refine WC_block ?_
 | refine WC_ret ?_)
      exact hQ2 hne _ _ rfl
theorem s_eqf (a b : List Rt) (hl : a.length ≤ 1000000) (hsh : Short a) (t t' : Tok) (sa sb : Nat) (ha : sa = 2 ∨ a = []) (hb : sb = 2 ∨ b = []) : EvP Γ 42 [.slice t sa (a.map Rt.e), .slice t' sb (b.map Rt.e), .func 25 []] (.bool (decide (a = b))) := by
  refine EvP_code rfl rfl ?_
  by_cases hab : a.length = b.length
  · have hab' : (a.length : Int) = b.length := by omega
    have hlo := fun t t' t2 => l_eqf a b hl hsh hab t t' t2 sa sb ha hb a.length 0 (by omega) (by omega) rfl
    repeat' (first
 | (refine I_WS ?_; first
 | refine W_lenM rfl rfl rfl ?_
 | (refine I_mov ?_; first
 | refine W_mov (v := .int _ _) rfl rfl rfl ?_
 | refine W_mov (v := .bool _) rfl rfl rfl ?_
 | refine W_mov (v := .slice _ _ _) rfl rfl rfl ?_)
 | (refine I_bin ?_; first
 | refine W_neqF rfl rfl rfl rfl (by omega) ?_)
 | refine WS_nil ?_)
 | (refine hlo t t' t _ _ ?_ ?_ ?_ ?_ ?_ ?_ _ ?_ ?_ <;> first | rfl | exact Nat.le_refl _ | skip)
 | refine WC_seq ?_
 | refine WC_opsS ?_
 | refine WC_skip ?_
 | refine WC_condF rfl ?_
 | refine WC_block ?_)
    rotate_left
    · intro h9 ρ2 st2 h6
      rw [decide_eq_false h9, ← upd_self h6]
      exact fin_bool (.inr rfl) rfl rfl
    · intro h9 ρ2 st2
      rw [decide_eq_true h9]
      repeat' (first
 | (refine I_WS ?_; first
 | (refine I_mov ?_; first
 | refine W_mov (v := .bool _) rfl rfl rfl ?_)
 | refine WS_nil ?_)
 | refine WC_seq ?_
 | refine WC_opsS ?_
 | refine WC_ret ?_)
      exact fin_bool (.inr rfl) rfl rfl
  · have hab' : (a.length : Int) ≠ b.length := by omega
    rw [decide_eq_false (fun h => hab (by rw [h]))]
    repeat' (first
 | (refine I_WS ?_; first
 | refine W_lenM rfl rfl rfl ?_
 | (refine I_mov ?_; first
 | refine W_mov (v := .bool _) rfl rfl rfl ?_
 | refine W_mov (v := .slice _ _ _) rfl rfl rfl ?_)
 | (refine I_bin ?_; first
 | refine W_neqT rfl rfl rfl rfl (by omega) ?_)
 | refine WS_nil ?_)
 | refine WC_seq ?_
 | refine WC_opsS ?_
 | refine WC_condT rfl ?_
 | refine WC_ret ?_)
    exact fin_bool (.inr rfl) rfl rfl
theorem s_Same (a b : List Rt) (hl : a.length ≤ 1000000) (hsh : Short a) (t t' : Tok) (sa sb : Nat) (ha : sa = 2 ∨ a = []) (hb : sb = 2 ∨ b = []) : EvP Γ 20 [.slice t sa (a.map Rt.e), .slice t' sb (b.map Rt.e)] (.bool (decide (a = b))) := by
  have h := fun t t' => s_eqf a b hl hsh t t' sa sb ha hb
  refine EvP_code rfl rfl ?_
  repeat' (first
 | (refine I_WS ?_; first
 | (refine I_mov ?_; first
 | refine W_mov (v := .bool _) rfl rfl rfl ?_
 | refine W_mov (v := .slice _ _ _) rfl rfl rfl ?_)
 | (refine I_call ?_; first
 | refine W_call rfl rfl rfl (h _ _) rfl rfl ?_)
 | refine WS_nil ?_)
 | refine WC_seq ?_
 | refine WC_opsS ?_
 | refine WC_ret ?_)
  exact fin_bool (.inr rfl) rfl rfl
end Go.Ord
