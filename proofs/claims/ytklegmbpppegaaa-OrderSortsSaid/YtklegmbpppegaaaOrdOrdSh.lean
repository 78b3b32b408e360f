/-
  The law OrderSorts: each of the routes has one of its place, and that is the first one.
-/
import Derived.Test.YtklegmbpppegaaaOrdOrdSe
import Derived.Test.YtklegmbpppegaaaOrdOrdSe
import Derived.Test.YtklegmbpppegaaaOrdOrdSe
import Derived.Test.YtklegmbpppegaaaOrdOrdM
import Derived.Test.YtklegmbpppegaaaOrdOrdB
set_option linter.unusedVariables false
set_option linter.unusedSimpArgs false
set_option linter.unnecessarySimpa false

namespace Go.Ord
open Go.Ev
set_option linter.unusedVariables false
set_option linter.unusedSimpArgs false
theorem str_count {r : Rt} : ∀ {S : List Rt}, Str S → (∃ y ∈ S, eqR y r = true) → S.countP (fun y => eqR y r) = 1
  | [], _, ⟨y, h, _⟩ => by cases h
  | x :: S, hS, hy => by
    obtain ⟨h1, h2⟩ := List.pairwise_cons.1 hS
    rw [List.countP_cons]
    by_cases hx : eqR x r = true
    · rw [if_pos hx]
      have h0 : S.countP (fun y => eqR y r) = 0 := List.countP_eq_zero.2 (fun y hy' he => by
        have h3 := eqR_iff.1 (eq_trans hx (eq_symm he))
        have h4 := ltR_iff.1 (h1 y hy')
        omega)
      omega
    · rw [if_neg hx]
      obtain ⟨y, hy1, hy2⟩ := hy
      rcases List.mem_cons.1 hy1 with rfl | h
      · exact absurd hy2 hx
      · exact str_count h2 ⟨y, h, hy2⟩
set_option maxHeartbeats 4000000 in
theorem l_so2 (S L : List Rt) (hLs : Short L) (hsh : Short S) (hl : S.length ≤ 1000000) (hLl : L.length ≤ 1000000) (hcn : ∀ r ∈ L, S.countP (fun y => eqR y r) = 1) (t t' : Tok) (s s' : Nat) (hs : s = 2 ∨ S = []) (hs' : s' = 2 ∨ L = []) (d3 : D) : ∀ (T A0 : List Rt), L = A0 ++ T → ∀ (ρ : Nat → D) (st : Store), ρ 0 = .slice t' s' (L.map Rt.e) → ρ 3 = d3 → ρ 5 = .slice t s (S.map Rt.e) → ρ 7 = .int .i64 A0.length → ∀ (Q : X → (Nat → D) → Store → Prop),
    (∀ ρ', ρ' 0 = .slice t' s' (L.map Rt.e) → ρ' 3 = d3 → ρ' 5 = .slice t s (S.map Rt.e) → Q (.exit 2) ρ' st) → WC Γ (.loop c_feluccalaw13_OrderSorts_l2) ρ st Q := by
  intro T
  induction T with
  | nil =>
    intro A0 hL ρ st h0 h3 h5 h7 Q hQ
    rw [List.append_nil] at hL
    subst hL
    rw [← upd_self h0, ← upd_self h3, ← upd_self h5, ← upd_self h7]
    refine WC_loop ?_
    repeat' (first
 | (refine I_WS ?_; first
 | refine W_lenM rfl rfl rfl ?_
 | (refine I_mov ?_; first
 | refine W_mov (v := .int _ _) rfl rfl rfl ?_
 | refine W_mov (v := .slice _ _ _) rfl rfl rfl ?_)
 | (refine I_bin ?_; first
 | refine W_lssF rfl rfl rfl rfl (by omega) ?_)
 | refine WS_nil ?_)
 | refine WC_seq ?_
 | refine WC_opsS ?_
 | refine WC_condF rfl ?_
 | refine WC_exit ?_)
    all_goals first | (exfalso; omega) | (refine hQ _ ?_ ?_ ?_ <;> rfl)
  | cons x T ih =>
    intro A0 hL ρ st h0 h3 h5 h7 Q hQ
    have hi : A0.length < L.length := by rw [hL]; simp
    have hlt : (A0.length : Int) < ((L.length : Nat) : Int) := by omega
    have hx : L[A0.length]? = some x := by rw [hL]; simp
    have hadd : IntKind.i64.wrap ((A0.length : Int) + 1) = ((A0 ++ [x]).length : Nat) := by rw [w64 (by omega)]; simp
    have hxm := List.mem_of_getElem? hx
    have hin := l_so1 S L x (hLs x hxm) hsh hl t t' s s' hs hs' d3 A0.length hx S [] rfl
    rw [hcn x hxm] at hin
    have hnx := ih (A0 ++ [x]) (by rw [hL]; simp)
    clear ih
    rw [← upd_self h0, ← upd_self h3, ← upd_self h5, ← upd_self h7]
    refine WC_loop ?_
    repeat' (first
 | (refine I_WS ?_; first
 | refine W_lenM rfl rfl rfl ?_
 | refine W_lssT rfl rfl rfl rfl hlt ?_
 | (refine I_mov ?_; first
 | refine W_mov (v := .int _ _) rfl rfl rfl ?_
 | refine W_mov (v := .slice _ _ _) rfl rfl rfl ?_)
 | refine WS_nil ?_)
 | (refine hin _ _ ?_ ?_ ?_ ?_ ?_ ?_ _ ?_ <;> first | rfl | (intro ρ2 k0 k3 k5 k7 k8))
 | refine WC_seq ?_
 | refine WC_opsS ?_
 | refine WC_skip ?_
 | refine WC_condT rfl ?_
 | refine WC_block ?_)
    rw [← upd_self k0, ← upd_self k3, ← upd_self k5, ← upd_self k7, ← upd_self k8]
    repeat' (first
 | (refine I_WS ?_; first
 | refine W_add (s := (((A0 ++ [x]).length : Nat) : Int)) rfl rfl rfl rfl hadd ?_
 | (refine I_mov ?_; first
 | refine W_mov (v := .int _ _) rfl rfl rfl ?_)
 | (refine I_bin ?_; first
 | refine W_neqF rfl rfl rfl rfl (by omega) ?_)
 | refine WS_nil ?_)
 | refine WC_opsS ?_
 | refine WC_skip ?_
 | refine WC_condF rfl ?_)
    refine hnx _ _ ?_ ?_ ?_ ?_ Q hQ <;> rfl
set_option maxHeartbeats 4000000 in
theorem l_so3 (S L : List Rt) (y : Rt) (hy0 : y.hs.length ≤ 1000000) (hLs : Short L) (hLl : L.length ≤ 1000000) (t t' : Tok) (s s' : Nat) (hs : s = 2 ∨ S = []) (hs' : s' = 2 ∨ L = []) (d3 : D) (j : Nat) (hy : S[j]? = some y) : ∀ (T A0 : List Rt), L = A0 ++ T → T.find? (eqR y) = some y → ∀ (ρ : Nat → D) (st : Store), ρ 0 = .slice t' s' (L.map Rt.e) → ρ 3 = d3 → ρ 5 = .slice t s (S.map Rt.e) → ρ 10 = .int .i64 j → ρ 12 = .int .i64 A0.length → ∀ (Q : X → (Nat → D) → Store → Prop),
    (∀ ρ', ρ' 0 = .slice t' s' (L.map Rt.e) → ρ' 3 = d3 → ρ' 5 = .slice t s (S.map Rt.e) → ρ' 10 = .int .i64 j → ρ' 11 = .bool true → Q (.exit 8) ρ' st) → WC Γ (.loop c_feluccalaw13_OrderSorts_l3) ρ st Q := by
  intro T
  induction T with
  | nil =>
    intro A0 hL hf
    cases hf
  | cons x T ih =>
    intro A0 hL hf ρ st h0 h3 h5 h10 h12 Q hQ
    have hi : A0.length < L.length := by rw [hL]; simp
    have hlt : (A0.length : Int) < ((L.length : Nat) : Int) := by omega
    have hx : L[A0.length]? = some x := by rw [hL]; simp
    have hs2' : s' = 2 := by rcases hs' with h | h; exact h; rw [h] at hi; simp at hi
    have hjl := (List.getElem?_eq_some_iff.mp hy).1
    have hs2 : s = 2 := by rcases hs with h | h; exact h; rw [h] at hjl; simp at hjl
    have hC := fun t t' => s_CompareR y.hs y.ar x.hs x.ar hy0 (hLs x (List.mem_of_getElem? hx)) t t' 3 3 (.inl rfl) (.inl rfl)
    have hl0 : A0.length < (L.map Rt.e).length := by rw [List.length_map]; omega
    have hl1 : j < (S.map Rt.e).length := by rw [List.length_map]; omega
    have hadd : IntKind.i64.wrap ((A0.length : Int) + 1) = ((A0 ++ [x]).length : Nat) := by rw [w64 (by omega)]; simp
    by_cases he : eqR y x = true
    · rw [List.find?_cons_of_pos he] at hf
      have hyx : x = y := by cases hf; rfl
      subst hyx
      have hS := fun t t' => s_SameR x.hs x.hs x.ar x.ar (Nat.le_trans hy0 (by decide)) t t' 3 3 (.inl rfl) (.inl rfl)
      rw [decide_eq_true (⟨rfl, rfl⟩ : x.ar = x.ar ∧ x.hs = x.hs)] at hS
      rw [eqR_iff.1 he] at hC
      clear ih
      rw [← upd_self h0, ← upd_self h3, ← upd_self h5, ← upd_self h10, ← upd_self h12]
      refine WC_loop ?_
      repeat' (first
 | (refine I_WS ?_; first
 | refine W_lenM rfl rfl rfl ?_
 | refine W_lssT rfl rfl rfl rfl hlt ?_
 | refine W_iaddr (j := A0.length) rfl rfl rfl rfl hs2' hl0 ?_
 | refine W_iaddr (j := j) rfl rfl rfl rfl hs2 hl1 ?_
 | (refine I_mov ?_; first
 | refine W_mov (v := .int _ _) rfl rfl rfl ?_
 | refine W_mov (v := .bool _) rfl rfl rfl ?_
 | refine W_mov (v := .slice _ _ _) rfl rfl rfl ?_)
 | (refine I_bin ?_; first
 | refine W_eqlT rfl rfl rfl rfl (by omega) ?_)
 | (refine I_load ?_; first
 | refine W_loadE (agg := true) (d := .agg [_, _]) rfl rfl rfl hx rfl ?_
 | refine W_loadE (agg := true) (d := .agg [_, _]) rfl rfl rfl hy rfl ?_)
 | (refine I_call ?_; first
 | refine W_call rfl rfl rfl (hC _ _) rfl rfl ?_
 | refine W_call rfl rfl rfl (hS _ _) rfl rfl ?_)
 | refine WS_nil ?_)
 | refine okF_intro (okFlags_onlyR rfl) ?_
 | refine WC_seq ?_
 | refine WC_opsS ?_
 | refine WC_drawS ?_
 | refine WC_skip ?_
 | refine WC_condT rfl ?_
 | refine WC_block ?_
 | refine WC_exit ?_)
      all_goals first | (exfalso; omega) | (refine hQ _ ?_ ?_ ?_ ?_ ?_ <;> rfl)
    · rw [List.find?_cons_of_neg he] at hf
      have hnx := ih (A0 ++ [x]) (by rw [hL]; simp) hf
      clear ih
      have hne : ¬ cmpR y.hs y.ar x.hs x.ar = 0 := fun h => he (eqR_iff.2 h)
      generalize cmpR y.hs y.ar x.hs x.ar = cc at *
      rw [← upd_self h0, ← upd_self h3, ← upd_self h5, ← upd_self h10, ← upd_self h12]
      refine WC_loop ?_
      repeat' (first
 | (refine I_WS ?_; first
 | refine W_lenM rfl rfl rfl ?_
 | refine W_lssT rfl rfl rfl rfl hlt ?_
 | refine W_eqlF rfl rfl rfl rfl hne ?_
 | refine W_add (s := (((A0 ++ [x]).length : Nat) : Int)) rfl rfl rfl rfl hadd ?_
 | refine W_iaddr (j := A0.length) rfl rfl rfl rfl hs2' hl0 ?_
 | refine W_iaddr (j := j) rfl rfl rfl rfl hs2 hl1 ?_
 | (refine I_mov ?_; first
 | refine W_mov (v := .int _ _) rfl rfl rfl ?_
 | refine W_mov (v := .slice _ _ _) rfl rfl rfl ?_)
 | (refine I_load ?_; first
 | refine W_loadE (agg := true) (d := .agg [_, _]) rfl rfl rfl hx rfl ?_
 | refine W_loadE (agg := true) (d := .agg [_, _]) rfl rfl rfl hy rfl ?_)
 | (refine I_call ?_; first
 | refine W_call rfl rfl rfl (hC _ _) rfl rfl ?_)
 | refine WS_nil ?_)
 | refine okF_intro (okFlags_onlyR rfl) ?_
 | refine WC_seq ?_
 | refine WC_opsS ?_
 | refine WC_drawS ?_
 | refine WC_skip ?_
 | refine WC_condT rfl ?_
 | refine WC_condF rfl ?_
 | refine WC_block ?_)
      all_goals first | (exfalso; omega) | (refine hnx _ _ ?_ ?_ ?_ ?_ ?_ Q hQ <;> rfl)
set_option maxHeartbeats 4000000 in
theorem l_so4 (S L : List Rt) (hLs : Short L) (hsh : Short S) (hl : S.length ≤ 1000000) (hLl : L.length ≤ 1000000) (hfd : ∀ y ∈ S, L.find? (eqR y) = some y) (t t' : Tok) (s s' : Nat) (hs : s = 2 ∨ S = []) (hs' : s' = 2 ∨ L = []) (d3 : D) : ∀ (T A0 : List Rt), S = A0 ++ T → ∀ (ρ : Nat → D) (st : Store), ρ 0 = .slice t' s' (L.map Rt.e) → ρ 3 = d3 → ρ 5 = .slice t s (S.map Rt.e) → ρ 10 = .int .i64 A0.length → ∀ (Q : X → (Nat → D) → Store → Prop),
    (∀ ρ', ρ' 0 = .slice t' s' (L.map Rt.e) → ρ' 3 = d3 → ρ' 5 = .slice t s (S.map Rt.e) → Q (.exit 6) ρ' st) → WC Γ (.loop c_feluccalaw13_OrderSorts_l4) ρ st Q := by
  intro T
  induction T with
  | nil =>
    intro A0 hL ρ st h0 h3 h5 h10 Q hQ
    rw [List.append_nil] at hL
    subst hL
    rw [← upd_self h0, ← upd_self h3, ← upd_self h5, ← upd_self h10]
    refine WC_loop ?_
    repeat' (first
 | (refine I_WS ?_; first
 | refine W_lenM rfl rfl rfl ?_
 | (refine I_mov ?_; first
 | refine W_mov (v := .int _ _) rfl rfl rfl ?_
 | refine W_mov (v := .slice _ _ _) rfl rfl rfl ?_)
 | (refine I_bin ?_; first
 | refine W_lssF rfl rfl rfl rfl (by omega) ?_)
 | refine WS_nil ?_)
 | refine WC_seq ?_
 | refine WC_opsS ?_
 | refine WC_condF rfl ?_
 | refine WC_exit ?_)
    all_goals first | (exfalso; omega) | (refine hQ _ ?_ ?_ ?_ <;> rfl)
  | cons y T ih =>
    intro A0 hL ρ st h0 h3 h5 h10 Q hQ
    have hi : A0.length < S.length := by rw [hL]; simp
    have hlt : (A0.length : Int) < ((S.length : Nat) : Int) := by omega
    have hy : S[A0.length]? = some y := by rw [hL]; simp
    have hadd : IntKind.i64.wrap ((A0.length : Int) + 1) = ((A0 ++ [y]).length : Nat) := by rw [w64 (by omega)]; simp
    have hym := List.mem_of_getElem? hy
    have hin := l_so3 S L y (hsh y hym) hLs hLl t t' s s' hs hs' d3 A0.length hy L [] rfl (hfd y hym)
    have hnx := ih (A0 ++ [y]) (by rw [hL]; simp)
    clear ih
    rw [← upd_self h0, ← upd_self h3, ← upd_self h5, ← upd_self h10]
    refine WC_loop ?_
    repeat' (first
 | (refine I_WS ?_; first
 | refine W_lenM rfl rfl rfl ?_
 | refine W_lssT rfl rfl rfl rfl hlt ?_
 | (refine I_mov ?_; first
 | refine W_mov (v := .int _ _) rfl rfl rfl ?_
 | refine W_mov (v := .bool _) rfl rfl rfl ?_
 | refine W_mov (v := .slice _ _ _) rfl rfl rfl ?_)
 | refine WS_nil ?_)
 | (refine hin _ _ ?_ ?_ ?_ ?_ ?_ _ ?_ <;> first | rfl | (intro ρ2 k0 k3 k5 k7 k8))
 | refine WC_seq ?_
 | refine WC_opsS ?_
 | refine WC_skip ?_
 | refine WC_condT rfl ?_
 | refine WC_block ?_)
    rw [← upd_self k0, ← upd_self k3, ← upd_self k5, ← upd_self k7, ← upd_self k8]
    repeat' (first
 | (refine I_WS ?_; first
 | refine W_add (s := (((A0 ++ [y]).length : Nat) : Int)) rfl rfl rfl rfl hadd ?_
 | (refine I_mov ?_; first
 | refine W_mov (v := .int _ _) rfl rfl rfl ?_
 | refine W_mov (v := .bool _) rfl rfl rfl ?_)
 | refine W_not rfl rfl rfl ?_
 | refine WS_nil ?_)
 | refine WC_opsS ?_
 | refine WC_skip ?_
 | refine WC_condF rfl ?_)
    refine hnx _ _ ?_ ?_ ?_ ?_ Q hQ <;> rfl
end Go.Ord

/-
  Sort of nothing; Sort of any routes.
-/
namespace Go.Ord
open Go.Ev
set_option linter.unusedVariables false
set_option linter.unusedSimpArgs false
theorem s_ins0 (t : Tok) (s : Nat) (st : Store) : EvRWX Γ 71 [.slice t s [], .int .i64 0, .int .i64 0, .func 21 []] st (fun r st' => r = .tuple [] ∧ st' = st) := by
  refine EvRWX_code rfl rfl ?_
  repeat' (first
 | (refine I_WS ?_; first
 | (refine I_mov ?_; first
 | refine W_mov (v := .int _ _) rfl rfl rfl ?_)
 | (refine I_bin ?_; first
 | refine W_lssF rfl rfl rfl rfl (by omega) ?_
 | refine W_add rfl rfl rfl rfl (by first | exact w64 (by omega) | rfl) ?_)
 | refine WS_nil ?_)
 | refine WC_loop ?_
 | refine WC_seq ?_
 | refine WC_opsS ?_
 | refine WC_condF rfl ?_
 | refine WC_block ?_
 | refine WC_exit ?_)
  exact ⟨.inl rfl, _, rfl, rfl, rfl⟩
theorem s_stb0 (t : Tok) (s : Nat) (st : Store) : EvRWX Γ 66 [.slice t s [], .int .i64 0, .func 21 []] st (fun r st' => r = .tuple [] ∧ st' = st) := by
  refine EvRWX_code rfl rfl ?_
  have h := fun t => s_ins0 t s st
  repeat' (first
 | (refine I_WS ?_; first
 | (refine I_mov ?_; first
 | refine W_mov (v := .int _ _) rfl rfl rfl ?_
 | refine W_mov (v := .slice _ _ _) rfl rfl rfl ?_
 | refine W_mov (v := .func _ _) rfl rfl rfl ?_)
 | (refine I_bin ?_; first
 | refine W_lssF rfl rfl rfl rfl (by omega) ?_
 | refine W_leqF rfl rfl rfl rfl (by omega) ?_)
 | (refine I_call ?_; first
 | (refine W_callRWX0 rfl rfl (h _) ?_ <;> intro r1 st1 hp1))
 | refine WS_nil ?_)
 | refine WC_loop ?_
 | refine WC_seq ?_
 | refine WC_opsS ?_
 | refine WC_condF rfl ?_
 | refine WC_block ?_
 | refine WC_exit ?_)
  obtain ⟨rfl, rfl⟩ := hp1
  skip
  exact ⟨.inl rfl, _, rfl, rfl, rfl⟩
theorem s_ss0 (t : Tok) (s : Nat) (st : Store) : EvRWX Γ 38 [.slice t s [], .func 21 []] st (fun r st' => r = .tuple [] ∧ st' = st) := by
  refine EvRWX_code rfl rfl ?_
  have h := fun t => s_stb0 t s st
  have hz : ([] : List D).length = 0 := rfl
  repeat' (first
 | (refine I_WS ?_; first
 | (refine I_mov ?_; first
 | refine W_mov (v := .slice _ _ _) rfl rfl rfl ?_
 | refine W_mov (v := .func _ _) rfl rfl rfl ?_)
 | (refine I_call ?_; first
 | (refine W_callRWX0 rfl rfl (h _) ?_ <;> intro r1 st1 hp1))
 | refine W_lenS0 rfl rfl rfl ?_
 | refine WS_nil ?_)
 | refine WC_opsS ?_)
  obtain ⟨rfl, rfl⟩ := hp1
  skip
  exact ⟨.inl rfl, _, rfl, rfl, rfl⟩
theorem s_cpt0 (t : Tok) (ht : t.strip.strip = .no) (s : Nat) (st : Store) : EvRWX Γ 39 [.slice t s [], .func 40 []] st (fun r st' => r = .slice .no s [] ∧ st' = st) := by
  refine EvRWX_code rfl rfl ?_
  have hz : ([] : List D).length = 0 := rfl
  repeat' (first
 | (refine I_WS ?_; first
 | (refine I_mov ?_; first
 | refine W_mov (v := .slice _ _ _) rfl rfl rfl ?_)
 | (refine I_bin ?_; first
 | refine W_lssT rfl rfl rfl rfl (by omega) ?_)
 | refine W_lenS0 rfl rfl rfl ?_
 | refine WS_nil ?_)
 | refine WC_seq ?_
 | refine WC_opsS ?_
 | refine WC_condT rfl ?_
 | refine WC_ret ?_)
  exact ⟨.inr rfl, _, rfl, congrArg (D.slice · s []) ht, rfl⟩
theorem s_Sort0 (t : Tok) (s : Nat) : EvX Γ 15 [.slice t s []] (IsR Rt.e 2 []) := by
  refine EvX_code rfl rfl ?_
  have hcl := fun t => s_copied0 t s
  have h2 := s_ss0 .exact 2 Store.empty
  have h2' := s_ss0 .no 2 Store.empty
  have h3 := s_cpt0 .exact rfl 2 Store.empty
  have h3' := s_cpt0 .no rfl 2 Store.empty
  repeat' (first
 | (refine I_WS ?_; first
 | (refine I_mov ?_; first
 | refine W_mov (v := .slice _ _ _) rfl rfl rfl ?_)
 | (refine I_call ?_; first
 | refine W_callM0 rfl rfl rfl (hcl _) rfl ?_
 | (refine W_callRWX0 rfl rfl h2 ?_ <;> intro r2 st2 hp2))
 | refine WS_nil ?_)
 | refine WC_seq ?_
 | refine WC_opsS ?_)
  obtain ⟨rfl, rfl⟩ := hp2
  repeat' (first
 | (refine I_WS ?_; first
 | (refine I_call ?_; first
 | (refine W_callRWX0 rfl rfl h3 ?_ <;> intro r2 st2 hp2))))
  obtain ⟨rfl, rfl⟩ := hp2
  repeat' (first
 | (refine I_WS ?_; first
 | (refine I_mov ?_; first
 | refine W_mov (v := .slice _ _ _) rfl rfl rfl ?_)
 | refine WS_nil ?_)
 | refine WC_ret ?_)
  exact ⟨.inr rfl, _, rfl, .inl ⟨rfl, _, _, rfl, .inr (.inl rfl)⟩⟩
/-- Sort of any routes. -/
theorem s_SortA (L : List Rt) (hL : L.length ≤ 1000000) (hsh : Short L) (t : Tok) (s : Nat) (hs : s = 2 ∨ L = []) : EvX Γ 15 [.slice t s (L.map Rt.e)] (IsR Rt.e 2 (sortM L)) := by
  by_cases hne : L = []
  · subst hne
    exact s_Sort0 t s
  · exact s_Sort s_stable L hL (Nat.le_refl _) hsh hne t s hs
end Go.Ord

/-
  The law OrderSorts, run.
-/
namespace Go.Ord
open Go.Ev
set_option linter.unusedVariables false
set_option linter.unusedSimpArgs false
theorem sortM_mem {L : List Rt} {y : Rt} (h : y ∈ sortM L) : y ∈ L := by
  have := sortM_first L h
  exact List.mem_of_find?_eq_some this
theorem sortM_short {L : List Rt} (h : Short L) : Short (sortM L) := fun r hr => h r (sortM_mem hr)
theorem dd_le : ∀ (l : List Rt) (z : Rt), (dd z l).length ≤ l.length
  | [], _ => Nat.le_refl _
  | x :: l, z => by
    rw [dd]
    split
    · exact Nat.le_trans (dd_le l _) (Nat.le_succ _)
    · exact Nat.succ_le_succ (dd_le l _)
theorem sortM_le (L : List Rt) : (sortM L).length ≤ L.length := by
  unfold sortM
  rw [← ssort_len L]
  cases ssort L with
  | nil => exact Nat.le_refl _
  | cons x l => exact Nat.succ_le_succ (dd_le l x)
theorem s_SortAN (L : List Rt) (hL : L.length ≤ 1000000) (hsh : Short L) (t : Tok) (s : Nat) (hs : s = 2 ∨ L = []) : EvX Γ 15 [.slice t s (L.map Rt.e)] (IsN Rt.e 2 (sortM L)) :=
  (s_SortA L hL hsh t s hs).mono fun _ h => h.n
set_option maxHeartbeats 4000000 in
theorem run_Sorts (L : List Rt) (t : Tok) (s : Nat) (hs : s = 2 ∨ L = []) : EvP Γ 4 [.slice t s (L.map Rt.e)] (.bool true) := by
  refine EvP_code rfl rfl ?_
  obtain ⟨b, hF, hb⟩ := s_Few L t.strip s hs
  have hst : t.strip.strip = t.strip := by cases t <;> rfl
  cases b with
  | false =>
    repeat' (first
 | (refine I_WS ?_; first
 | (refine I_mov ?_; first
 | refine W_mov (v := .bool _) rfl rfl rfl ?_
 | refine W_mov (v := .slice _ _ _) rfl rfl rfl ?_)
 | (refine I_call ?_; first
 | refine W_call rfl rfl rfl s_small rfl rfl ?_
 | refine W_call rfl rfl rfl hF rfl rfl ?_)
 | refine W_not rfl rfl rfl ?_
 | refine WS_nil ?_)
 | refine WC_seq ?_
 | refine WC_opsS ?_
 | refine WC_condT rfl ?_
 | refine WC_ret ?_)
    exact fin_bool (.inr rfl) rfl rfl
  | true =>
    obtain ⟨hl, hh⟩ := hb rfl
    clear hb
    have hLs : Short L := fun r hr => Nat.le_trans (hh r hr) (by decide)
    have hLl : L.length ≤ 1000000 := by omega
    have hSl : (sortM L).length ≤ 1000000 := Nat.le_trans (sortM_le L) hLl
    have hSs := sortM_short hLs
    have hst := sortM_str L
    have hcn : ∀ r ∈ L, (sortM L).countP (fun y => eqR y r) = 1 := fun r hr => str_count hst (sortM_cov L hr)
    have hfd : ∀ y ∈ sortM L, L.find? (eqR y) = some y := fun y hy => sortM_first L hy
    have hS1 := fun t => s_SortAN L hLl hLs t s hs
    have hS2 := fun t s hs => s_SortAN (sortM L) hSl hSs t s hs
    rw [sortM_idem] at hS2
    have hSm := fun t t' s s' hs hs' => s_Same (sortM L) (sortM L) hSl hSs t t' s s' hs hs'
    rw [decide_eq_true (rfl : sortM L = sortM L)] at hSm
    generalize sortM L = S at *
    repeat' (first
 | (refine I_WS ?_; first
 | (refine I_mov ?_; first
 | refine W_mov (v := .int _ _) rfl rfl rfl ?_
 | refine W_mov (v := .bool _) rfl rfl rfl ?_
 | refine W_mov (v := .slice _ _ _) rfl rfl rfl ?_)
 | (refine I_call ?_; first
 | refine W_call rfl rfl rfl s_small rfl rfl ?_
 | refine W_call rfl rfl rfl hF rfl rfl ?_
 | (refine W_callN rfl rfl rfl (hS1 _) rfl ?_ <;> intro t5 s5 hs5 ht5))
 | refine W_not rfl rfl rfl ?_
 | refine WS_nil ?_)
 | (refine l_so0 S L hst hSs hSl t5 s5 hs5 (.slice t s (L.map Rt.e)) (.bool true) S.length 0 (Nat.le_refl _) _ _ ?_ ?_ ?_ ?_ _ ?_ <;> first | rfl | (intro ρ2 k0 k3 k5))
 | refine WC_seq ?_
 | refine WC_opsS ?_
 | refine WC_skip ?_
 | refine WC_condF rfl ?_
 | refine WC_block ?_)
    rw [← upd_self k0, ← upd_self k3, ← upd_self k5]
    repeat' (first
 | (refine I_WS ?_; first
 | (refine I_mov ?_; first
 | refine W_mov (v := .int _ _) rfl rfl rfl ?_)
 | refine WS_nil ?_)
 | (refine l_so2 S L hLs hSs hSl hLl hcn t5 t s5 s hs5 hs (.bool true) L [] rfl _ _ ?_ ?_ ?_ ?_ _ ?_ <;> first | rfl | (intro ρ3 j0 j3 j5))
 | refine WC_seq ?_
 | refine WC_opsS ?_
 | refine WC_block ?_)
    rw [← upd_self j0, ← upd_self j3, ← upd_self j5]
    repeat' (first
 | (refine l_so4 S L hLs hSs hSl hLl hfd t5 t s5 s hs5 hs (.bool true) S [] rfl _ _ ?_ ?_ ?_ ?_ _ ?_ <;> first | rfl | (intro ρ4 i0 i3 i5))
 | refine WC_seq ?_
 | refine WC_opsS ?_)
    rw [← upd_self i0, ← upd_self i3, ← upd_self i5]
    repeat' (first
 | (refine I_WS ?_; first
 | (refine I_mov ?_; first
 | refine W_mov (v := .bool _) rfl rfl rfl ?_
 | refine W_mov (v := .slice _ _ _) rfl rfl rfl ?_)
 | (refine I_call ?_; first
 | (refine W_callN rfl rfl rfl (hS2 _ s5 hs5) rfl ?_ <;> intro t6 s6 hs6 ht6)
 | refine W_call rfl rfl rfl (hSm _ _ s6 s5 hs6 hs5) rfl rfl ?_)
 | (refine I_pick ?_; first
 | refine W_pick (v := .bool _) rfl rfl rfl rfl ?_)
 | refine WS_nil ?_)
 | refine WC_ret ?_)
    exact fin_bool (.inr rfl) rfl rfl
end Go.Ord
