/-
  The reference's times, round by round; what is reached.
-/
import Derived.Test.YtepbhoahafopdaaEatEatD
import Derived.Test.YtepbhoahafopdaaEatEatD
import Derived.Test.YtepbhoahafopdaaEvEvX4
set_option linter.unusedVariables false
set_option linter.unusedSimpArgs false
set_option linter.unnecessarySimpa false

namespace Go.Eat
open Go.Ev
set_option linter.unusedVariables false
set_option linter.unusedSimpArgs false
theorem step1_len {sz : Int} {all : List Int} {R : List Rd} {e : Eg} : (step1 sz all R e).length ≤ R.length + 1 := by
  unfold step1
  repeat' split
  all_goals first | omega | exact put_len
theorem stepR_len {sz : Int} {all : List Int} : ∀ (l : List Eg) (R : List Rd), (stepR sz all l R).length ≤ R.length + l.length
  | [], R => by simp [stepR]
  | e :: l, R => by
    have h1 := stepR_len (sz := sz) (all := all) l (step1 sz all R e)
    have h2 := step1_len (sz := sz) (all := all) (R := R) (e := e)
    rw [stepR, List.foldl_cons]
    rw [stepR] at h1
    rw [List.length_cons]
    omega
set_option maxHeartbeats 8000000 in
theorem rl_step (sz : Int) (l : List Eg) (hll : l.length ≤ 1000) (all : List Int) (hal : all.length ≤ 1000000) (tl ta : Tok) (sl sa : Nat) (hsl : sl = 8 ∨ l = []) (hsa : sa = 1 ∨ all = []) : ∀ (post pre : List Eg), l = pre ++ post → ∀ (R : List Rd), RS R → R.length ≤ 100000 + pre.length →
    ∀ (ρ : Nat → D) (st : Store) (tr : Tok) (sr : Nat), (sr = 2 ∨ R = []) → ρ 0 = .slice tr sr (R.map Rd.e) → ρ 1 = .slice tl sl (l.map Eg.e) → ρ 2 = .int .i64 sz → ρ 3 = .slice ta sa (all.map (D.int .i64)) → ρ 9 = .int .i64 pre.length → ∀ (Q : X → (Nat → D) → Store → Prop),
    (∀ ρ' t s, (s = 2 ∨ stepR sz all post R = []) → t.dull = true ∨ (t = tr) → ρ' 0 = .slice t s ((stepR sz all post R).map Rd.e) → Q (.exit 0) ρ' st) → WC Γ (.loop c_feluccaref15_step_l0) ρ st Q := by
  intro post
  induction post with
  | nil =>
    intro pre hpp R hR hRl ρ st tr sr hsr h0 h1 h2 h3 h9 Q hQ
    rw [List.append_nil] at hpp
    subst hpp
    rw [← upd_self h0, ← upd_self h1, ← upd_self h2, ← upd_self h3, ← upd_self h9]
    refine WC_loop ?_
    repeat' (first
 | (refine I_WS ?_; first
 | (refine I_mov ?_; first
 | refine W_mov (v := .int _ _) rfl rfl rfl ?_
 | refine W_mov (v := .slice _ _ _) rfl rfl rfl ?_)
 | (refine I_bin ?_; first
 | refine W_lssF rfl rfl rfl rfl (by omega) ?_)
 | refine W_lenM rfl rfl rfl ?_
 | refine WS_nil ?_)
 | refine WC_seq ?_
 | refine WC_opsS ?_
 | refine WC_condF rfl ?_
 | refine WC_exit ?_)
    exact hQ _ tr sr hsr (.inr rfl) rfl
  | cons e post ih =>
    intro pre hpp R hR hRl ρ st tr sr hsr h0 h1 h2 h3 h9 Q hQ
    have hv := eg_mid hpp
    have hlen : l.length = pre.length + (post.length + 1) := by rw [hpp]; simp
    have hz : sl = 8 := hsl.resolve_right (by rintro rfl; simp at hlen)
    subst hz
    have hpl : pre.length < (l.map Eg.e).length := by simp; omega
    have hltl : (pre.length : Int) < l.length := by omega
    have hI := fun t => r_in e.to all (by omega) t sa hsa
    have hA := fun n t => r_At n R (by omega) t sr hsr
    have hW := fun u t => r_with e.to u R (by omega) hR t sr hsr
    have hst : stepR sz all (e :: post) R = stepR sz all post (step1 sz all R e) := rfl
    have hsl1 := step1_len (sz := sz) (all := all) (R := R) (e := e)
    have hnext : ∀ (R' : List Rd), step1 sz all R e = R' → ∀ (ρ' : Nat → D) (t : Tok) (s : Nat), (s = 2 ∨ R' = []) → (t.dull = true ∨ t = tr) → ρ' 0 = .slice t s (R'.map Rd.e) → ρ' 1 = .slice tl 8 (l.map Eg.e) → ρ' 2 = .int .i64 sz → ρ' 3 = .slice ta sa (all.map (D.int .i64)) → ρ' 9 = .int .i64 ((pre.length : Int) + 1) → WC Γ (.loop c_feluccaref15_step_l0) ρ' st Q := fun R' e1 ρ' t s e2 e3 k0 k1 k2 k3 k9 => by
      subst e1
      refine ih (pre ++ [e]) (by simp [hpp]) _ (step1_rs hR e) (by simp; omega) ρ' st t s e2 k0 k1 k2 k3 (by rw [List.length_append]; exact k9) Q (fun ρ'' t' s' f1 f2 f3 => hQ ρ'' t' s' (by rw [hst]; exact f1) ?_ (by rw [hst]; exact f3))
      rcases f2 with h | rfl
      · exact .inl h
      · exact e3
    clear ih hQ hst hpp
    unfold step1 at hnext
    rw [← upd_self h0, ← upd_self h1, ← upd_self h2, ← upd_self h3, ← upd_self h9]
    refine WC_loop ?_
    cases ha : atN e.fr R with
    | none =>
      have hA1 := fun t => hA e.fr t
      rw [ha] at hA1 hnext
      clear hA
      repeat' (first
 | (refine I_WS ?_; first
 | refine W_iaddr (j := pre.length) rfl rfl rfl rfl rfl hpl ?_
 | (refine I_mov ?_; first
 | refine W_skip rfl ?_
 | refine W_mov (v := .int _ _) rfl rfl rfl ?_
 | refine W_mov (v := .bool _) rfl rfl rfl ?_
 | refine W_mov (v := .slice _ _ _) rfl rfl rfl ?_
 | refine W_mov (v := .tuple _) rfl rfl rfl ?_)
 | (refine I_bin ?_; first
 | refine W_lssT rfl rfl rfl rfl (by omega) ?_
 | refine W_add rfl rfl rfl rfl (by first | exact w64 (by omega) | rfl) ?_)
 | (refine I_load ?_; first
 | refine W_skip rfl ?_
 | refine W_loadE (agg := false) (d := .int _ _) rfl rfl rfl hv rfl ?_)
 | (refine I_call ?_; first
 | refine W_skip rfl ?_
 | refine W_call rfl rfl rfl (hA1 _) rfl rfl ?_)
 | (refine I_pick ?_; first
 | refine W_pick (v := .bool _) rfl rfl rfl rfl ?_)
 | (refine I_extract ?_; first
 | refine W_extract (d := .int _ _) rfl rfl rfl rfl ?_
 | refine W_extract (d := .bool _) rfl rfl rfl rfl ?_)
 | refine W_not rfl rfl rfl ?_
 | refine W_lenM rfl rfl rfl ?_
 | refine W_faddrE rfl rfl rfl ?_
 | refine W_skip rfl ?_
 | refine WS_nil ?_)
 | refine WC_seq ?_
 | refine WC_opsS ?_
 | refine WC_skip ?_
 | refine WC_condT rfl ?_
 | refine WC_block ?_
 | refine WC_exit ?_)
      exact hnext R rfl _ tr sr hsr (.inr rfl) rfl rfl rfl rfl rfl
    | some t =>
      have hA1 := fun t => hA e.fr t
      have hA2 := fun t => hA e.to t
      rw [ha] at hA1 hnext
      simp only at hnext
      clear hA
      by_cases hin : e.to ∈ all
      · rw [decide_eq_true hin] at hI
        rw [if_pos hin] at hnext
        repeat' (first
 | (refine I_WS ?_; first
 | refine W_iaddr (j := pre.length) rfl rfl rfl rfl rfl hpl ?_
 | (refine I_mov ?_; first
 | refine W_mov (v := .int _ _) rfl rfl rfl ?_
 | refine W_mov (v := .bool _) rfl rfl rfl ?_
 | refine W_mov (v := .slice _ _ _) rfl rfl rfl ?_
 | refine W_mov (v := .tuple _) rfl rfl rfl ?_)
 | (refine I_bin ?_; first
 | refine W_lssT rfl rfl rfl rfl (by omega) ?_
 | refine W_add rfl rfl rfl rfl (by first | exact w64 (by omega) | rfl) ?_)
 | (refine I_load ?_; first
 | refine W_loadE (agg := false) (d := .int _ _) rfl rfl rfl hv rfl ?_)
 | (refine I_call ?_; first
 | refine W_call rfl rfl rfl (hA1 _) rfl rfl ?_
 | refine W_call rfl rfl rfl (hI _) rfl rfl ?_)
 | (refine I_pick ?_; first
 | refine W_pick (v := .bool _) rfl rfl rfl rfl ?_)
 | (refine I_extract ?_; first
 | refine W_extract (d := .int _ _) rfl rfl rfl rfl ?_
 | refine W_extract (d := .bool _) rfl rfl rfl rfl ?_)
 | refine W_not rfl rfl rfl ?_
 | refine W_lenM rfl rfl rfl ?_
 | refine W_faddrE rfl rfl rfl ?_
 | refine WS_nil ?_)
 | refine WC_seq ?_
 | refine WC_opsS ?_
 | refine WC_skip ?_
 | refine WC_condT rfl ?_
 | refine WC_block ?_
 | refine WC_exit ?_)
        exact hnext R rfl _ tr sr hsr (.inr rfl) rfl rfl rfl rfl rfl
      · rw [decide_eq_false hin] at hI
        rw [if_neg hin] at hnext
        have hP := r_Pass e t sz
        unfold passT at hP
        by_cases hc : passC e t sz
        · rw [if_pos hc] at hP hnext
          generalize thereE e t sz = u at *
          generalize mx t e.op = w at *
          cases hb : atN e.to R with
          | none =>
            rw [hb] at hA2 hnext
            repeat' (first
 | (refine I_WS ?_; first
 | refine W_iaddr (j := pre.length) rfl rfl rfl rfl rfl hpl ?_
 | (refine I_mov ?_; first
 | refine W_skip rfl ?_
 | refine W_mov (v := .int _ _) rfl rfl rfl ?_
 | refine W_mov (v := .bool _) rfl rfl rfl ?_
 | refine W_mov (v := .slice _ _ _) rfl rfl rfl ?_
 | refine W_mov (v := .tuple _) rfl rfl rfl ?_)
 | (refine I_bin ?_; first
 | refine W_skip rfl ?_
 | refine W_lssT rfl rfl rfl rfl (by omega) ?_
 | refine W_add rfl rfl rfl rfl (by first | exact w64 (by omega) | rfl) ?_)
 | (refine I_load ?_; first
 | refine W_loadE (agg := true) (d := .agg [_, _, _, _, _, _, _, _]) rfl rfl rfl hv rfl ?_
 | refine W_loadE (agg := false) (d := .int _ _) rfl rfl rfl hv rfl ?_)
 | (refine I_call ?_; first
 | refine W_call rfl rfl rfl (hA1 _) rfl rfl ?_
 | refine W_call rfl rfl rfl (hA2 _) rfl rfl ?_
 | refine W_call rfl rfl rfl (hI _) rfl rfl ?_
 | refine W_call rfl rfl rfl hP rfl rfl ?_
 | (refine W_callN rfl rfl rfl (hW _ _) rfl ?_; intro tw sw hsw htw))
 | (refine I_pick ?_; first
 | refine W_pick (v := .bool _) rfl rfl rfl rfl ?_)
 | (refine I_extract ?_; first
 | refine W_extract (d := .int _ _) rfl rfl rfl rfl ?_
 | refine W_extract (d := .bool _) rfl rfl rfl rfl ?_)
 | refine W_not rfl rfl rfl ?_
 | refine W_lenM rfl rfl rfl ?_
 | refine W_faddrE rfl rfl rfl ?_
 | refine WS_nil ?_)
 | refine WC_seq ?_
 | refine WC_opsS ?_
 | refine WC_skip ?_
 | refine WC_condT rfl ?_
 | refine WC_condF rfl ?_
 | refine WC_block ?_)
            exact hnext _ rfl _ tw sw hsw (.inl htw) rfl rfl rfl rfl rfl
          | some v =>
            rw [hb] at hA2 hnext
            simp only at hnext
            by_cases huv : u < v
            · rw [if_pos huv] at hnext
              repeat' (first
 | (refine I_WS ?_; first
 | refine W_iaddr (j := pre.length) rfl rfl rfl rfl rfl hpl ?_
 | refine W_lssT rfl rfl rfl rfl huv ?_
 | (refine I_mov ?_; first
 | refine W_mov (v := .int _ _) rfl rfl rfl ?_
 | refine W_mov (v := .bool _) rfl rfl rfl ?_
 | refine W_mov (v := .slice _ _ _) rfl rfl rfl ?_
 | refine W_mov (v := .tuple _) rfl rfl rfl ?_)
 | (refine I_bin ?_; first
 | refine W_lssT rfl rfl rfl rfl (by omega) ?_
 | refine W_add rfl rfl rfl rfl (by first | exact w64 (by omega) | rfl) ?_)
 | (refine I_load ?_; first
 | refine W_loadE (agg := true) (d := .agg [_, _, _, _, _, _, _, _]) rfl rfl rfl hv rfl ?_
 | refine W_loadE (agg := false) (d := .int _ _) rfl rfl rfl hv rfl ?_)
 | (refine I_call ?_; first
 | refine W_call rfl rfl rfl (hA1 _) rfl rfl ?_
 | refine W_call rfl rfl rfl (hA2 _) rfl rfl ?_
 | refine W_call rfl rfl rfl (hI _) rfl rfl ?_
 | refine W_call rfl rfl rfl hP rfl rfl ?_
 | (refine W_callN rfl rfl rfl (hW _ _) rfl ?_; intro tw sw hsw htw))
 | (refine I_pick ?_; first
 | refine W_pick (v := .bool _) rfl rfl rfl rfl ?_)
 | (refine I_extract ?_; first
 | refine W_extract (d := .int _ _) rfl rfl rfl rfl ?_
 | refine W_extract (d := .bool _) rfl rfl rfl rfl ?_)
 | refine W_not rfl rfl rfl ?_
 | refine W_lenM rfl rfl rfl ?_
 | refine W_faddrE rfl rfl rfl ?_
 | refine WS_nil ?_)
 | refine WC_seq ?_
 | refine WC_opsS ?_
 | refine WC_skip ?_
 | refine WC_condT rfl ?_
 | refine WC_condF rfl ?_
 | refine WC_block ?_)
              exact hnext _ rfl _ tw sw hsw (.inl htw) rfl rfl rfl rfl rfl
            · rw [if_neg huv] at hnext
              have huv' : v ≤ u := by omega
              repeat' (first
 | (refine I_WS ?_; first
 | refine W_iaddr (j := pre.length) rfl rfl rfl rfl rfl hpl ?_
 | refine W_lssF rfl rfl rfl rfl huv' ?_
 | (refine I_mov ?_; first
 | refine W_mov (v := .int _ _) rfl rfl rfl ?_
 | refine W_mov (v := .bool _) rfl rfl rfl ?_
 | refine W_mov (v := .slice _ _ _) rfl rfl rfl ?_
 | refine W_mov (v := .tuple _) rfl rfl rfl ?_)
 | (refine I_bin ?_; first
 | refine W_lssT rfl rfl rfl rfl (by omega) ?_
 | refine W_add rfl rfl rfl rfl (by first | exact w64 (by omega) | rfl) ?_)
 | (refine I_load ?_; first
 | refine W_loadE (agg := true) (d := .agg [_, _, _, _, _, _, _, _]) rfl rfl rfl hv rfl ?_
 | refine W_loadE (agg := false) (d := .int _ _) rfl rfl rfl hv rfl ?_)
 | (refine I_call ?_; first
 | refine W_call rfl rfl rfl (hA1 _) rfl rfl ?_
 | refine W_call rfl rfl rfl (hA2 _) rfl rfl ?_
 | refine W_call rfl rfl rfl (hI _) rfl rfl ?_
 | refine W_call rfl rfl rfl hP rfl rfl ?_)
 | (refine I_pick ?_; first
 | refine W_pick (v := .bool _) rfl rfl rfl rfl ?_)
 | (refine I_extract ?_; first
 | refine W_extract (d := .int _ _) rfl rfl rfl rfl ?_
 | refine W_extract (d := .bool _) rfl rfl rfl rfl ?_)
 | refine W_not rfl rfl rfl ?_
 | refine W_lenM rfl rfl rfl ?_
 | refine W_faddrE rfl rfl rfl ?_
 | refine WS_nil ?_)
 | refine WC_seq ?_
 | refine WC_opsS ?_
 | refine WC_skip ?_
 | refine WC_condT rfl ?_
 | refine WC_condF rfl ?_
 | refine WC_block ?_)
              exact hnext R rfl _ tr sr hsr (.inr rfl) rfl rfl rfl rfl rfl
        · rw [if_neg hc] at hP hnext
          generalize (atN e.to R).isSome = b1 at hA2
          generalize (atN e.to R).getD 0 = b2 at hA2
          repeat' (first
 | (refine I_WS ?_; first
 | refine W_iaddr (j := pre.length) rfl rfl rfl rfl rfl hpl ?_
 | (refine I_mov ?_; first
 | refine W_skip rfl ?_
 | refine W_mov (v := .int _ _) rfl rfl rfl ?_
 | refine W_mov (v := .bool _) rfl rfl rfl ?_
 | refine W_mov (v := .slice _ _ _) rfl rfl rfl ?_
 | refine W_mov (v := .tuple _) rfl rfl rfl ?_)
 | (refine I_bin ?_; first
 | refine W_skip rfl ?_
 | refine W_lssT rfl rfl rfl rfl (by omega) ?_
 | refine W_add rfl rfl rfl rfl (by first | exact w64 (by omega) | rfl) ?_)
 | (refine I_load ?_; first
 | refine W_loadE (agg := true) (d := .agg [_, _, _, _, _, _, _, _]) rfl rfl rfl hv rfl ?_
 | refine W_loadE (agg := false) (d := .int _ _) rfl rfl rfl hv rfl ?_)
 | (refine I_call ?_; first
 | refine W_call rfl rfl rfl (hA1 _) rfl rfl ?_
 | refine W_call rfl rfl rfl (hA2 _) rfl rfl ?_
 | refine W_call rfl rfl rfl (hI _) rfl rfl ?_
 | refine W_call rfl rfl rfl hP rfl rfl ?_)
 | (refine I_pick ?_; first
 | refine W_pick (v := .bool _) rfl rfl rfl rfl ?_
 | refine W_skip rfl ?_)
 | (refine I_extract ?_; first
 | refine W_extract (d := .int _ _) rfl rfl rfl rfl ?_
 | refine W_extract (d := .bool _) rfl rfl rfl rfl ?_)
 | refine W_not rfl rfl rfl ?_
 | refine W_lenM rfl rfl rfl ?_
 | refine W_faddrE rfl rfl rfl ?_
 | refine W_skip rfl ?_
 | refine WS_nil ?_)
 | refine WC_seq ?_
 | refine WC_opsS ?_
 | refine WC_skip ?_
 | refine WC_condT rfl ?_
 | refine WC_condF rfl ?_
 | refine WC_block ?_)
          exact hnext R rfl _ tr sr hsr (.inr rfl) rfl rfl rfl rfl rfl
theorem r_step (sz : Int) (l : List Eg) (hll : l.length ≤ 1000) (all : List Int) (hal : all.length ≤ 1000000) (R : List Rd) (hR : RS R) (hRl : R.length ≤ 100000) (tl ta tr : Tok) (htr : tr.dull = true) (sl sa sr : Nat) (hsl : sl = 8 ∨ l = []) (hsa : sa = 1 ∨ all = []) (hsr : sr = 2 ∨ R = []) :
    EvX Γ 50 [.slice tr sr (R.map Rd.e), .slice tl sl (l.map Eg.e), .int .i64 sz, .slice ta sa (all.map (D.int .i64))] (IsN Rd.e 2 (stepR sz all l R)) := by
  refine EvX_code rfl rfl ?_
  repeat' (first
 | (refine I_WS ?_; first
 | (refine I_mov ?_; first
 | refine W_mov (v := .int _ _) rfl rfl rfl ?_
 | refine W_mov (v := .slice _ _ _) rfl rfl rfl ?_)
 | refine WS_nil ?_)
 | refine WC_seq ?_
 | refine WC_opsS ?_
 | refine WC_block ?_)
  refine rl_step sz l hll all hal tl ta sl sa hsl hsa l [] rfl R hR (by simpa using hRl) _ _ tr sr hsr ?_ ?_ ?_ ?_ ?_ _ (fun ρ' t s f1 f2 h0 => ?_)
  all_goals first | rfl | skip
  rw [← upd_self h0]
  have ht : t.dull = true := by
    rcases f2 with h | rfl
    · exact h
    · exact htr
  repeat' (first
 | (refine I_WS ?_; first
 | (refine I_mov ?_; first
 | refine W_mov (v := .slice _ _ _) rfl rfl rfl ?_)
 | refine WS_nil ?_)
 | refine WC_seq ?_
 | refine WC_opsS ?_
 | refine WC_ret ?_)
  exact finX_D (.inr rfl) rfl ht f1 rfl
theorem iterR_snoc {sz : Int} {all : List Int} {l : List Eg} (k : Nat) (R : List Rd) : iterR sz all l (k + 1) R = stepR sz all l (iterR sz all l k R) := by
  rw [iterR_add k 1]
  rfl
theorem iterR_len {sz : Int} {all : List Int} {l : List Eg} : ∀ (k : Nat) (R : List Rd), (iterR sz all l k R).length ≤ R.length + k * l.length
  | 0, R => by simp [iterR]
  | k + 1, R => by
    rw [iterR_snoc]
    have h1 := stepR_len (sz := sz) (all := all) l (iterR sz all l k R)
    have h2 := iterR_len (sz := sz) (all := all) (l := l) k R
    rw [Nat.add_mul]
    omega
theorem iterR_rs {sz : Int} {all : List Int} {l : List Eg} : ∀ (k : Nat) (R : List Rd), RS R → RS (iterR sz all l k R)
  | 0, R, h => h
  | k + 1, R, h => iterR_rs k _ (stepR_rs l R h)
theorem strip_dull {t : Tok} (h : t.dull = true) : t.strip.dull = true := by cases t <;> first | rfl | cases h
theorem rl_Times (sz : Int) (l : List Eg) (hll : l.length ≤ 40) (all : List Int) (hal : all.length ≤ 1000000) (r0 : Rd) (tl ta : Tok) (sl sa : Nat) (hsl : sl = 8 ∨ l = []) (hsa : sa = 1 ∨ all = []) : ∀ (m k : Nat), l.length + 1 - k = m → k ≤ l.length + 1 →
    ∀ (ρ : Nat → D) (st : Store) (tr : Tok) (sr : Nat), tr.dull = true → (sr = 2 ∨ iterR sz all l k [r0] = []) → ρ 0 = .slice tl sl (l.map Eg.e) → ρ 3 = .int .i64 sz → ρ 11 = .slice ta sa (all.map (D.int .i64)) → ρ 12 = .slice tr sr ((iterR sz all l k [r0]).map Rd.e) → ρ 13 = .int .i64 k → ∀ (Q : X → (Nat → D) → Store → Prop),
    (∀ ρ' t s, t.dull = true → (s = 2 ∨ iterR sz all l (l.length + 1) [r0] = []) → ρ' 12 = .slice t s ((iterR sz all l (l.length + 1) [r0]).map Rd.e) → Q (.exit 0) ρ' st) → WC Γ (.loop c_feluccaref15_Times_l0) ρ st Q := by
  intro m
  induction m with
  | zero =>
    intro k hm hk ρ st tr sr htr hsr h0 h3 h11 h12 h13 Q hQ
    have hk' : k = l.length + 1 := by omega
    subst hk'
    have hgt : ¬ (((l.length + 1 : Nat) : Int) ≤ l.length) := by omega
    rw [← upd_self h0, ← upd_self h3, ← upd_self h11, ← upd_self h12, ← upd_self h13]
    refine WC_loop ?_
    repeat' (first
 | (refine I_WS ?_; first
 | refine W_lenM rfl rfl rfl ?_
 | (refine I_mov ?_; first
 | refine W_mov (v := .int _ _) rfl rfl rfl ?_
 | refine W_mov (v := .slice _ _ _) rfl rfl rfl ?_)
 | (refine I_bin ?_; first
 | refine W_leqF rfl rfl rfl rfl (by omega) ?_)
 | refine WS_nil ?_)
 | refine WC_seq ?_
 | refine WC_opsS ?_
 | refine WC_condF rfl ?_
 | refine WC_exit ?_)
    exact hQ _ tr sr htr hsr rfl
  | succ m ih =>
    intro k hm hk ρ st tr sr htr hsr h0 h3 h11 h12 h13 Q hQ
    have hle : ((k : Int) ≤ l.length) := by omega
    have hRl := iterR_len (sz := sz) (all := all) (l := l) k [r0]
    have hmul : k * l.length ≤ 41 * 40 := Nat.mul_le_mul (by omega) hll
    have hS := fun t ta' tr' h => r_step sz l (by omega) all hal (iterR sz all l k [r0]) (iterR_rs k _ (by simp [RS])) (by simp at hRl; omega) t ta' tr' h sl sa sr hsl hsa hsr
    rw [← iterR_snoc] at hS
    have hnext : ∀ (ρ' : Nat → D) (t : Tok) (s : Nat), t.dull = true → (s = 2 ∨ iterR sz all l (k + 1) [r0] = []) → ρ' 0 = .slice tl sl (l.map Eg.e) → ρ' 3 = .int .i64 sz → ρ' 11 = .slice ta sa (all.map (D.int .i64)) → ρ' 12 = .slice t s ((iterR sz all l (k + 1) [r0]).map Rd.e) → ρ' 13 = .int .i64 ((k : Int) + 1) → WC Γ (.loop c_feluccaref15_Times_l0) ρ' st Q := fun ρ' t s e1 e2 k0 k3 k11 k12 k13 =>
      ih (k + 1) (by omega) (by omega) ρ' st t s e1 e2 k0 k3 k11 k12 (by rw [k13]; simp) Q hQ
    clear ih hQ
    rw [← upd_self h0, ← upd_self h3, ← upd_self h11, ← upd_self h12, ← upd_self h13]
    refine WC_loop ?_
    repeat' (first
 | (refine I_WS ?_; first
 | refine W_lenM rfl rfl rfl ?_
 | refine W_leqT rfl rfl rfl rfl hle ?_
 | (refine I_mov ?_; first
 | refine W_mov (v := .int _ _) rfl rfl rfl ?_
 | refine W_mov (v := .slice _ _ _) rfl rfl rfl ?_)
 | (refine I_bin ?_; first
 | refine W_add rfl rfl rfl rfl (by first | exact w64 (by omega) | rfl) ?_)
 | (refine I_call ?_; first
 | (refine W_callN rfl rfl rfl (hS _ _ _ (strip_dull htr)) rfl ?_; intro tw sw hsw htw))
 | refine WS_nil ?_)
 | refine WC_seq ?_
 | refine WC_opsS ?_
 | refine WC_skip ?_
 | refine WC_condT rfl ?_
 | refine WC_block ?_)
    exact hnext _ tw sw htw hsw rfl rfl rfl rfl rfl
theorem r_Times (l : List Eg) (hll : l.length ≤ 40) (fr now sz : Int) (shut : List Int) (hsl : shut.length ≤ 1000) (t t' : Tok) (s s' : Nat) (hs : s = 8 ∨ l = []) (hs' : s' = 1 ∨ shut = []) :
    EvX Γ 24 [.slice t s (l.map Eg.e), .int .i64 fr, .int .i64 now, .int .i64 sz, .slice t' s' (shut.map (D.int .i64))] (IsN Rd.e 2 (timesM l fr now sz shut)) := by
  refine EvX_code rfl rfl ?_
  have hA := fun t => r_Asked l (by omega) fr now sz t s hs
  by_cases ha : AskC l fr now sz
  · rw [← iter_eq ha shut]
    rw [decide_eq_true ha] at hA
    have hb1 : (([] : List D).length + (shut.map (D.int .i64)).length) * 8 ≤ 140737488355328 := by simp; omega
    have hb2 : (([] ++ shut.map (D.int .i64)).length + [D.int .i64 fr].length) * 8 ≤ 140737488355328 := by simp; omega
    repeat' (first
 | (refine I_WS ?_; first
 | (refine W_app rfl rfl rfl (.inl ⟨.inr rfl, .inl rfl⟩) (by rcases hs' with h | h; exact .inl h; exact .inr (by rw [h]; rfl)) hb1 (Nat.le_refl _) rfl ?_; intro k1 st1 c1 c2 c3 c4 c5 c6 c7)
 | (refine W_app rfl rfl rfl (.inr ⟨k1, rfl, c6, c7, rfl⟩) (.inl rfl) hb2 c5 rfl ?_; intro k2 st2 e1 e2 e3 e4 e5 e6 e7)
 | (refine I_mov ?_; first
 | refine W_mov (v := .int _ _) rfl rfl rfl ?_
 | refine W_mov (v := .slice _ _ _) rfl rfl rfl ?_)
 | (refine I_call ?_; first
 | refine W_call rfl rfl rfl (hA _) rfl rfl ?_)
 | (refine I_build ?_; first
 | refine W_build (cs := [_, _]) rfl rfl rfl ?_)
 | refine W_not rfl rfl rfl ?_
 | refine W_bslice (ys := []) rfl rfl rfl (by decide) rfl ?_
 | refine W_bslice (ys := [_]) rfl rfl rfl (by decide) rfl ?_
 | refine WS_nil ?_)
 | refine WC_seq ?_
 | refine WC_opsS ?_
 | refine WC_skip ?_
 | refine WC_condF rfl ?_
 | refine WC_block ?_)
    have hall : ([] ++ shut.map (D.int .i64) ++ [D.int .i64 fr]) = (shut ++ [fr]).map (D.int .i64) := by simp
    refine rl_Times sz l hll (shut ++ [fr]) (by simp; omega) ⟨fr, now⟩ t (.own k2) s 1 hs (.inl rfl) (l.length + 1) 0 (by omega) (by omega) _ st2 .exact 2 rfl (.inl rfl) ?_ ?_ ?_ ?_ ?_ _ (fun ρ' t2 s2 f1 f2 h12 => ?_)
    · rfl
    · rfl
    · rw [← hall]; rfl
    · rfl
    · rfl
    rw [← upd_self h12]
    repeat' (first
 | (refine I_WS ?_; first
 | (refine I_mov ?_; first
 | refine W_mov (v := .slice _ _ _) rfl rfl rfl ?_)
 | refine WS_nil ?_)
 | refine WC_seq ?_
 | refine WC_opsS ?_
 | refine WC_ret ?_)
    exact finX_D (.inr rfl) rfl f1 f2 rfl
  · rw [decide_eq_false ha] at hA
    rw [times_no ha]
    repeat' (first
 | (refine I_WS ?_; first
 | (refine I_mov ?_; first
 | refine W_mov (v := .int _ _) rfl rfl rfl ?_
 | refine W_mov (v := .slice _ _ _) rfl rfl rfl ?_)
 | (refine I_call ?_; first
 | refine W_call rfl rfl rfl (hA _) rfl rfl ?_)
 | refine W_not rfl rfl rfl ?_
 | refine WS_nil ?_)
 | refine WC_seq ?_
 | refine WC_opsS ?_
 | refine WC_condT rfl ?_
 | refine WC_ret ?_)
    exact finX_N (t := .isnil) (s := 0) rfl (.inr rfl) ⟨.inr rfl, rfl⟩
end Go.Eat

/-
  A small case comes out right.
-/
namespace Go.Eat
open Go.Ev
set_option maxRecDepth 100000 in
theorem small_run : isT (callP Γ 400 21 []) = true := by decide +kernel
theorem s_small : EvP Γ 21 [] (.bool true) := EvP_of_run (isT_eq small_run)
end Go.Eat

/-
  EarlyTells, as the evaluator runs it.
-/
namespace Go.Eat
open Go.Ev
set_option linter.unusedVariables false
set_option linter.unusedSimpArgs false
/-- Is one there in time? -/
def reachB (l : List Eg) (fr to now sz by' : Int) : Bool := match atN to (timesM l fr now sz []) with
  | some a => decide (a ≤ by')
  | none => false
theorem s_Reaches (l : List Eg) (hll : l.length ≤ 1000) (fr to now sz by' : Int) (t : Tok) (s : Nat) (hs : s = 8 ∨ l = []) : EvP Γ 25 [.slice t s (l.map Eg.e), .int .i64 fr, .int .i64 to, .int .i64 now, .int .i64 sz, .int .i64 by'] (.bool (reachB l fr to now sz by')) := by
  refine EvP_code rfl rfl ?_
  have hT := fun t => s_Times l hll fr now sz [] (by simp) t .isnil s 0 hs (.inr rfl)
  have hl := times_len l fr now sz []
  have hA := fun t s h => s_At to (timesM l fr now sz []) (by omega) t s h
  unfold reachB
  generalize timesM l fr now sz [] = T at *
  cases ha : atN to T with
  | none =>
    rw [ha] at hA
    repeat' (first
 | (refine I_WS ?_; first
 | (refine I_mov ?_; first
 | refine W_skip rfl ?_
 | refine W_mov (v := .int _ _) rfl rfl rfl ?_
 | refine W_mov (v := .bool _) rfl rfl rfl ?_
 | refine W_mov (v := .slice _ _ _) rfl rfl rfl ?_
 | refine W_mov (v := .tuple _) rfl rfl rfl ?_)
 | (refine I_bin ?_; first
 | refine W_skip rfl ?_)
 | (refine I_call ?_; first
 | (refine W_callN rfl rfl rfl (hT _) rfl ?_; intro ta sa hsa hta)
 | refine W_call rfl rfl rfl (hA _ _ hsa) rfl rfl ?_)
 | (refine I_pick ?_; first
 | refine W_pick (v := .bool _) rfl rfl rfl rfl ?_)
 | (refine I_extract ?_; first
 | refine W_extract (d := .int _ _) rfl rfl rfl rfl ?_
 | refine W_extract (d := .bool _) rfl rfl rfl rfl ?_)
 | refine WS_nil ?_)
 | refine WC_seq ?_
 | refine WC_opsS ?_
 | refine WC_ret ?_)
    exact fin_bool (.inr rfl) rfl rfl
  | some a =>
    rw [ha] at hA
    by_cases hab : a ≤ by'
    · rw [show (match some a with | some a => decide (a ≤ by') | none => false) = true from decide_eq_true hab]
      repeat' (first
 | (refine I_WS ?_; first
 | refine W_leqT rfl rfl rfl rfl hab ?_
 | (refine I_mov ?_; first
 | refine W_mov (v := .int _ _) rfl rfl rfl ?_
 | refine W_mov (v := .bool _) rfl rfl rfl ?_
 | refine W_mov (v := .slice _ _ _) rfl rfl rfl ?_
 | refine W_mov (v := .tuple _) rfl rfl rfl ?_)
 | (refine I_call ?_; first
 | (refine W_callN rfl rfl rfl (hT _) rfl ?_; intro ta sa hsa hta)
 | refine W_call rfl rfl rfl (hA _ _ hsa) rfl rfl ?_)
 | (refine I_pick ?_; first
 | refine W_pick (v := .bool _) rfl rfl rfl rfl ?_)
 | (refine I_extract ?_; first
 | refine W_extract (d := .int _ _) rfl rfl rfl rfl ?_
 | refine W_extract (d := .bool _) rfl rfl rfl rfl ?_)
 | refine WS_nil ?_)
 | refine WC_seq ?_
 | refine WC_opsS ?_
 | refine WC_ret ?_)
      exact fin_bool (.inr rfl) rfl rfl
    · rw [show (match some a with | some a => decide (a ≤ by') | none => false) = false from decide_eq_false hab]
      have hab' : by' < a := by omega
      repeat' (first
 | (refine I_WS ?_; first
 | refine W_leqF rfl rfl rfl rfl hab' ?_
 | (refine I_mov ?_; first
 | refine W_mov (v := .int _ _) rfl rfl rfl ?_
 | refine W_mov (v := .bool _) rfl rfl rfl ?_
 | refine W_mov (v := .slice _ _ _) rfl rfl rfl ?_
 | refine W_mov (v := .tuple _) rfl rfl rfl ?_)
 | (refine I_call ?_; first
 | (refine W_callN rfl rfl rfl (hT _) rfl ?_; intro ta sa hsa hta)
 | refine W_call rfl rfl rfl (hA _ _ hsa) rfl rfl ?_)
 | (refine I_pick ?_; first
 | refine W_pick (v := .bool _) rfl rfl rfl rfl ?_)
 | (refine I_extract ?_; first
 | refine W_extract (d := .int _ _) rfl rfl rfl rfl ?_
 | refine W_extract (d := .bool _) rfl rfl rfl rfl ?_)
 | refine WS_nil ?_)
 | refine WC_seq ?_
 | refine WC_opsS ?_
 | refine WC_ret ?_)
      exact fin_bool (.inr rfl) rfl rfl
theorem r_Reaches (l : List Eg) (hll : l.length ≤ 40) (fr to now sz by' : Int) (t : Tok) (s : Nat) (hs : s = 8 ∨ l = []) : EvP Γ 26 [.slice t s (l.map Eg.e), .int .i64 fr, .int .i64 to, .int .i64 now, .int .i64 sz, .int .i64 by'] (.bool (reachB l fr to now sz by')) := by
  refine EvP_code rfl rfl ?_
  have hT := fun t => r_Times l hll fr now sz [] (by simp) t .isnil s 0 hs (.inr rfl)
  have hl := times_len l fr now sz []
  have hA := fun t s h => r_At to (timesM l fr now sz []) (by omega) t s h
  unfold reachB
  generalize timesM l fr now sz [] = T at *
  cases ha : atN to T with
  | none =>
    rw [ha] at hA
    repeat' (first
 | (refine I_WS ?_; first
 | (refine I_mov ?_; first
 | refine W_skip rfl ?_
 | refine W_mov (v := .int _ _) rfl rfl rfl ?_
 | refine W_mov (v := .bool _) rfl rfl rfl ?_
 | refine W_mov (v := .slice _ _ _) rfl rfl rfl ?_
 | refine W_mov (v := .tuple _) rfl rfl rfl ?_)
 | (refine I_bin ?_; first
 | refine W_skip rfl ?_)
 | (refine I_call ?_; first
 | (refine W_callN rfl rfl rfl (hT _) rfl ?_; intro ta sa hsa hta)
 | refine W_call rfl rfl rfl (hA _ _ hsa) rfl rfl ?_)
 | (refine I_pick ?_; first
 | refine W_pick (v := .bool _) rfl rfl rfl rfl ?_)
 | (refine I_extract ?_; first
 | refine W_extract (d := .int _ _) rfl rfl rfl rfl ?_
 | refine W_extract (d := .bool _) rfl rfl rfl rfl ?_)
 | refine WS_nil ?_)
 | refine WC_seq ?_
 | refine WC_opsS ?_
 | refine WC_ret ?_)
    exact fin_bool (.inr rfl) rfl rfl
  | some a =>
    rw [ha] at hA
    by_cases hab : a ≤ by'
    · rw [show (match some a with | some a => decide (a ≤ by') | none => false) = true from decide_eq_true hab]
      repeat' (first
 | (refine I_WS ?_; first
 | refine W_leqT rfl rfl rfl rfl hab ?_
 | (refine I_mov ?_; first
 | refine W_mov (v := .int _ _) rfl rfl rfl ?_
 | refine W_mov (v := .bool _) rfl rfl rfl ?_
 | refine W_mov (v := .slice _ _ _) rfl rfl rfl ?_
 | refine W_mov (v := .tuple _) rfl rfl rfl ?_)
 | (refine I_call ?_; first
 | (refine W_callN rfl rfl rfl (hT _) rfl ?_; intro ta sa hsa hta)
 | refine W_call rfl rfl rfl (hA _ _ hsa) rfl rfl ?_)
 | (refine I_pick ?_; first
 | refine W_pick (v := .bool _) rfl rfl rfl rfl ?_)
 | (refine I_extract ?_; first
 | refine W_extract (d := .int _ _) rfl rfl rfl rfl ?_
 | refine W_extract (d := .bool _) rfl rfl rfl rfl ?_)
 | refine WS_nil ?_)
 | refine WC_seq ?_
 | refine WC_opsS ?_
 | refine WC_ret ?_)
      exact fin_bool (.inr rfl) rfl rfl
    · rw [show (match some a with | some a => decide (a ≤ by') | none => false) = false from decide_eq_false hab]
      have hab' : by' < a := by omega
      repeat' (first
 | (refine I_WS ?_; first
 | refine W_leqF rfl rfl rfl rfl hab' ?_
 | (refine I_mov ?_; first
 | refine W_mov (v := .int _ _) rfl rfl rfl ?_
 | refine W_mov (v := .bool _) rfl rfl rfl ?_
 | refine W_mov (v := .slice _ _ _) rfl rfl rfl ?_
 | refine W_mov (v := .tuple _) rfl rfl rfl ?_)
 | (refine I_call ?_; first
 | (refine W_callN rfl rfl rfl (hT _) rfl ?_; intro ta sa hsa hta)
 | refine W_call rfl rfl rfl (hA _ _ hsa) rfl rfl ?_)
 | (refine I_pick ?_; first
 | refine W_pick (v := .bool _) rfl rfl rfl rfl ?_)
 | (refine I_extract ?_; first
 | refine W_extract (d := .int _ _) rfl rfl rfl rfl ?_
 | refine W_extract (d := .bool _) rfl rfl rfl rfl ?_)
 | refine WS_nil ?_)
 | refine WC_seq ?_
 | refine WC_opsS ?_
 | refine WC_ret ?_)
      exact fin_bool (.inr rfl) rfl rfl
theorem eqAt2t (a b : Int) : eqAt [.int .i64 a, .int .i64 b] [.int .i64 a, .int .i64 b] [0, 1] = some true := by
  simp [eqAt]
theorem rl_Same1 (a : List Rd) (hl : a.length ≤ 1073741824) (t t' : Tok) (sa sb : Nat) (ha : sa = 2 ∨ a = []) (hb : sb = 2 ∨ a = []) : ∀ (post pre : List Rd), a = pre ++ post → ∀ (ρ : Nat → D) (st : Store),
    ρ 0 = .slice t sa (a.map Rd.e) → ρ 1 = .slice t' sb (a.map Rd.e) → ρ 5 = .int .i64 pre.length → ∀ (Q : X → (Nat → D) → Store → Prop), (∀ ρ', Q (.exit 0) ρ' st) → WC Γ (.loop c_feluccaref15_Same_l0) ρ st Q := by
  intro post
  induction post with
  | nil =>
    intro pre hpp ρ st h0 h1 h5 Q hQ
    rw [List.append_nil] at hpp
    subst hpp
    rw [← upd_self h0, ← upd_self h1, ← upd_self h5]
    refine WC_loop ?_
    repeat' (first
 | (refine I_WS ?_; first
 | (refine I_mov ?_; first
 | refine W_mov (v := .int _ _) rfl rfl rfl ?_
 | refine W_mov (v := .slice _ _ _) rfl rfl rfl ?_)
 | (refine I_bin ?_; first
 | refine W_lssF rfl rfl rfl rfl (by omega) ?_)
 | refine W_lenM rfl rfl rfl ?_
 | refine WS_nil ?_)
 | refine WC_seq ?_
 | refine WC_opsS ?_
 | refine WC_condF rfl ?_
 | refine WC_exit ?_)
    exact hQ _
  | cons x post ih =>
    intro pre hpp ρ st h0 h1 h5 Q hQ
    have hv := rd_mid hpp
    have hlen : a.length = pre.length + (post.length + 1) := by rw [hpp]; simp
    have hz : sa = 2 := ha.resolve_right (by rintro rfl; simp at hlen)
    have hz2 : sb = 2 := hb.resolve_right (by rintro rfl; simp at hlen)
    subst hz hz2
    have hpl : pre.length < (a.map Rd.e).length := by simp; omega
    have hltl : (pre.length : Int) < a.length := by omega
    have hnext : ∀ (ρ' : Nat → D), ρ' 0 = .slice t 2 (a.map Rd.e) → ρ' 1 = .slice t' 2 (a.map Rd.e) → ρ' 5 = .int .i64 ((pre.length : Int) + 1) → WC Γ (.loop c_feluccaref15_Same_l0) ρ' st Q := fun ρ' k0 k1 k5 =>
      ih (pre ++ [x]) (by simp [hpp]) ρ' st k0 k1 (by rw [List.length_append]; exact k5) Q hQ
    clear ih hQ hpp
    rw [← upd_self h0, ← upd_self h1, ← upd_self h5]
    refine WC_loop ?_
    repeat' (first
 | (refine I_WS ?_; first
 | refine W_iaddr (j := pre.length) rfl rfl rfl rfl rfl hpl ?_
 | refine W_neqP rfl rfl rfl rfl rfl rfl (eqAt2t _ _) (fun _ => ?_) (fun h => by cases h)
 | (refine I_mov ?_; first
 | refine W_mov (v := .int _ _) rfl rfl rfl ?_
 | refine W_mov (v := .slice _ _ _) rfl rfl rfl ?_)
 | (refine I_bin ?_; first
 | refine W_lssT rfl rfl rfl rfl (by omega) ?_
 | refine W_add rfl rfl rfl rfl (by first | exact w64 (by omega) | rfl) ?_)
 | (refine I_load ?_; first
 | refine W_loadE (agg := true) (d := .agg [_, _]) rfl rfl rfl hv rfl ?_)
 | refine W_lenM rfl rfl rfl ?_
 | refine WS_nil ?_)
 | refine okF_intro (okFlags_onlyR rfl) ?_
 | refine WC_seq ?_
 | refine WC_opsS ?_
 | refine WC_drawS ?_
 | refine WC_skip ?_
 | refine WC_condT rfl ?_
 | refine WC_condF rfl ?_
 | refine WC_block ?_)
    refine hnext _ ?_ ?_ ?_ <;> rfl
theorem r_Same1 (a : List Rd) (hl : a.length ≤ 1073741824) (t t' : Tok) (sa sb : Nat) (ha : sa = 2 ∨ a = []) (hb : sb = 2 ∨ a = []) : EvP Γ 16 [.slice t sa (a.map Rd.e), .slice t' sb (a.map Rd.e)] (.bool true) := by
  refine EvP_code rfl rfl ?_
  repeat' (first
 | (refine I_WS ?_; first
 | refine W_lenM rfl rfl rfl ?_
 | (refine I_mov ?_; first
 | refine W_mov (v := .int _ _) rfl rfl rfl ?_
 | refine W_mov (v := .bool _) rfl rfl rfl ?_
 | refine W_mov (v := .slice _ _ _) rfl rfl rfl ?_)
 | (refine I_bin ?_; first
 | refine W_neqF rfl rfl rfl rfl (by omega) ?_)
 | refine WS_nil ?_)
 | refine WC_seq ?_
 | refine WC_opsS ?_
 | refine WC_skip ?_
 | refine WC_condF rfl ?_
 | refine WC_block ?_)
  all_goals first | (exfalso; omega) | skip
  refine rl_Same1 a hl t t' sa sb ha hb a [] rfl _ _ ?_ ?_ ?_ _ (fun ρ' => ?_)
  all_goals first | rfl | skip
  repeat' (first
 | (refine I_WS ?_; first
 | (refine I_mov ?_; first
 | refine W_mov (v := .bool _) rfl rfl rfl ?_)
 | refine WS_nil ?_)
 | refine WC_seq ?_
 | refine WC_opsS ?_
 | refine WC_ret ?_)
  exact fin_bool (.inr rfl) rfl rfl
set_option maxHeartbeats 8000000 in
theorem run_Tells (l : List Eg) (fr to now sz by' : Int) (shut : List Int) (r : List Rd) : EvP Γ 6 [.slice .no 8 (l.map Eg.e), .int .i64 fr, .int .i64 to, .int .i64 now, .int .i64 sz, .int .i64 by', .slice .no 1 (shut.map (D.int .i64)), .slice .no 2 (r.map Rd.e)] (.bool true) := by
  refine EvP_code rfl rfl ?_
  by_cases hf : l.length ≤ 40 ∧ shut.length ≤ 40 ∧ r.length ≤ 50
  · obtain ⟨f1, f2, f3⟩ := hf
    have hA := s_At to r (by omega) .no 2 (.inl rfl)
    have hA' := r_At to r (by omega) .no 2 (.inl rfl)
    have hT := s_Times l (by omega) fr now sz shut (by omega) .no .no 8 1 (.inl rfl) (.inl rfl)
    have hT' := r_Times l f1 fr now sz shut (by omega) .no .no 8 1 (.inl rfl) (.inl rfl)
    have hR := s_Reaches l (by omega) fr to now sz by' .no 8 (.inl rfl)
    have hR' := r_Reaches l f1 fr to now sz by' .no 8 (.inl rfl)
    have hl := times_len l fr now sz shut
    have hS := fun t t' s s' h h' => r_Same1 (timesM l fr now sz shut) (by omega) t t' s s' h h'
    generalize timesM l fr now sz shut = T at *
    generalize reachB l fr to now sz by' = q at *
    generalize (atN to r).getD 0 = w1 at *
    generalize (atN to r).isSome = w2 at *
    repeat' (first
 | (refine I_WS ?_; first
 | refine W_lenM rfl rfl rfl ?_
 | refine W_eqlT rfl rfl rfl rfl rfl ?_
 | refine W_eqlBc rfl rfl rfl rfl (beq_self_eq_true _) ?_
 | (refine I_mov ?_; first
 | refine W_mov (v := .int _ _) rfl rfl rfl ?_
 | refine W_mov (v := .bool _) rfl rfl rfl ?_
 | refine W_mov (v := .slice _ _ _) rfl rfl rfl ?_
 | refine W_mov (v := .tuple _) rfl rfl rfl ?_)
 | (refine I_bin ?_; first
 | refine W_gtrF rfl rfl rfl rfl (by omega) ?_)
 | (refine I_call ?_; first
 | refine W_call rfl rfl rfl s_small rfl rfl ?_
 | refine W_call rfl rfl rfl hA rfl rfl ?_
 | refine W_call rfl rfl rfl hA' rfl rfl ?_
 | (refine W_callN rfl rfl rfl hT rfl ?_; intro ta sa hsa hta)
 | (refine W_callN rfl rfl rfl hT' rfl ?_; intro tb sb hsb htb)
 | refine W_call rfl rfl rfl (hS _ _ _ _ hsa hsb) rfl rfl ?_
 | refine W_call rfl rfl rfl hR rfl rfl ?_
 | refine W_call rfl rfl rfl hR' rfl rfl ?_)
 | (refine I_pick ?_; first
 | refine W_pick (v := .bool _) rfl rfl rfl rfl ?_)
 | (refine I_extract ?_; first
 | refine W_extract (d := .int _ _) rfl rfl rfl rfl ?_
 | refine W_extract (d := .bool _) rfl rfl rfl rfl ?_)
 | refine WS_nil ?_)
 | refine WC_seq ?_
 | refine WC_opsS ?_
 | refine WC_skip ?_
 | refine WC_condF rfl ?_
 | refine WC_ret ?_)
    all_goals exact fin_bool (.inr rfl) rfl rfl
  · repeat' (first
 | (refine I_WS ?_; first
 | refine W_lenM rfl rfl rfl ?_
 | (refine I_mov ?_; first
 | refine W_skip rfl ?_
 | refine W_mov (v := .bool _) rfl rfl rfl ?_
 | refine W_mov (v := .slice _ _ _) rfl rfl rfl ?_)
 | (refine I_bin ?_; first
 | refine W_skip rfl ?_
 | refine W_gtrT rfl rfl rfl rfl (by omega) ?_
 | (refine W_gtr rfl rfl rfl rfl ?_ ?_ <;> intro _))
 | (refine I_call ?_; first
 | refine W_call rfl rfl rfl s_small rfl rfl ?_)
 | (refine I_pick ?_; first
 | refine W_pick (v := .bool _) rfl rfl rfl rfl ?_)
 | refine W_skip rfl ?_
 | refine WS_nil ?_)
 | refine WC_seq ?_
 | refine WC_opsS ?_
 | refine WC_condT rfl ?_
 | refine WC_ret ?_)
    all_goals first | exact fin_bool (.inr rfl) rfl rfl | (exfalso; omega)
end Go.Eat
