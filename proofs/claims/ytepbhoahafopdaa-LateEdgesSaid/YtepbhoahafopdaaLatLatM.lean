/-
  By each edge one may be ready as late as its end allows, as the evaluator runs it.
-/
import Derived.Test.YtepbhoahafopdaaLatLatJ
set_option linter.unusedVariables false
set_option linter.unusedSimpArgs false
set_option linter.unnecessarySimpa false
namespace Go.Lat
open Go.Ev
set_option linter.unusedVariables false
set_option linter.unusedSimpArgs false
theorem lat_any (x : Eg) (by' sz : Int) : ∃ v b, EvP Γ2 20 [x.e, .int .i64 by', .int .i64 sz] (.tuple [.int .i64 v, .bool b]) := by
  have h := (s_Latest x by' sz).grow hx2
  unfold latT at h
  split at h <;> exact ⟨_, _, h⟩
theorem lat_some {x : Eg} {by' sz v : Int} (hv : latO x by' sz = some v) : EvP Γ2 20 [x.e, .int .i64 by', .int .i64 sz] (.tuple [.int .i64 v, .bool true]) := by
  have h := (s_Latest x by' sz).grow hx2
  unfold latT at h
  rw [hv] at h
  exact h
theorem lat_none {x : Eg} {by' sz : Int} (hv : latO x by' sz = none) : EvP Γ2 20 [x.e, .int .i64 by', .int .i64 sz] (.tuple [.int .i64 0, .bool false]) := by
  have h := (s_Latest x by' sz).grow hx2
  unfold latT at h
  rw [hv] at h
  exact h
theorem at_any (n : Int) (l : List Rd) (hll : l.length ≤ 1073741824) (sz : Nat) (hs : sz = 2 ∨ l = []) : ∃ v b, ∀ t, EvP Γ2 19 [.slice t sz (l.map Rd.e), .int .i64 n] (.tuple [.int .i64 v, .bool b]) := by
  cases h : atN n l with
  | none => exact ⟨_, _, fun t => s_At0 n l hll h t sz hs⟩
  | some u => exact ⟨_, _, fun t => s_At1 n l hll u h t sz hs⟩
set_option maxHeartbeats 4000000 in
theorem l_D1 (l : List Eg) (hll : l.length ≤ 1000) (a b : List Rd) (to sz : Int) (hal : a.length ≤ 1000000) (hbl : b.length ≤ 1000000) (hD : ∀ e ∈ l, ∀ t x, atN e.to b = some t → latO e t sz = some x → e.fr ≠ to → ∃ u, atN e.fr a = some u ∧ x ≤ u) (ta tb : Tok) (sa sb : Nat) (hsa : sa = 2 ∨ a = []) (hsb : sb = 2 ∨ b = []) : ∀ (post pre : List Eg), l = pre ++ post → ∀ (ρ : Nat → D) (st : Store),
    ρ 0 = .slice .no 8 (l.map Eg.e) → ρ 1 = .int .i64 to → ρ 3 = .int .i64 sz → ρ 11 = .bool true → ρ 12 = .slice ta sa (a.map Rd.e) → ρ 13 = .slice tb sb (b.map Rd.e) → ρ 14 = .int .i64 pre.length → ∀ (Q : X → (Nat → D) → Store → Prop),
    (∀ ρ', ρ' 0 = .slice .no 8 (l.map Eg.e) → ρ' 1 = .int .i64 to → ρ' 3 = .int .i64 sz → ρ' 11 = .bool true → ρ' 12 = .slice ta sa (a.map Rd.e) → ρ' 13 = .slice tb sb (b.map Rd.e) → Q (.exit 0) ρ' st) → WC Γ2 (.loop c_feluccalaw16_LateEdges_l0) ρ st Q := by
  intro post
  induction post with
  | nil =>
    intro pre hpp ρ st h0 h1 h3 h11 h12 h13 h14 Q hQ
    rw [List.append_nil] at hpp
    subst hpp
    rw [← upd_self h0, ← upd_self h1, ← upd_self h3, ← upd_self h11, ← upd_self h12, ← upd_self h13, ← upd_self h14]
    refine WC_loop ?_
    repeat' (first
 | (refine I_WS ?_; first
 | refine W_lenM rfl rfl rfl ?_
 | (refine I_mov ?_; first
 | refine W_mov (v := .int _ _) rfl rfl rfl ?_
 | refine W_mov (v := .slice _ _ _) rfl rfl rfl ?_)
 | (refine I_bin ?_; first
 | refine W_lssF rfl rfl rfl rfl (by omega) ?_)
 | refine WS_nil ?_)
 | refine WC_seq ?_
 | refine WC_opsS ?_
 | refine WC_condF rfl ?_
 | refine WC_exit ?_)
    refine hQ _ ?_ ?_ ?_ ?_ ?_ ?_ <;> rfl
  | cons e post ih =>
    intro pre hpp ρ st h0 h1 h3 h11 h12 h13 h14 Q hQ
    have hv := eg_mid hpp
    have hlen : l.length = pre.length + (post.length + 1) := by rw [hpp]; simp
    have hpl : pre.length < (l.map Eg.e).length := by simp; omega
    have hltl : (pre.length : Int) < l.length := by omega
    have hm : e ∈ l := by rw [hpp]; simp
    have hnext : ∀ (ρ' : Nat → D), ρ' 0 = .slice .no 8 (l.map Eg.e) → ρ' 1 = .int .i64 to → ρ' 3 = .int .i64 sz → ρ' 11 = .bool true → ρ' 12 = .slice ta sa (a.map Rd.e) → ρ' 13 = .slice tb sb (b.map Rd.e) → ρ' 14 = .int .i64 ((pre.length : Int) + 1) → WC Γ2 (.loop c_feluccalaw16_LateEdges_l0) ρ' st Q := fun ρ' k0 k1 k3 k11 k12 k13 k14 =>
      ih (pre ++ [e]) (by simp [hpp]) ρ' st k0 k1 k3 k11 k12 k13 (by rw [List.length_append]; exact k14) Q hQ
    obtain ⟨v3, b3, hA⟩ := at_any e.fr a (by omega) sa hsa
    have hDe := hD e hm
    clear ih hQ hpp hD hm
    rw [← upd_self h0, ← upd_self h1, ← upd_self h3, ← upd_self h11, ← upd_self h12, ← upd_self h13, ← upd_self h14]
    refine WC_loop ?_
    cases hb : atN e.to b with
    | none =>
      have hB := fun t => s_At0 e.to b (by omega) hb t sb hsb
      obtain ⟨v2, b2, hL⟩ := lat_any e 0 sz
      clear hDe
      repeat' (first
 | (refine I_WS ?_; first
 | refine W_lenM rfl rfl rfl ?_
 | refine W_iaddr (j := pre.length) rfl rfl rfl rfl rfl hpl ?_
 | (refine I_mov ?_; first
 | refine W_skip rfl ?_
 | refine W_mov (v := .int _ _) rfl rfl rfl ?_
 | refine W_mov (v := .bool _) rfl rfl rfl ?_
 | refine W_mov (v := .slice _ _ _) rfl rfl rfl ?_
 | refine W_mov (v := .tuple _) rfl rfl rfl ?_)
 | (refine I_bin ?_; first
 | refine W_skip rfl ?_
 | refine W_lssT rfl rfl rfl rfl (by omega) ?_
 | refine W_add rfl rfl rfl rfl (by first | exact w64 (by omega) | rfl) ?_)
 | (refine I_load ?_; first
 | refine W_skip rfl ?_
 | refine W_loadE (agg := true) (d := .agg [_, _, _, _, _, _, _, _]) rfl rfl rfl hv rfl ?_
 | refine W_loadE (agg := false) (d := .int _ _) rfl rfl rfl hv rfl ?_)
 | (refine I_call ?_; first
 | refine W_call rfl rfl rfl (hB _) rfl rfl ?_
 | refine W_call rfl rfl rfl hL rfl rfl ?_
 | refine W_call rfl rfl rfl (hA _) rfl rfl ?_)
 | (refine I_pick ?_; first
 | refine W_pick (v := .bool _) rfl rfl rfl rfl ?_
 | refine W_skip rfl ?_)
 | (refine I_extract ?_; first
 | refine W_extract (d := .int _ _) rfl rfl rfl rfl ?_
 | refine W_extract (d := .bool _) rfl rfl rfl rfl ?_)
 | refine W_faddrE rfl rfl rfl ?_
 | refine W_skip rfl ?_
 | refine WS_nil ?_)
 | refine WC_seq ?_
 | refine WC_opsS ?_
 | refine WC_skip ?_
 | refine WC_condT rfl ?_
 | refine WC_condF rfl ?_
 | refine WC_block ?_)
      refine hnext _ ?_ ?_ ?_ ?_ ?_ ?_ ?_ <;> rfl
    | some t =>
      have hB := fun tk => s_At1 e.to b (by omega) t hb tk sb hsb
      cases hx : latO e t sz with
      | none =>
        have hL := lat_none hx
        clear hDe
        repeat' (first
 | (refine I_WS ?_; first
 | refine W_lenM rfl rfl rfl ?_
 | refine W_iaddr (j := pre.length) rfl rfl rfl rfl rfl hpl ?_
 | (refine I_mov ?_; first
 | refine W_skip rfl ?_
 | refine W_mov (v := .int _ _) rfl rfl rfl ?_
 | refine W_mov (v := .bool _) rfl rfl rfl ?_
 | refine W_mov (v := .slice _ _ _) rfl rfl rfl ?_
 | refine W_mov (v := .tuple _) rfl rfl rfl ?_)
 | (refine I_bin ?_; first
 | refine W_skip rfl ?_
 | refine W_lssT rfl rfl rfl rfl (by omega) ?_
 | refine W_add rfl rfl rfl rfl (by first | exact w64 (by omega) | rfl) ?_)
 | (refine I_load ?_; first
 | refine W_skip rfl ?_
 | refine W_loadE (agg := true) (d := .agg [_, _, _, _, _, _, _, _]) rfl rfl rfl hv rfl ?_
 | refine W_loadE (agg := false) (d := .int _ _) rfl rfl rfl hv rfl ?_)
 | (refine I_call ?_; first
 | refine W_call rfl rfl rfl (hB _) rfl rfl ?_
 | refine W_call rfl rfl rfl hL rfl rfl ?_
 | refine W_call rfl rfl rfl (hA _) rfl rfl ?_)
 | (refine I_pick ?_; first
 | refine W_pick (v := .bool _) rfl rfl rfl rfl ?_
 | refine W_skip rfl ?_)
 | (refine I_extract ?_; first
 | refine W_extract (d := .int _ _) rfl rfl rfl rfl ?_
 | refine W_extract (d := .bool _) rfl rfl rfl rfl ?_)
 | refine W_faddrE rfl rfl rfl ?_
 | refine W_skip rfl ?_
 | refine WS_nil ?_)
 | refine WC_seq ?_
 | refine WC_opsS ?_
 | refine WC_skip ?_
 | refine WC_condT rfl ?_
 | refine WC_condF rfl ?_
 | refine WC_block ?_)
        refine hnext _ ?_ ?_ ?_ ?_ ?_ ?_ ?_ <;> rfl
      | some x =>
        have hL := lat_some hx
        by_cases hf : e.fr = to
        · clear hDe
          repeat' (first
 | (refine I_WS ?_; first
 | refine W_lenM rfl rfl rfl ?_
 | refine W_iaddr (j := pre.length) rfl rfl rfl rfl rfl hpl ?_
 | refine W_neqF rfl rfl rfl rfl hf ?_
 | (refine I_mov ?_; first
 | refine W_skip rfl ?_
 | refine W_mov (v := .int _ _) rfl rfl rfl ?_
 | refine W_mov (v := .bool _) rfl rfl rfl ?_
 | refine W_mov (v := .slice _ _ _) rfl rfl rfl ?_
 | refine W_mov (v := .tuple _) rfl rfl rfl ?_)
 | (refine I_bin ?_; first
 | refine W_skip rfl ?_
 | refine W_lssT rfl rfl rfl rfl (by omega) ?_
 | refine W_add rfl rfl rfl rfl (by first | exact w64 (by omega) | rfl) ?_)
 | (refine I_load ?_; first
 | refine W_loadE (agg := true) (d := .agg [_, _, _, _, _, _, _, _]) rfl rfl rfl hv rfl ?_
 | refine W_loadE (agg := false) (d := .int _ _) rfl rfl rfl hv rfl ?_)
 | (refine I_call ?_; first
 | refine W_call rfl rfl rfl (hB _) rfl rfl ?_
 | refine W_call rfl rfl rfl hL rfl rfl ?_
 | refine W_call rfl rfl rfl (hA _) rfl rfl ?_)
 | (refine I_pick ?_; first
 | refine W_pick (v := .bool _) rfl rfl rfl rfl ?_
 | refine W_skip rfl ?_)
 | (refine I_extract ?_; first
 | refine W_extract (d := .int _ _) rfl rfl rfl rfl ?_
 | refine W_extract (d := .bool _) rfl rfl rfl rfl ?_)
 | refine W_faddrE rfl rfl rfl ?_
 | refine W_skip rfl ?_
 | refine WS_nil ?_)
 | refine WC_seq ?_
 | refine WC_opsS ?_
 | refine WC_skip ?_
 | refine WC_condT rfl ?_
 | refine WC_condF rfl ?_
 | refine WC_block ?_)
          refine hnext _ ?_ ?_ ?_ ?_ ?_ ?_ ?_ <;> rfl
        · obtain ⟨u, hu, hle⟩ := hDe t x hb hx hf
          have hA := fun t => s_At1 e.fr a (by omega) u hu t sa hsa
          clear hDe
          repeat' (first
 | (refine I_WS ?_; first
 | refine W_lenM rfl rfl rfl ?_
 | refine W_iaddr (j := pre.length) rfl rfl rfl rfl rfl hpl ?_
 | refine W_neqT rfl rfl rfl rfl hf ?_
 | (refine I_mov ?_; first
 | refine W_mov (v := .int _ _) rfl rfl rfl ?_
 | refine W_mov (v := .bool _) rfl rfl rfl ?_
 | refine W_mov (v := .slice _ _ _) rfl rfl rfl ?_
 | refine W_mov (v := .tuple _) rfl rfl rfl ?_)
 | (refine I_bin ?_; first
 | refine W_lssT rfl rfl rfl rfl (by omega) ?_
 | refine W_lssF rfl rfl rfl rfl (by omega) ?_
 | refine W_add rfl rfl rfl rfl (by first | exact w64 (by omega) | rfl) ?_)
 | (refine I_load ?_; first
 | refine W_loadE (agg := true) (d := .agg [_, _, _, _, _, _, _, _]) rfl rfl rfl hv rfl ?_
 | refine W_loadE (agg := false) (d := .int _ _) rfl rfl rfl hv rfl ?_)
 | (refine I_call ?_; first
 | refine W_call rfl rfl rfl (hB _) rfl rfl ?_
 | refine W_call rfl rfl rfl hL rfl rfl ?_
 | refine W_call rfl rfl rfl (hA _) rfl rfl ?_)
 | (refine I_pick ?_; first
 | refine W_pick (v := .bool _) rfl rfl rfl rfl ?_)
 | (refine I_extract ?_; first
 | refine W_extract (d := .int _ _) rfl rfl rfl rfl ?_
 | refine W_extract (d := .bool _) rfl rfl rfl rfl ?_)
 | refine W_not rfl rfl rfl ?_
 | refine W_faddrE rfl rfl rfl ?_
 | refine WS_nil ?_)
 | refine WC_seq ?_
 | refine WC_opsS ?_
 | refine WC_skip ?_
 | refine WC_condT rfl ?_
 | refine WC_condF rfl ?_
 | refine WC_block ?_)
          refine hnext _ ?_ ?_ ?_ ?_ ?_ ?_ ?_ <;> rfl
/-- Is an edge why? -/
def condB (b : List Rd) (sz : Int) (r : Rd) (e : Eg) : Bool := match atN e.to b with
  | none => false
  | some t => match latO e t sz with
    | none => false
    | some x => decide (e.fr = r.node) && decide (x = r.at')
set_option maxHeartbeats 8000000 in
theorem l_D4 (l : List Eg) (hll : l.length ≤ 1000) (a b : List Rd) (to sz : Int) (hal : a.length ≤ 1000000) (hbl : b.length ≤ 1000000) (ta tb : Tok) (sb : Nat) (hsb : sb = 2 ∨ b = []) (i : Nat) (r : Rd) (hr : a[i]? = some r) : ∀ (post pre : List Eg), l = pre ++ post → ∀ (w : Bool) (ρ : Nat → D) (st : Store),
    ρ 0 = .slice .no 8 (l.map Eg.e) → ρ 1 = .int .i64 to → ρ 3 = .int .i64 sz → ρ 11 = .bool true → ρ 12 = .slice ta 2 (a.map Rd.e) → ρ 13 = .slice tb sb (b.map Rd.e) → ρ 21 = .int .i64 i → ρ 22 = .bool w → ρ 23 = .int .i64 pre.length → ∀ (Q : X → (Nat → D) → Store → Prop),
    (∀ ρ', ρ' 0 = .slice .no 8 (l.map Eg.e) → ρ' 1 = .int .i64 to → ρ' 3 = .int .i64 sz → ρ' 11 = .bool true → ρ' 12 = .slice ta 2 (a.map Rd.e) → ρ' 13 = .slice tb sb (b.map Rd.e) → ρ' 21 = .int .i64 i → ρ' 22 = .bool (w || post.any (condB b sz r)) → Q (.exit 4) ρ' st) → WC Γ2 (.loop c_feluccalaw16_LateEdges_l1) ρ st Q := by
  intro post
  induction post with
  | nil =>
    intro pre hpp w ρ st h0 h1 h3 h11 h12 h13 h21 h22 h23 Q hQ
    rw [List.append_nil] at hpp
    subst hpp
    rw [← upd_self h0, ← upd_self h1, ← upd_self h3, ← upd_self h11, ← upd_self h12, ← upd_self h13, ← upd_self h21, ← upd_self h22, ← upd_self h23]
    refine WC_loop ?_
    repeat' (first
 | (refine I_WS ?_; first
 | refine W_lenM rfl rfl rfl ?_
 | (refine I_mov ?_; first
 | refine W_mov (v := .int _ _) rfl rfl rfl ?_
 | refine W_mov (v := .slice _ _ _) rfl rfl rfl ?_)
 | (refine I_bin ?_; first
 | refine W_lssF rfl rfl rfl rfl (by omega) ?_)
 | refine WS_nil ?_)
 | refine WC_seq ?_
 | refine WC_opsS ?_
 | refine WC_condF rfl ?_
 | refine WC_exit ?_)
    rw [List.any_nil, Bool.or_false] at hQ
    refine hQ _ ?_ ?_ ?_ ?_ ?_ ?_ ?_ ?_ <;> rfl
  | cons e post ih =>
    intro pre hpp w ρ st h0 h1 h3 h11 h12 h13 h21 h22 h23 Q hQ
    have hv := eg_mid hpp
    have hlen : l.length = pre.length + (post.length + 1) := by rw [hpp]; simp
    have hpl : pre.length < (l.map Eg.e).length := by simp; omega
    have hia : i < (a.map Rd.e).length := by
      obtain ⟨h, _⟩ := List.getElem?_eq_some_iff.1 hr
      simpa using h
    have hltl : (pre.length : Int) < l.length := by omega
    have hnext : ∀ (ρ' : Nat → D), ρ' 0 = .slice .no 8 (l.map Eg.e) → ρ' 1 = .int .i64 to → ρ' 3 = .int .i64 sz → ρ' 11 = .bool true → ρ' 12 = .slice ta 2 (a.map Rd.e) → ρ' 13 = .slice tb sb (b.map Rd.e) → ρ' 21 = .int .i64 i → ρ' 22 = .bool (w || condB b sz r e) → ρ' 23 = .int .i64 ((pre.length : Int) + 1) → WC Γ2 (.loop c_feluccalaw16_LateEdges_l1) ρ' st Q := fun ρ' k0 k1 k3 k11 k12 k13 k21 k22 k23 =>
      ih (pre ++ [e]) (by simp [hpp]) _ ρ' st k0 k1 k3 k11 k12 k13 k21 k22 (by rw [List.length_append]; exact k23) Q (fun ρ'' j0 j1 j3 j11 j12 j13 j21 j22 => hQ ρ'' j0 j1 j3 j11 j12 j13 j21 (by rw [j22, List.any_cons, Bool.or_assoc]))
    clear ih hQ hpp
    obtain ⟨v1, b1, hB0⟩ := at_any e.to b (by omega) sb hsb
    rw [← upd_self h0, ← upd_self h1, ← upd_self h3, ← upd_self h11, ← upd_self h12, ← upd_self h13, ← upd_self h21, ← upd_self h22, ← upd_self h23]
    refine WC_loop ?_
    cases w with
    | true =>
      rw [Bool.true_or] at hnext
      obtain ⟨v2, b2, hL⟩ := lat_any e v1 sz
      repeat' (first
 | (refine I_WS ?_; first
 | refine W_lenM rfl rfl rfl ?_
 | refine W_iaddr (j := pre.length) rfl rfl rfl rfl rfl hpl ?_
 | (refine I_mov ?_; first
 | refine W_skip rfl ?_
 | refine W_mov (v := .int _ _) rfl rfl rfl ?_
 | refine W_mov (v := .bool _) rfl rfl rfl ?_
 | refine W_mov (v := .slice _ _ _) rfl rfl rfl ?_
 | refine W_mov (v := .tuple _) rfl rfl rfl ?_)
 | (refine I_bin ?_; first
 | refine W_skip rfl ?_
 | refine W_lssT rfl rfl rfl rfl (by omega) ?_
 | refine W_add rfl rfl rfl rfl (by first | exact w64 (by omega) | rfl) ?_)
 | (refine I_load ?_; first
 | refine W_skip rfl ?_
 | refine W_loadE (agg := true) (d := .agg [_, _, _, _, _, _, _, _]) rfl rfl rfl hv rfl ?_
 | refine W_loadE (agg := false) (d := .int _ _) rfl rfl rfl hv rfl ?_)
 | (refine I_call ?_; first
 | refine W_call rfl rfl rfl (hB0 _) rfl rfl ?_
 | refine W_call rfl rfl rfl hL rfl rfl ?_)
 | (refine I_pick ?_; first
 | refine W_pick (v := .bool _) rfl rfl rfl rfl ?_
 | refine W_skip rfl ?_)
 | (refine I_extract ?_; first
 | refine W_extract (d := .int _ _) rfl rfl rfl rfl ?_
 | refine W_extract (d := .bool _) rfl rfl rfl rfl ?_)
 | refine W_faddrE rfl rfl rfl ?_
 | refine W_skip rfl ?_
 | refine WS_nil ?_)
 | refine okF_intro (okFlags_onlyR rfl) ?_
 | refine WC_seq ?_
 | refine WC_opsS ?_
 | refine WC_drawS ?_
 | refine WC_skip ?_
 | refine WC_condT rfl ?_
 | refine WC_block ?_)
      refine hnext _ ?_ ?_ ?_ ?_ ?_ ?_ ?_ ?_ ?_ <;> rfl
    | false =>
      rw [Bool.false_or] at hnext
      cases hb : atN e.to b with
      | none =>
        have hc : condB b sz r e = false := by unfold condB; rw [hb]
        rw [hc] at hnext
        have hB := fun t => s_At0 e.to b (by omega) hb t sb hsb
        obtain ⟨v2, b2, hL⟩ := lat_any e 0 sz
        repeat' (first
 | (refine I_WS ?_; first
 | refine W_lenM rfl rfl rfl ?_
 | refine W_iaddr (j := pre.length) rfl rfl rfl rfl rfl hpl ?_
 | (refine I_mov ?_; first
 | refine W_skip rfl ?_
 | refine W_mov (v := .int _ _) rfl rfl rfl ?_
 | refine W_mov (v := .bool _) rfl rfl rfl ?_
 | refine W_mov (v := .slice _ _ _) rfl rfl rfl ?_
 | refine W_mov (v := .tuple _) rfl rfl rfl ?_)
 | (refine I_bin ?_; first
 | refine W_skip rfl ?_
 | refine W_lssT rfl rfl rfl rfl (by omega) ?_
 | refine W_add rfl rfl rfl rfl (by first | exact w64 (by omega) | rfl) ?_)
 | (refine I_load ?_; first
 | refine W_skip rfl ?_
 | refine W_loadE (agg := true) (d := .agg [_, _, _, _, _, _, _, _]) rfl rfl rfl hv rfl ?_
 | refine W_loadE (agg := false) (d := .int _ _) rfl rfl rfl hv rfl ?_)
 | (refine I_call ?_; first
 | refine W_call rfl rfl rfl (hB _) rfl rfl ?_
 | refine W_call rfl rfl rfl hL rfl rfl ?_)
 | (refine I_pick ?_; first
 | refine W_pick (v := .bool _) rfl rfl rfl rfl ?_)
 | (refine I_extract ?_; first
 | refine W_extract (d := .int _ _) rfl rfl rfl rfl ?_
 | refine W_extract (d := .bool _) rfl rfl rfl rfl ?_)
 | refine W_faddrE rfl rfl rfl ?_
 | refine W_skip rfl ?_
 | refine WS_nil ?_)
 | refine okF_intro (okFlags_onlyR rfl) ?_
 | refine WC_seq ?_
 | refine WC_opsS ?_
 | refine WC_drawS ?_
 | refine WC_skip ?_
 | refine WC_condT rfl ?_
 | refine WC_block ?_)
        refine hnext _ ?_ ?_ ?_ ?_ ?_ ?_ ?_ ?_ ?_ <;> rfl
      | some t =>
        have hB := fun tk => s_At1 e.to b (by omega) t hb tk sb hsb
        cases hx : latO e t sz with
        | none =>
          have hc : condB b sz r e = false := by unfold condB; rw [hb]; simp only [hx]
          rw [hc] at hnext
          have hL := lat_none hx
          repeat' (first
 | (refine I_WS ?_; first
 | refine W_lenM rfl rfl rfl ?_
 | refine W_iaddr (j := pre.length) rfl rfl rfl rfl rfl hpl ?_
 | (refine I_mov ?_; first
 | refine W_skip rfl ?_
 | refine W_mov (v := .int _ _) rfl rfl rfl ?_
 | refine W_mov (v := .bool _) rfl rfl rfl ?_
 | refine W_mov (v := .slice _ _ _) rfl rfl rfl ?_
 | refine W_mov (v := .tuple _) rfl rfl rfl ?_)
 | (refine I_bin ?_; first
 | refine W_skip rfl ?_
 | refine W_lssT rfl rfl rfl rfl (by omega) ?_
 | refine W_add rfl rfl rfl rfl (by first | exact w64 (by omega) | rfl) ?_)
 | (refine I_load ?_; first
 | refine W_skip rfl ?_
 | refine W_loadE (agg := true) (d := .agg [_, _, _, _, _, _, _, _]) rfl rfl rfl hv rfl ?_
 | refine W_loadE (agg := false) (d := .int _ _) rfl rfl rfl hv rfl ?_)
 | (refine I_call ?_; first
 | refine W_call rfl rfl rfl (hB _) rfl rfl ?_
 | refine W_call rfl rfl rfl hL rfl rfl ?_)
 | (refine I_pick ?_; first
 | refine W_pick (v := .bool _) rfl rfl rfl rfl ?_)
 | (refine I_extract ?_; first
 | refine W_extract (d := .int _ _) rfl rfl rfl rfl ?_
 | refine W_extract (d := .bool _) rfl rfl rfl rfl ?_)
 | refine W_faddrE rfl rfl rfl ?_
 | refine W_skip rfl ?_
 | refine WS_nil ?_)
 | refine okF_intro (okFlags_onlyR rfl) ?_
 | refine WC_seq ?_
 | refine WC_opsS ?_
 | refine WC_drawS ?_
 | refine WC_skip ?_
 | refine WC_condT rfl ?_
 | refine WC_block ?_)
          refine hnext _ ?_ ?_ ?_ ?_ ?_ ?_ ?_ ?_ ?_ <;> rfl
        | some x =>
          have hL := lat_some hx
          have hc0 : condB b sz r e = (decide (e.fr = r.node) && decide (x = r.at')) := by unfold condB; rw [hb]; simp only [hx]
          by_cases hf : e.fr = r.node
          · by_cases hxe : x = r.at'
            · have hc : condB b sz r e = true := by rw [hc0]; simp [hf, hxe]
              rw [hc] at hnext
              repeat' (first
 | (refine I_WS ?_; first
 | refine W_lenM rfl rfl rfl ?_
 | refine W_iaddr (j := pre.length) rfl rfl rfl rfl rfl hpl ?_
 | refine W_iaddr (j := i) rfl rfl rfl rfl rfl hia ?_
 | refine W_eqlT rfl rfl rfl rfl hf ?_
 | refine W_eqlT rfl rfl rfl rfl hxe ?_
 | (refine I_mov ?_; first
 | refine W_mov (v := .int _ _) rfl rfl rfl ?_
 | refine W_mov (v := .bool _) rfl rfl rfl ?_
 | refine W_mov (v := .slice _ _ _) rfl rfl rfl ?_
 | refine W_mov (v := .tuple _) rfl rfl rfl ?_)
 | (refine I_bin ?_; first
 | refine W_lssT rfl rfl rfl rfl (by omega) ?_
 | refine W_add rfl rfl rfl rfl (by first | exact w64 (by omega) | rfl) ?_)
 | (refine I_load ?_; first
 | refine W_loadE (agg := true) (d := .agg [_, _, _, _, _, _, _, _]) rfl rfl rfl hv rfl ?_
 | refine W_loadE (agg := false) (d := .int _ _) rfl rfl rfl hv rfl ?_
 | refine W_loadE (agg := false) (d := .int _ _) rfl rfl rfl hr rfl ?_)
 | (refine I_call ?_; first
 | refine W_call rfl rfl rfl (hB _) rfl rfl ?_
 | refine W_call rfl rfl rfl hL rfl rfl ?_)
 | (refine I_pick ?_; first
 | refine W_pick (v := .bool _) rfl rfl rfl rfl ?_)
 | (refine I_extract ?_; first
 | refine W_extract (d := .int _ _) rfl rfl rfl rfl ?_
 | refine W_extract (d := .bool _) rfl rfl rfl rfl ?_)
 | refine W_faddrE rfl rfl rfl ?_
 | refine WS_nil ?_)
 | refine okF_intro (okFlags_onlyR rfl) ?_
 | refine WC_seq ?_
 | refine WC_opsS ?_
 | refine WC_drawS ?_
 | refine WC_skip ?_
 | refine WC_condT rfl ?_
 | refine WC_block ?_)
              refine hnext _ ?_ ?_ ?_ ?_ ?_ ?_ ?_ ?_ ?_ <;> rfl
            · have hc : condB b sz r e = false := by rw [hc0]; simp [hxe]
              rw [hc] at hnext
              repeat' (first
 | (refine I_WS ?_; first
 | refine W_lenM rfl rfl rfl ?_
 | refine W_iaddr (j := pre.length) rfl rfl rfl rfl rfl hpl ?_
 | refine W_iaddr (j := i) rfl rfl rfl rfl rfl hia ?_
 | refine W_eqlT rfl rfl rfl rfl hf ?_
 | refine W_eqlF rfl rfl rfl rfl hxe ?_
 | (refine I_mov ?_; first
 | refine W_mov (v := .int _ _) rfl rfl rfl ?_
 | refine W_mov (v := .bool _) rfl rfl rfl ?_
 | refine W_mov (v := .slice _ _ _) rfl rfl rfl ?_
 | refine W_mov (v := .tuple _) rfl rfl rfl ?_)
 | (refine I_bin ?_; first
 | refine W_lssT rfl rfl rfl rfl (by omega) ?_
 | refine W_add rfl rfl rfl rfl (by first | exact w64 (by omega) | rfl) ?_)
 | (refine I_load ?_; first
 | refine W_loadE (agg := true) (d := .agg [_, _, _, _, _, _, _, _]) rfl rfl rfl hv rfl ?_
 | refine W_loadE (agg := false) (d := .int _ _) rfl rfl rfl hv rfl ?_
 | refine W_loadE (agg := false) (d := .int _ _) rfl rfl rfl hr rfl ?_)
 | (refine I_call ?_; first
 | refine W_call rfl rfl rfl (hB _) rfl rfl ?_
 | refine W_call rfl rfl rfl hL rfl rfl ?_)
 | (refine I_pick ?_; first
 | refine W_pick (v := .bool _) rfl rfl rfl rfl ?_)
 | (refine I_extract ?_; first
 | refine W_extract (d := .int _ _) rfl rfl rfl rfl ?_
 | refine W_extract (d := .bool _) rfl rfl rfl rfl ?_)
 | refine W_faddrE rfl rfl rfl ?_
 | refine WS_nil ?_)
 | refine okF_intro (okFlags_onlyR rfl) ?_
 | refine WC_seq ?_
 | refine WC_opsS ?_
 | refine WC_drawS ?_
 | refine WC_skip ?_
 | refine WC_condT rfl ?_
 | refine WC_block ?_)
              refine hnext _ ?_ ?_ ?_ ?_ ?_ ?_ ?_ ?_ ?_ <;> rfl
          · have hc : condB b sz r e = false := by rw [hc0]; simp [hf]
            rw [hc] at hnext
            repeat' (first
 | (refine I_WS ?_; first
 | refine W_lenM rfl rfl rfl ?_
 | refine W_iaddr (j := pre.length) rfl rfl rfl rfl rfl hpl ?_
 | refine W_iaddr (j := i) rfl rfl rfl rfl rfl hia ?_
 | refine W_eqlF rfl rfl rfl rfl hf ?_
 | (refine I_mov ?_; first
 | refine W_skip rfl ?_
 | refine W_mov (v := .int _ _) rfl rfl rfl ?_
 | refine W_mov (v := .bool _) rfl rfl rfl ?_
 | refine W_mov (v := .slice _ _ _) rfl rfl rfl ?_
 | refine W_mov (v := .tuple _) rfl rfl rfl ?_)
 | (refine I_bin ?_; first
 | refine W_skip rfl ?_
 | refine W_lssT rfl rfl rfl rfl (by omega) ?_
 | refine W_add rfl rfl rfl rfl (by first | exact w64 (by omega) | rfl) ?_)
 | (refine I_load ?_; first
 | refine W_skip rfl ?_
 | refine W_loadE (agg := true) (d := .agg [_, _, _, _, _, _, _, _]) rfl rfl rfl hv rfl ?_
 | refine W_loadE (agg := false) (d := .int _ _) rfl rfl rfl hv rfl ?_
 | refine W_loadE (agg := false) (d := .int _ _) rfl rfl rfl hr rfl ?_)
 | (refine I_call ?_; first
 | refine W_call rfl rfl rfl (hB _) rfl rfl ?_
 | refine W_call rfl rfl rfl hL rfl rfl ?_)
 | (refine I_pick ?_; first
 | refine W_pick (v := .bool _) rfl rfl rfl rfl ?_)
 | (refine I_extract ?_; first
 | refine W_extract (d := .int _ _) rfl rfl rfl rfl ?_
 | refine W_extract (d := .bool _) rfl rfl rfl rfl ?_)
 | refine W_faddrE rfl rfl rfl ?_
 | refine W_skip rfl ?_
 | refine WS_nil ?_)
 | refine okF_intro (okFlags_onlyR rfl) ?_
 | refine WC_seq ?_
 | refine WC_opsS ?_
 | refine WC_drawS ?_
 | refine WC_skip ?_
 | refine WC_condT rfl ?_
 | refine WC_block ?_)
            refine hnext _ ?_ ?_ ?_ ?_ ?_ ?_ ?_ ?_ ?_ <;> rfl
set_option maxHeartbeats 4000000 in
theorem l_D2 (l : List Eg) (hll : l.length ≤ 1000) (a b : List Rd) (to sz : Int) (hal : a.length ≤ 1000000) (hbl : b.length ≤ 1000000) (hW : ∀ r ∈ a, (decide (r.node = to) || l.any (condB b sz r)) = true) (ta tb : Tok) (sa sb : Nat) (hsa : sa = 2 ∨ a = []) (hsb : sb = 2 ∨ b = []) : ∀ (post pre : List Rd), a = pre ++ post → ∀ (ρ : Nat → D) (st : Store),
    ρ 0 = .slice .no 8 (l.map Eg.e) → ρ 1 = .int .i64 to → ρ 3 = .int .i64 sz → ρ 11 = .bool true → ρ 12 = .slice ta sa (a.map Rd.e) → ρ 13 = .slice tb sb (b.map Rd.e) → ρ 21 = .int .i64 pre.length → ∀ (Q : X → (Nat → D) → Store → Prop),
    (∀ ρ', ρ' 11 = .bool true → ρ' 12 = .slice ta sa (a.map Rd.e) → ρ' 13 = .slice tb sb (b.map Rd.e) → Q (.exit 2) ρ' st) → WC Γ2 (.loop c_feluccalaw16_LateEdges_l2) ρ st Q := by
  intro post
  induction post with
  | nil =>
    intro pre hpp ρ st h0 h1 h3 h11 h12 h13 h21 Q hQ
    rw [List.append_nil] at hpp
    subst hpp
    rw [← upd_self h0, ← upd_self h1, ← upd_self h3, ← upd_self h11, ← upd_self h12, ← upd_self h13, ← upd_self h21]
    refine WC_loop ?_
    repeat' (first
 | (refine I_WS ?_; first
 | refine W_lenM rfl rfl rfl ?_
 | (refine I_mov ?_; first
 | refine W_mov (v := .int _ _) rfl rfl rfl ?_
 | refine W_mov (v := .slice _ _ _) rfl rfl rfl ?_)
 | (refine I_bin ?_; first
 | refine W_lssF rfl rfl rfl rfl (by omega) ?_)
 | refine WS_nil ?_)
 | refine WC_seq ?_
 | refine WC_opsS ?_
 | refine WC_condF rfl ?_
 | refine WC_exit ?_)
    refine hQ _ ?_ ?_ ?_ <;> rfl
  | cons r post ih =>
    intro pre hpp ρ st h0 h1 h3 h11 h12 h13 h21 Q hQ
    have hv := rd_mid hpp
    have hlen : a.length = pre.length + (post.length + 1) := by rw [hpp]; simp
    have hz : sa = 2 := hsa.resolve_right (by rintro rfl; simp at hlen)
    subst hz
    have hpl : pre.length < (a.map Rd.e).length := by simp; omega
    have hltl : (pre.length : Int) < a.length := by omega
    have hWr := hW r (List.mem_of_getElem? hv)
    have hnext : ∀ (ρ' : Nat → D), ρ' 0 = .slice .no 8 (l.map Eg.e) → ρ' 1 = .int .i64 to → ρ' 3 = .int .i64 sz → ρ' 11 = .bool true → ρ' 12 = .slice ta 2 (a.map Rd.e) → ρ' 13 = .slice tb sb (b.map Rd.e) → ρ' 21 = .int .i64 ((pre.length : Int) + 1) → WC Γ2 (.loop c_feluccalaw16_LateEdges_l2) ρ' st Q := fun ρ' k0 k1 k3 k11 k12 k13 k21 =>
      ih (pre ++ [r]) (by simp [hpp]) ρ' st k0 k1 k3 k11 k12 k13 (by rw [List.length_append]; exact k21) Q hQ
    have hl4 := l_D4 l hll a b to sz hal hbl ta tb sb hsb pre.length r hv l [] rfl
    clear ih hQ hpp hW
    rw [← upd_self h0, ← upd_self h1, ← upd_self h3, ← upd_self h11, ← upd_self h12, ← upd_self h13, ← upd_self h21]
    refine WC_loop ?_
    by_cases hn : r.node = to
    · rw [decide_eq_true hn] at hWr
      repeat' (first
 | (refine I_WS ?_; first
 | refine W_lenM rfl rfl rfl ?_
 | refine W_iaddr (j := pre.length) rfl rfl rfl rfl rfl hpl ?_
 | refine W_eqlT rfl rfl rfl rfl hn ?_
 | (refine I_mov ?_; first
 | refine W_mov (v := .int _ _) rfl rfl rfl ?_
 | refine W_mov (v := .bool _) rfl rfl rfl ?_
 | refine W_mov (v := .slice _ _ _) rfl rfl rfl ?_)
 | (refine I_bin ?_; first
 | refine W_lssT rfl rfl rfl rfl (by omega) ?_)
 | (refine I_load ?_; first
 | refine W_loadE (agg := false) (d := .int _ _) rfl rfl rfl hv rfl ?_)
 | refine W_faddrE rfl rfl rfl ?_
 | refine WS_nil ?_)
 | refine WC_seq ?_
 | refine WC_opsS ?_
 | refine WC_skip ?_
 | refine WC_condT rfl ?_
 | refine WC_block ?_)
      refine hl4 true _ st ?_ ?_ ?_ ?_ ?_ ?_ ?_ ?_ ?_ _ (fun ρ' k0 k1 k3 k11 k12 k13 k21 k22 => ?_)
      all_goals first | rfl | skip
      rw [Bool.true_or] at k22
      rw [← upd_self k0, ← upd_self k1, ← upd_self k3, ← upd_self k11, ← upd_self k12, ← upd_self k13, ← upd_self k21, ← upd_self k22]
      repeat' (first
 | (refine I_WS ?_; first
 | (refine I_mov ?_; first
 | refine W_mov (v := .int _ _) rfl rfl rfl ?_
 | refine W_mov (v := .bool _) rfl rfl rfl ?_)
 | (refine I_bin ?_; first
 | refine W_add rfl rfl rfl rfl (by first | exact w64 (by omega) | rfl) ?_)
 | refine W_not rfl rfl rfl ?_
 | refine WS_nil ?_)
 | refine WC_seq ?_
 | refine WC_opsS ?_
 | refine WC_skip ?_
 | refine WC_condF rfl ?_)
      refine hnext _ ?_ ?_ ?_ ?_ ?_ ?_ ?_ <;> rfl
    · rw [decide_eq_false hn, Bool.false_or] at hWr
      repeat' (first
 | (refine I_WS ?_; first
 | refine W_lenM rfl rfl rfl ?_
 | refine W_iaddr (j := pre.length) rfl rfl rfl rfl rfl hpl ?_
 | refine W_eqlF rfl rfl rfl rfl hn ?_
 | (refine I_mov ?_; first
 | refine W_mov (v := .int _ _) rfl rfl rfl ?_
 | refine W_mov (v := .bool _) rfl rfl rfl ?_
 | refine W_mov (v := .slice _ _ _) rfl rfl rfl ?_)
 | (refine I_bin ?_; first
 | refine W_lssT rfl rfl rfl rfl (by omega) ?_)
 | (refine I_load ?_; first
 | refine W_loadE (agg := false) (d := .int _ _) rfl rfl rfl hv rfl ?_)
 | refine W_faddrE rfl rfl rfl ?_
 | refine WS_nil ?_)
 | refine WC_seq ?_
 | refine WC_opsS ?_
 | refine WC_skip ?_
 | refine WC_condT rfl ?_
 | refine WC_block ?_)
      refine hl4 false _ st ?_ ?_ ?_ ?_ ?_ ?_ ?_ ?_ ?_ _ (fun ρ' k0 k1 k3 k11 k12 k13 k21 k22 => ?_)
      all_goals first | rfl | skip
      rw [Bool.false_or, hWr] at k22
      rw [← upd_self k0, ← upd_self k1, ← upd_self k3, ← upd_self k11, ← upd_self k12, ← upd_self k13, ← upd_self k21, ← upd_self k22]
      repeat' (first
 | (refine I_WS ?_; first
 | (refine I_mov ?_; first
 | refine W_mov (v := .int _ _) rfl rfl rfl ?_
 | refine W_mov (v := .bool _) rfl rfl rfl ?_)
 | (refine I_bin ?_; first
 | refine W_add rfl rfl rfl rfl (by first | exact w64 (by omega) | rfl) ?_)
 | refine W_not rfl rfl rfl ?_
 | refine WS_nil ?_)
 | refine WC_seq ?_
 | refine WC_opsS ?_
 | refine WC_skip ?_
 | refine WC_condF rfl ?_)
      refine hnext _ ?_ ?_ ?_ ?_ ?_ ?_ ?_ <;> rfl
set_option maxHeartbeats 4000000 in
theorem run_Edges (l : List Eg) (to by' sz hops : Int) : EvP Γ2 5 [.slice .no 8 (l.map Eg.e), .int .i64 to, .int .i64 by', .int .i64 sz, .int .i64 hops] (.bool true) := by
  refine EvP_code rfl rfl ?_
  by_cases hf : l.length ≤ 30 ∧ 1 ≤ hops ∧ hops ≤ 20
  · obtain ⟨f1, f2, f3⟩ := hf
    have hT := fun hops => s_lTimes l (by omega) to by' sz hops [] (by simp) .no .isnil 8 0 (.inl rfl) (.inr rfl)
    have hsq := sq900 (n := l.length) (by omega)
    have hl := lateM_len l to by' sz hops []
    have hl1 := lateM_len l to by' sz (hops - 1) []
    have hm := len_more (l := l) (to := to) (by' := by') (sz := sz) (shut := []) hops
    have hD : ∀ e ∈ l, ∀ t x, atN e.to (lateM l to by' sz (hops - 1) []) = some t → latO e t sz = some x → e.fr ≠ to → ∃ u, atN e.fr (lateM l to by' sz hops []) = some u ∧ x ≤ u := fun e he t x h1 h2 h3 => edge_ok he h1 h2 h3
    have hW : ∀ r ∈ lateM l to by' sz hops [], (decide (r.node = to) || l.any (condB (lateM l to by' sz (hops - 1) []) sz r)) = true := fun r hr => by
      by_cases hn : r.node = to
      · simp [hn]
      · obtain ⟨e, he, h1, b, h2, h3⟩ := why_ok f2 hr hn
        rw [decide_eq_false hn, Bool.false_or, List.any_eq_true]
        exact ⟨e, he, by unfold condB; rw [h2]; simp only [h3]; simp [h1]⟩
    have hT1 := hT hops
    have hT2 := hT (hops - 1)
    clear hT
    have hw : IntKind.i64.wrap (hops - 1) = hops - 1 := w64 (by omega)
    generalize lateM l to by' sz hops [] = a at *
    generalize lateM l to by' sz (hops - 1) [] = b at *
    have hm' : (b.length : Int) ≤ a.length := by omega
    repeat' (first
 | (refine I_WS ?_; first
 | refine W_lenM rfl rfl rfl ?_
 | refine W_sub (s := hops - 1) rfl rfl rfl rfl hw ?_
 | (refine I_mov ?_; first
 | refine W_mov (v := .int _ _) rfl rfl rfl ?_
 | refine W_mov (v := .bool _) rfl rfl rfl ?_
 | refine W_mov (v := .slice _ _ _) rfl rfl rfl ?_)
 | (refine I_bin ?_; first
 | refine W_lssF rfl rfl rfl rfl (by omega) ?_
 | refine W_gtrF rfl rfl rfl rfl (by omega) ?_)
 | (refine I_call ?_; first
 | refine W_call rfl rfl rfl s_small rfl rfl ?_
 | (refine W_callN rfl rfl rfl hT1 rfl ?_; intro ta sa hsa hta)
 | (refine W_callN rfl rfl rfl hT2 rfl ?_; intro tb sb hsb htb))
 | (refine I_pick ?_; first
 | refine W_pick (v := .bool _) rfl rfl rfl rfl ?_)
 | refine WS_nil ?_)
 | refine WC_seq ?_
 | refine WC_opsS ?_
 | refine WC_skip ?_
 | refine WC_condF rfl ?_
 | refine WC_block ?_)
    refine l_D1 l (by omega) a b to sz (by omega) (by omega) hD ta tb sa sb hsa hsb l [] rfl _ _ ?_ ?_ ?_ ?_ ?_ ?_ ?_ _ (fun ρ' k0 k1 k3 k11 k12 k13 => ?_)
    all_goals first | rfl | skip
    rw [← upd_self k0, ← upd_self k1, ← upd_self k3, ← upd_self k11, ← upd_self k12, ← upd_self k13]
    repeat' (first
 | (refine I_WS ?_; first
 | (refine I_mov ?_; first
 | refine W_mov (v := .int _ _) rfl rfl rfl ?_)
 | refine WS_nil ?_)
 | refine WC_seq ?_
 | refine WC_opsS ?_
 | refine WC_block ?_)
    refine l_D2 l (by omega) a b to sz (by omega) (by omega) hW ta tb sa sb hsa hsb a [] rfl _ _ ?_ ?_ ?_ ?_ ?_ ?_ ?_ _ (fun ρ' k11 k12 k13 => ?_)
    all_goals first | rfl | skip
    rw [← upd_self k11, ← upd_self k12, ← upd_self k13]
    repeat' (first
 | (refine I_WS ?_; first
 | refine W_lenM rfl rfl rfl ?_
 | (refine I_mov ?_; first
 | refine W_mov (v := .bool _) rfl rfl rfl ?_
 | refine W_mov (v := .slice _ _ _) rfl rfl rfl ?_)
 | (refine I_bin ?_; first
 | refine W_geqT rfl rfl rfl rfl (by omega) ?_)
 | (refine I_pick ?_; first
 | refine W_pick (v := .bool _) rfl rfl rfl rfl ?_)
 | refine WS_nil ?_)
 | refine WC_seq ?_
 | refine WC_opsS ?_
 | refine WC_ret ?_)
    all_goals first | exact fin_bool (.inr rfl) rfl rfl | (exfalso; omega)
  · repeat' (first
 | (refine I_WS ?_; first
 | refine W_lenM rfl rfl rfl ?_
 | (refine I_mov ?_; first
 | refine W_skip rfl ?_
 | refine W_mov (v := .int _ _) rfl rfl rfl ?_
 | refine W_mov (v := .bool _) rfl rfl rfl ?_
 | refine W_mov (v := .slice _ _ _) rfl rfl rfl ?_)
 | (refine I_bin ?_; first
 | refine W_skip rfl ?_
 | (refine W_lss rfl rfl rfl rfl ?_ ?_ <;> intro _)
 | refine W_gtrT rfl rfl rfl rfl (by omega) ?_
 | (refine W_gtr rfl rfl rfl rfl ?_ ?_ <;> intro _))
 | (refine I_call ?_; first
 | refine W_call rfl rfl rfl s_small rfl rfl ?_)
 | (refine I_pick ?_; first
 | refine W_pick (v := .bool _) rfl rfl rfl rfl ?_)
 | refine WS_nil ?_)
 | refine WC_seq ?_
 | refine WC_opsS ?_
 | refine WC_condT rfl ?_
 | refine WC_ret ?_)
    all_goals first | exact fin_bool (.inr rfl) rfl rfl | (exfalso; omega)
end Go.Lat
