/-
  All edges of a plan.
-/
import Derived.Test.YtdjokmfncammeaaVitVieO
set_option linter.unusedVariables false
set_option linter.unusedSimpArgs false
set_option linter.unnecessarySimpa false

namespace Go.Vit
open Go.Ev
set_option linter.unusedVariables false
set_option linter.unusedSimpArgs false
theorem s_Edge' (p : Pl) (hp : p.Sm) (lg : List Bk) (hlg : Led lg) (c : Ct) (hc : In64 c.en) (k : Int) (t : Tok) (sz : Nat) (hsz : sz = 4 ∨ lg = []) (r : Eg) (b : Bool) (hr : (edg p.rs lg k c).getD zeroE = r) (hb : (edg p.rs lg k c).isSome = b) : EvP Γ 12 [p.e, .slice t sz (lg.map Bk.e), c.e, .int .i64 k] (.tuple [r.e, .bool b]) := by
  rw [← hr, ← hb]
  exact s_Edge p hp lg hlg c hc k t sz hsz
/-- What is there of the edges. -/
def OutOK (st : Store) (d : D) (es : List Eg) : Prop := (es = [] ∧ d = .slice .isnil 0 []) ∨ ∃ q n c, 0 < q ∧ n = es.length ∧ es ≠ [] ∧ d = .rs q 0 8 n c ∧ RowIs st q 8 (es.map Eg.e)
theorem OutOK.of {st st' : Store} {d : D} {es : List Eg} (h : OutOK st d es) (hl : st'.lim ≤ 0) (hn : st.next ≤ st'.next) (hb : ∀ q, q < st.next → st'.boxes q = st.boxes q) : OutOK st' d es := by
  rcases h with h | ⟨q, n, c, h0, h1, h2, h3, hR⟩
  · exact .inl h
  · have hq := hR.2.1
    exact .inr ⟨q, n, c, h0, h1, h2, h3, hR.of (by omega) (by omega) (hb q hq)⟩
theorem elem8 (e : Eg) : ∀ d ∈ [e.e], Elem 8 d := fun d hd => by
  rw [List.mem_singleton.mp hd]
  exact ⟨rfl, rfl⟩
set_option maxHeartbeats 4000000 in
theorem l_All (p : Pl) (hp : p.Sm) (lg : List Bk) (hlg : Led lg) (k : Int) (t : Tok) (sz : Nat) (hsz : sz = 4 ∨ lg = []) : ∀ (post pre : List Ct), p.cs = pre ++ post → ∀ (ρ : Nat → D) (st : Store) (d6 : D), st.lim ≤ 0 → 0 < st.next → st.boxes 0 = some (.cells p.e.cells) → OutOK st d6 (pre.filterMap (edg p.rs lg k)) →
    ρ 1 = .slice t sz (lg.map Bk.e) → ρ 2 = .int .i64 k → ρ 3 = .ptr 0 0 → ρ 6 = d6 → ρ 12 = .slice .no 6 (p.cs.map Ct.e) → ρ 13 = .int .i64 p.cs.length → ρ 14 = .int .i64 pre.length → ∀ (Q : X → (Nat → D) → Store → Prop),
    (∀ ρ' st' d6, OutOK st' d6 (p.cs.filterMap (edg p.rs lg k)) → ρ' 6 = d6 → Q (.exit 0) ρ' st') → WC Γ (.loop c_view_All_l0) ρ st Q := by
  intro post
  induction post with
  | nil =>
    intro pre hpp ρ st d6 hlim hnx hb0 hO h1 h2 h3 h6 h12 h13 h14 Q hQ
    rw [List.append_nil] at hpp
    rw [← hpp] at hO
    have hlen : p.cs.length = pre.length := by rw [hpp]
    rw [← upd_self h1, ← upd_self h2, ← upd_self h3, ← upd_self h6, ← upd_self h12, ← upd_self h13, ← upd_self h14]
    refine WC_loop ?_
    repeat' (first
 | (refine I_WS ?_; first
 | (refine I_bin ?_; first
 | refine W_lssF rfl rfl rfl rfl (by omega) ?_)
 | refine WS_nil ?_)
 | refine WC_seq ?_
 | refine WC_opsS ?_
 | refine WC_condF rfl ?_
 | refine WC_exit ?_)
    exact hQ _ _ d6 hO rfl
  | cons x post ih =>
    intro pre hpp ρ st d6 hlim hnx hb0 hO h1 h2 h3 h6 h12 h13 h14 Q hQ
    have hv := l_mid hpp
    have hlen : p.cs.length = pre.length + (post.length + 1) := by rw [hpp]; simp
    have hlim2 : st.lim ≤ st.next := by omega
    have hlim3 : st.lim ≤ st.next + 1 := by omega
    have h0n : (0 : Nat) ≠ st.next := by omega
    have h0n1 : (0 : Nat) ≠ st.next + 1 := by omega
    have hpl : pre.length < (p.cs.map Ct.e).length := by simp; omega
    have hltl : (pre.length : Int) < p.cs.length := by omega
    have hcl := hp.hc
    have hE := fun r b h1 h2 t => s_Edge' p hp lg hlg x (hp.ic x (by rw [hpp]; simp)) k t sz hsz r b h1 h2
    have hel := List.length_filterMap_le (edg p.rs lg k) pre
    have hsn : (pre ++ [x]).filterMap (edg p.rs lg k) = pre.filterMap (edg p.rs lg k) ++ (edg p.rs lg k x).toList := by
      rw [List.filterMap_append]
      cases h : edg p.rs lg k x <;> simp [h]
    have hnext : ∀ (ρ' : Nat → D) (st' : Store) (d : D), st'.lim ≤ 0 → 0 < st'.next → st'.boxes 0 = some (.cells p.e.cells) → OutOK st' d ((pre ++ [x]).filterMap (edg p.rs lg k)) → ρ' 1 = .slice t sz (lg.map Bk.e) → ρ' 2 = .int .i64 k → ρ' 3 = .ptr 0 0 → ρ' 6 = d → ρ' 12 = .slice .no 6 (p.cs.map Ct.e) → ρ' 13 = .int .i64 p.cs.length → ρ' 14 = .int .i64 ((pre.length : Int) + 1) → WC Γ (.loop c_view_All_l0) ρ' st' Q := by
      intro ρ' st' d e1 e2 e3 e4 e5 e6 e7 e8 e9 e10 e11
      exact ih (pre ++ [x]) (by simp [hpp]) ρ' st' d e1 e2 e3 e4 e5 e6 e7 e8 e9 e10 (by rw [List.length_append]; exact e11) Q hQ
    clear ih hlg hsz hpp
    generalize hes : pre.filterMap (edg p.rs lg k) = es at *
    rw [← upd_self h1, ← upd_self h2, ← upd_self h3, ← upd_self h6, ← upd_self h12, ← upd_self h13, ← upd_self h14]
    refine WC_loop ?_
    cases he : edg p.rs lg k x with
    | none =>
      rw [he] at hsn hE
      have hE2 := hE zeroE false rfl rfl
      clear hE
      rw [Option.toList_none, List.append_nil] at hsn
      repeat' (first
 | (refine I_WS ?_; first
 | refine W_iaddr (j := pre.length) rfl rfl rfl rfl rfl hpl ?_
 | refine W_store (cs' := [_, _, _, _, _, _]) rfl rfl (upd_same _ _ _) rfl hlim2 rfl rfl rfl ?_
 | refine W_store (cs' := [_, _, _, _, _, _, _, _]) rfl rfl (upd_same _ _ _) rfl hlim3 rfl rfl rfl ?_
 | (refine I_mov ?_; first
 | refine W_mov (v := .int _ _) rfl rfl rfl ?_
 | refine W_mov (v := .bool _) rfl rfl rfl ?_
 | refine W_mov (v := .slice _ _ _) rfl rfl rfl ?_
 | refine W_mov (v := .tuple _) rfl rfl rfl ?_)
 | (refine I_bin ?_; first
 | refine W_lssT rfl rfl rfl rfl (by omega) ?_
 | refine W_add rfl rfl rfl rfl (by first | exact w64 (by omega) | rfl) ?_)
 | (refine I_load ?_; first
 | refine W_loadE (agg := true) (d := .agg [_, _, _, _, _, _]) rfl rfl rfl hv rfl ?_
 | refine W_load (agg := true) (d := .agg [_, _, _, _, _, _]) rfl rfl rfl (bxc rfl) hlim2 rfl ?_
 | refine W_load (agg := true) (d := .agg [_, _, _, _]) rfl rfl rfl (bxs h0n (bxs h0n (congrArg (·.bind Box.cs) hb0))) hlim rfl ?_)
 | (refine I_call ?_; first
 | refine W_call rfl rfl rfl (hE2 _) rfl rfl ?_)
 | (refine I_extract ?_; first
 | refine W_extract (d := .bool _) rfl rfl rfl rfl ?_
 | refine W_extract (d := .agg _) rfl rfl rfl rfl ?_)
 | refine W_alloc rfl rfl ?_
 | refine WS_nil ?_)
 | refine WC_seq ?_
 | refine WC_opsS ?_
 | refine WC_skip ?_
 | refine WC_condT rfl ?_
 | refine WC_condF rfl ?_
 | refine WC_block ?_)
      refine hnext _ _ d6 ?_ ?_ ?_ ?_ ?_ ?_ ?_ ?_ ?_ ?_ ?_
      · exact hlim
      · exact Nat.succ_pos _
      · exact (by dsimp only; rw [upd_ne _ _ h0n1, upd_ne _ _ h0n1, upd_ne _ _ h0n, upd_ne _ _ h0n]; exact hb0)
      · rw [hsn]
        exact hO.of hlim (by exact Nat.le_succ_of_le (Nat.le_succ _)) (fun q hq => by dsimp only; rw [upd_ne _ _ (show q ≠ st.next + 1 by omega), upd_ne _ _ (show q ≠ st.next + 1 by omega), upd_ne _ _ (show q ≠ st.next by omega), upd_ne _ _ (show q ≠ st.next by omega)])
      · rfl
      · rfl
      · rfl
      · rfl
      · rfl
      · rfl
      · rfl
    | some r =>
      rw [he] at hsn hE
      have hE2 := hE r true rfl rfl
      clear hE
      have hlim4 : st.lim ≤ st.next + 1 + 1 := by omega
      have hnil : ∀ d ∈ ([] : List D), Elem 8 d := by simp
      have hb64 : (([] : List D).length + [r.e].length) * 64 ≤ 140737488355328 := by simp
      have hsn2 : (pre ++ [x]).filterMap (edg p.rs lg k) = es ++ [r] := hsn
      clear hsn
      rcases hO with ⟨rfl, rfl⟩ | ⟨q, n, c, h0, hn, hne, rfl, hR⟩
      · repeat' (first
 | (refine I_WS ?_; first
 | refine W_iaddr (j := pre.length) rfl rfl rfl rfl rfl hpl ?_
 | refine W_store (cs' := [_, _, _, _, _, _]) rfl rfl (upd_same _ _ _) rfl hlim2 rfl rfl rfl ?_
 | refine W_store (cs' := [_, _, _, _, _, _, _, _]) rfl rfl (upd_same _ _ _) rfl hlim3 rfl rfl rfl ?_
 | (refine W_appNew (t0 := .isnil) (xs := []) (ys := [r.e]) rfl rfl (.inr rfl) (.inr rfl) rfl rfl (.inl rfl) (Nat.succ_pos _) hnil (elem8 r) hb64 hlim4 ?_ <;> intro st1 e1 e2 e3 e4 e5 e6 e7)
 | (refine I_mov ?_; first
 | refine W_mov (v := .int _ _) rfl rfl rfl ?_
 | refine W_mov (v := .bool _) rfl rfl rfl ?_
 | refine W_mov (v := .slice _ _ _) rfl rfl rfl ?_
 | refine W_mov (v := .rs _ _ _ _ _) rfl rfl rfl ?_
 | refine W_mov (v := .tuple _) rfl rfl rfl ?_)
 | (refine I_bin ?_; first
 | refine W_lssT rfl rfl rfl rfl (by omega) ?_
 | refine W_add rfl rfl rfl rfl (by first | exact w64 (by omega) | rfl) ?_)
 | (refine I_load ?_; first
 | refine W_loadE (agg := true) (d := .agg [_, _, _, _, _, _]) rfl rfl rfl hv rfl ?_
 | refine W_load (agg := true) (d := .agg [_, _, _, _, _, _]) rfl rfl rfl (bxc rfl) hlim2 rfl ?_
 | refine W_load (agg := true) (d := .agg [_, _, _, _]) rfl rfl rfl (bxs h0n (bxs h0n (congrArg (·.bind Box.cs) hb0))) hlim rfl ?_
 | refine W_load (agg := true) (d := .agg [_, _, _, _, _, _, _, _]) rfl rfl rfl (bxc rfl) hlim3 rfl ?_)
 | (refine I_call ?_; first
 | refine W_call rfl rfl rfl (hE2 _) rfl rfl ?_)
 | (refine I_extract ?_; first
 | refine W_extract (d := .bool _) rfl rfl rfl rfl ?_
 | refine W_extract (d := .agg _) rfl rfl rfl rfl ?_)
 | refine W_alloc rfl rfl ?_
 | refine W_bslice (ys := [_]) rfl rfl rfl (by decide) rfl ?_
 | refine WS_nil ?_)
 | refine WC_seq ?_
 | refine WC_opsS ?_
 | refine WC_skip ?_
 | refine WC_condT rfl ?_
 | refine WC_block ?_)
        refine hnext _ _ (.rs (st.next + 1 + 1) 0 8 (0 + 1) (0 + 1)) ?_ ?_ ?_ ?_ ?_ ?_ ?_ ?_ ?_ ?_ ?_
        · rw [e1]; exact hlim
        · rw [e7]; exact Nat.succ_pos _
        · exact (e6 0 (by exact Nat.succ_pos _)).trans (by dsimp only; rw [upd_ne _ _ h0n1, upd_ne _ _ h0n1, upd_ne _ _ h0n, upd_ne _ _ h0n]; exact hb0)
        · rw [hsn2]
          exact .inr ⟨_, _, _, Nat.succ_pos _, rfl, by simp, rfl, e5⟩
        · rfl
        · rfl
        · rfl
        · rfl
        · rfl
        · rfl
        · rfl
      · have hby : (n + ([r.e] : List D).length) * 64 ≤ 140737488355328 := by simp; omega
        have hqn := hR.2.1
        have hlq : st.lim ≤ q := by omega
        have hnm : n = (es.map Eg.e).length := by simp [hn]
        repeat' (first
 | (refine I_WS ?_; first
 | refine W_iaddr (j := pre.length) rfl rfl rfl rfl rfl hpl ?_
 | refine W_store (cs' := [_, _, _, _, _, _]) rfl rfl (upd_same _ _ _) rfl hlim2 rfl rfl rfl ?_
 | refine W_store (cs' := [_, _, _, _, _, _, _, _]) rfl rfl (upd_same _ _ _) rfl hlim3 rfl rfl rfl ?_
 | (refine W_appRow (ys := [r.e]) rfl rfl rfl (hR.of (by exact hlq) (by show q < st.next + 1 + 1; omega) (by dsimp only; rw [upd_ne _ _ (show q ≠ st.next + 1 by omega), upd_ne _ _ (show q ≠ st.next + 1 by omega), upd_ne _ _ (show q ≠ st.next by omega), upd_ne _ _ (show q ≠ st.next by omega)])) hnm (.inl rfl) el8 (elem8 r) hby ?_ <;> intro p' c' st1 e1 e2 e3 e4 e5 e6 e7 e8)
 | (refine I_mov ?_; first
 | refine W_mov (v := .int _ _) rfl rfl rfl ?_
 | refine W_mov (v := .bool _) rfl rfl rfl ?_
 | refine W_mov (v := .slice _ _ _) rfl rfl rfl ?_
 | refine W_mov (v := .rs _ _ _ _ _) rfl rfl rfl ?_
 | refine W_mov (v := .tuple _) rfl rfl rfl ?_)
 | (refine I_bin ?_; first
 | refine W_lssT rfl rfl rfl rfl (by omega) ?_
 | refine W_add rfl rfl rfl rfl (by first | exact w64 (by omega) | rfl) ?_)
 | (refine I_load ?_; first
 | refine W_loadE (agg := true) (d := .agg [_, _, _, _, _, _]) rfl rfl rfl hv rfl ?_
 | refine W_load (agg := true) (d := .agg [_, _, _, _, _, _]) rfl rfl rfl (bxc rfl) hlim2 rfl ?_
 | refine W_load (agg := true) (d := .agg [_, _, _, _]) rfl rfl rfl (bxs h0n (bxs h0n (congrArg (·.bind Box.cs) hb0))) hlim rfl ?_
 | refine W_load (agg := true) (d := .agg [_, _, _, _, _, _, _, _]) rfl rfl rfl (bxc rfl) hlim3 rfl ?_)
 | (refine I_call ?_; first
 | refine W_call rfl rfl rfl (hE2 _) rfl rfl ?_)
 | (refine I_extract ?_; first
 | refine W_extract (d := .bool _) rfl rfl rfl rfl ?_
 | refine W_extract (d := .agg _) rfl rfl rfl rfl ?_)
 | refine W_alloc rfl rfl ?_
 | refine W_bslice (ys := [_]) rfl rfl rfl (by decide) rfl ?_
 | refine WS_nil ?_)
 | refine WC_seq ?_
 | refine WC_opsS ?_
 | refine WC_skip ?_
 | refine WC_condT rfl ?_
 | refine WC_block ?_)
        refine hnext _ _ (.rs p' 0 8 (n + 1) c') ?_ ?_ ?_ ?_ ?_ ?_ ?_ ?_ ?_ ?_ ?_
        · rw [e1]; exact hlim
        · exact Nat.lt_of_lt_of_le (Nat.succ_pos _) e7
        · exact (e6 0 (by omega) (by exact Nat.succ_pos _)).trans (by dsimp only; rw [upd_ne _ _ h0n1, upd_ne _ _ h0n1, upd_ne _ _ h0n, upd_ne _ _ h0n]; exact hb0)
        · rw [hsn2]
          refine .inr ⟨p', n + 1, c', ?_, by simp [hn], by simp, rfl, ?_⟩
          · rcases e8 with rfl | h
            · exact h0
            · exact Nat.lt_of_lt_of_le (Nat.succ_pos _) h
          · rw [List.map_append]; exact e5
        · rfl
        · rfl
        · rfl
        · rfl
        · rfl
        · rfl
        · rfl
/-- All edges, in order. -/
def allE (p : Pl) (lg : List Bk) (k : Int) : List Eg := srtK Eg.id (p.cs.filterMap (edg p.rs lg k))
theorem edg_id {rs : List Rg} {lg : List Bk} {k : Int} {c : Ct} {e : Eg} (h : edg rs lg k c = some e) : e.id = c.id := by
  unfold edg at h
  split at h
  · obtain ⟨o, _, rfl⟩ := Option.map_eq_some_iff.mp h
    rfl
  · cases h
theorem edg_nodup (rs : List Rg) (lg : List Bk) (k : Int) : ∀ cs : List Ct, (cs.map Ct.id).Nodup → ((cs.filterMap (edg rs lg k)).map Eg.id).Nodup
  | [], _ => by simp
  | c :: cs, h => by
    rw [List.map_cons, List.nodup_cons] at h
    have ih := edg_nodup rs lg k cs h.2
    cases he : edg rs lg k c with
    | none => rw [List.filterMap_cons_none he]; exact ih
    | some e =>
      rw [List.filterMap_cons_some he, List.map_cons, List.nodup_cons]
      refine ⟨fun hm => h.1 ?_, ih⟩
      obtain ⟨e', he', hid⟩ := List.mem_map.mp hm
      obtain ⟨c', hc', hce⟩ := List.mem_filterMap.mp he'
      rw [edg_id he] at hid
      rw [← hid, edg_id hce]
      exact List.mem_map.mpr ⟨c', hc', rfl⟩
theorem s_All (p : Pl) (hp : p.Sm) (hd : (p.cs.map Ct.id).Nodup) (lg : List Bk) (hlg : Led lg) (k : Int) (t : Tok) (sz : Nat) (hsz : sz = 4 ∨ lg = []) : EvX Γ 16 [p.e, .slice t sz (lg.map Bk.e), .int .i64 k] (IsN Eg.e 8 (allE p lg k)) := by
  refine EvX_code rfl rfl ?_
  have hnd := edg_nodup p.rs lg k p.cs hd
  have hlen := List.length_filterMap_le (edg p.rs lg k) p.cs
  have hcl := hp.hc
  unfold allE
  repeat' (first
 | (refine I_WS ?_; first
 | refine W_lenM rfl rfl rfl ?_
 | (refine I_mov ?_; first
 | refine W_mov (v := .int _ _) rfl rfl rfl ?_
 | refine W_mov (v := .slice _ _ _) rfl rfl rfl ?_)
 | (refine I_load ?_; first
 | refine W_load (agg := false) (d := .slice _ _ _) rfl rfl rfl rfl (by first | exact Nat.zero_le _ | omega) rfl ?_)
 | (refine I_box ?_; first
 | refine W_boxA rfl rfl rfl rfl rfl ?_)
 | refine W_faddr rfl rfl rfl ?_
 | refine WS_nil ?_)
 | refine WC_seq ?_
 | refine WC_opsS ?_
 | refine WC_block ?_)
  refine l_All p hp lg hlg k t sz hsz p.cs [] rfl _ _ (.slice .isnil 0 []) ?_ ?_ ?_ ?_ ?_ ?_ ?_ ?_ ?_ ?_ ?_ _ (fun ρ' st' d6 hO h6 => ?_)
  · exact Nat.le_refl _
  · exact Nat.succ_pos _
  · rfl
  · exact .inl ⟨rfl, rfl⟩
  · rfl
  · rfl
  · rfl
  · rfl
  · rfl
  · rfl
  · rfl
  generalize p.cs.filterMap (edg p.rs lg k) = es at *
  rcases hO with ⟨rfl, rfl⟩ | ⟨q, n, c, h0, rfl, hne, rfl, hR⟩
  · have hS : EvRW Γ 43 [.slice .isnil 0 [], .func 44 []] st' (.tuple []) st' := EvRW_primS (F := sortF 8 0 44) rfl rfl
    rw [← upd_self h6]
    repeat' (first
 | (refine I_WS ?_; first
 | (refine WS_callRW rfl rfl rfl hS ?_)
 | (refine I_mov ?_; first
 | refine W_mov (v := .slice _ _ _) rfl rfl rfl ?_)
 | refine WS_nil ?_)
 | refine WC_seq ?_
 | refine WC_opsS ?_
 | refine WC_ret ?_)
    exact finX_N (t := .isnil) (s := 0) rfl (.inr rfl) ⟨.inr rfl, rfl⟩
  · obtain ⟨st2, hS, hR2⟩ := s_sort es hnd (by omega) st' q c hR
    rw [← upd_self h6]
    repeat' (first
 | (refine I_WS ?_; first
 | (refine WS_callRW rfl rfl rfl hS ?_)
 | (refine I_mov ?_; first
 | refine W_mov (v := .rs _ _ _ _ _) rfl rfl rfl ?_)
 | refine WS_nil ?_)
 | refine WC_seq ?_
 | refine WC_opsS ?_
 | refine WC_ret ?_)
    exact finX_N (t := .row) (s := 8) rfl (.inl rfl) (fin_row (.inr rfl) rfl (by rw [List.length_map, (srtK_perm Eg.id es).length_eq]) (by decide) hR2 (fun d hd => by
      obtain ⟨e, _, rfl⟩ := List.mem_map.mp hd
      exact ⟨rfl, rfl⟩))
end Go.Vit

/-
  Edges where nothing is booked; rows that are the same.
-/
namespace Go.Vit
open Go.Ev
set_option linter.unusedVariables false
set_option linter.unusedSimpArgs false
theorem led_nil : Led [] := ⟨List.Pairwise.nil, by simp, fun id => by simp [row, upos, Bk.U]⟩
theorem row_nil (id : Int) : row [] id = ⟨id, 0, 0, 0⟩ := rfl
theorem bkl_zero (id k : Int) : bkl ⟨id, 0, 0, 0⟩ k = 0 := by
  unfold bkl stp
  simp
theorem room_nil (c : Ct) {k : Int} (hk : 0 ≤ k ∧ k < 3) : room [] c.id c.fr c.to c.st c.en c.ra k = volC c.id c.fr c.to c.st c.en c.ra := by
  unfold room
  rw [if_pos hk, row_nil, bkl_zero]
  have := volC_in c.id c.fr c.to c.st c.en c.ra
  split <;> omega
theorem mkE_nil (c : Ct) (hc : c.ok) {k : Int} (hk : 0 ≤ k ∧ k < 3) (o : Int) : mkE [] c k o = ⟨c.id, c.fr, c.to, c.st, c.en, c.ra, o, volC c.id c.fr c.to c.st c.en c.ra⟩ := by
  unfold mkE
  rw [room_nil c hk, row_nil, bkl_zero, ceilI_zero]
  have h := hc.2.1
  have : clampI (c.st + 0) 0 1099511627776 = c.st := by unfold clampI; split <;> (try split) <;> omega
  rw [this]
theorem edg_nil {rs : List Rg} {c : Ct} {k k' : Int} (hk : 0 ≤ k ∧ k < 3) (hk' : 0 ≤ k' ∧ k' < 3) : edg rs [] k c = edg rs [] k' c := by
  unfold edg
  split
  · rename_i hc
    cases owl rs c with
    | none => rfl
    | some o => simp only [Option.map_some, mkE_nil c hc hk, mkE_nil c hc hk']
  · rfl
theorem allE_nil (p : Pl) {k k' : Int} (hk : 0 ≤ k ∧ k < 3) (hk' : 0 ≤ k' ∧ k' < 3) : allE p [] k = allE p [] k' := by
  unfold allE
  congr 2
  funext c
  exact edg_nil hk hk'
theorem fndC_mem {c : Ct} : ∀ {cs : List Ct}, (cs.map Ct.id).Nodup → c ∈ cs → fndC c.id cs = some c
  | [], _, h => by simp at h
  | d :: cs, hn, h => by
    rw [List.map_cons, List.nodup_cons] at hn
    unfold fndC
    by_cases e : d.id = c.id
    · have e' : decide (d.id = c.id) = true := decide_eq_true e
      simp only [List.find?_cons, e']
      rcases List.mem_cons.mp h with rfl | h
      · rfl
      · exact absurd (List.mem_map.mpr ⟨c, h, e.symm⟩) hn.1
    · have e' : decide (d.id = c.id) = false := decide_eq_false e
      simp only [List.find?_cons, e']
      rcases List.mem_cons.mp h with rfl | h
      · exact absurd rfl e
      · exact fndC_mem hn.2 h
theorem allE_mem {p : Pl} {lg : List Bk} {k : Int} {x : Eg} (hd : (p.cs.map Ct.id).Nodup) (h : x ∈ allE p lg k) : ∃ c ∈ p.cs, edg p.rs lg k c = some x ∧ fndC x.id p.cs = some c := by
  obtain ⟨c, hc, he⟩ := List.mem_filterMap.mp ((srtK_perm Eg.id _).mem_iff.mp h)
  refine ⟨c, hc, he, ?_⟩
  rw [edg_id he]
  exact fndC_mem hd hc
theorem allE_le (p : Pl) (lg : List Bk) (k : Int) : (allE p lg k).length ≤ p.cs.length := by
  unfold allE
  rw [(srtK_perm Eg.id _).length_eq]
  exact List.length_filterMap_le _ _
theorem edg_ok {rs : List Rg} {lg : List Bk} {k : Int} {c : Ct} {x : Eg} (h : edg rs lg k c = some x) : c.ok ∧ ∃ o, owl rs c = some o ∧ x = mkE lg c k o := by
  unfold edg at h
  split at h
  · rename_i hc
    obtain ⟨o, h1, rfl⟩ := Option.map_eq_some_iff.mp h
    exact ⟨hc, o, h1, rfl⟩
  · cases h
theorem s_Bare (p : Pl) (hp : p.Sm) (hd : (p.cs.map Ct.id).Nodup) : EvX Γ 19 [p.e] (IsN Eg.e 8 (allE p [] 0)) := by
  have hA := s_All p hp hd [] led_nil 0 .isnil 0 (.inr rfl)
  refine EvX_code rfl rfl ?_
  repeat' (first
 | (refine I_WS ?_; first
 | (refine I_mov ?_; first
 | refine W_mov (v := .slice _ _ _) rfl rfl rfl ?_)
 | (refine I_load ?_; first
 | refine W_load (agg := true) (d := .agg [_, _, _, _]) rfl rfl rfl rfl (by first | exact Nat.zero_le _ | omega) rfl ?_)
 | (refine I_call ?_; first
 | (refine W_callN rfl rfl rfl hA rfl ?_ <;> intro _ _ s1 d1))
 | (refine I_box ?_; first
 | refine W_boxA rfl rfl rfl rfl rfl ?_)
 | refine WS_nil ?_)
 | refine WC_seq ?_
 | refine WC_opsS ?_
 | refine WC_ret ?_)
  exact finX_D (.inr rfl) rfl d1 s1 rfl
theorem l_eq8 (l : List Eg) (hl : l.length ≤ 1073741824) (t t' : Tok) (sz sz' : Nat) (hs : sz = 8 ∨ l = []) (hs' : sz' = 8 ∨ l = []) : ∀ (post pre : List Eg), l = pre ++ post →
    ∀ (ρ : Nat → D), ρ 0 = .slice t sz (l.map Eg.e) → ρ 1 = .slice t' sz' (l.map Eg.e) → ρ 12 = .int .i64 l.length → ρ 13 = .int .i64 pre.length → ∀ (Q : X → (Nat → D) → Store → Prop),
    (∀ ρ', Q (.exit 0) ρ' Store.empty) → WC Γ (.loop c_slices_Equal_Edge_l0) ρ Store.empty Q := by
  intro post
  induction post with
  | nil =>
    intro pre hp ρ h0 h1 h12 h13 Q hQ
    rw [List.append_nil] at hp
    subst hp
    rw [← upd_self h0, ← upd_self h1, ← upd_self h12, ← upd_self h13]
    refine WC_loop ?_
    repeat' (first
 | (refine I_WS ?_; first
 | (refine I_bin ?_; first
 | refine W_lssF rfl rfl rfl rfl (by omega) ?_)
 | refine WS_nil ?_)
 | refine WC_seq ?_
 | refine WC_opsS ?_
 | refine WC_condF rfl ?_
 | refine WC_exit ?_)
    exact hQ _
  | cons x post ih =>
    intro pre hp ρ h0 h1 h12 h13 Q hQ
    have hv := eg_mid hp
    have hlen : l.length = pre.length + (post.length + 1) := by rw [hp]; simp
    have hne : l ≠ [] := by rintro rfl; simp at hlen
    have hz : sz = 8 := hs.resolve_right hne
    have hz' : sz' = 8 := hs'.resolve_right hne
    subst hz hz'
    have hpl : pre.length < (l.map Eg.e).length := by simp; omega
    have hltl : (pre.length : Int) < l.length := by omega
    rw [← upd_self h0, ← upd_self h1, ← upd_self h12, ← upd_self h13]
    refine WC_loop ?_
    repeat' (first
 | (refine I_WS ?_; first
 | refine W_iaddr (j := pre.length) rfl rfl rfl rfl rfl hpl ?_
 | (refine I_mov ?_; first
 | refine W_mov (v := .int _ _) rfl rfl rfl ?_
 | refine W_mov (v := .bool _) rfl rfl rfl ?_
 | refine W_mov (v := .slice _ _ _) rfl rfl rfl ?_)
 | (refine I_bin ?_; first
 | refine W_lssT rfl rfl rfl rfl (by omega) ?_
 | refine W_add rfl rfl rfl rfl (by first | exact w64 (by omega) | rfl) ?_)
 | (refine I_load ?_; first
 | refine W_loadE (agg := true) (d := .agg [_, _, _, _, _, _, _, _]) rfl rfl rfl hv rfl ?_)
 | (refine W_neqP rfl rfl rfl rfl rfl rfl rfl ?_ ?_ <;> intro _)
 | refine WS_nil ?_)
 | refine WC_seq ?_
 | refine WC_opsS ?_
 | refine WC_drawS ?_
 | refine WC_skip ?_
 | refine WC_condT rfl ?_
 | refine WC_condF rfl ?_
 | refine WC_block ?_
 | refine WC_ret ?_
 | refine okF_intro rfl ?_)
    · refine ih (pre ++ [x]) (by simp [hp]) _ ?_ ?_ ?_ ?_ Q hQ
      · rfl
      · rfl
      · rfl
      · rw [List.length_append]; rfl
    · rename_i hq
      simp at hq
theorem s_Same1 (l : List Eg) (hl : l.length ≤ 1073741824) (t t' : Tok) (sz sz' : Nat) (hs : sz = 8 ∨ l = []) (hs' : sz' = 8 ∨ l = []) : EvP Γ 46 [.slice t sz (l.map Eg.e), .slice t' sz' (l.map Eg.e)] (.bool true) := by
  refine EvP_code rfl rfl ?_
  repeat' (first
 | (refine I_WS ?_; first
 | refine W_lenM rfl rfl rfl ?_
 | (refine I_mov ?_; first
 | refine W_mov (v := .int _ _) rfl rfl rfl ?_
 | refine W_mov (v := .bool _) rfl rfl rfl ?_
 | refine W_mov (v := .slice _ _ _) rfl rfl rfl ?_)
 | (refine I_bin ?_; first
 | refine W_neqF rfl rfl rfl rfl (by omega) ?_)
 | refine WS_nil ?_)
 | refine WC_seq ?_
 | refine WC_opsS ?_
 | refine WC_skip ?_
 | refine WC_condF rfl ?_
 | refine WC_block ?_)
  refine l_eq8 l hl t t' sz sz' hs hs' l [] rfl _ ?_ ?_ ?_ ?_ _ (fun ρ => ?_)
  · rfl
  · rfl
  · rfl
  · rfl
  repeat' (first
 | (refine I_WS ?_; first
 | (refine I_mov ?_; first
 | refine W_mov (v := .bool _) rfl rfl rfl ?_)
 | refine WS_nil ?_)
 | refine WC_seq ?_
 | refine WC_opsS ?_
 | refine WC_ret ?_)
  exact fin_bool (.inr rfl) rfl rfl
theorem s_Same (l : List Eg) (hl : l.length ≤ 1073741824) (t t' : Tok) (sz sz' : Nat) (hs : sz = 8 ∨ l = []) (hs' : sz' = 8 ∨ l = []) : EvP Γ 23 [.slice t sz (l.map Eg.e), .slice t' sz' (l.map Eg.e)] (.bool true) := by
  have h := fun t t' => s_Same1 l hl t t' sz sz' hs hs'
  refine EvP_code rfl rfl ?_
  repeat' (first
 | (refine I_WS ?_; first
 | (refine I_mov ?_; first
 | refine W_mov (v := .bool _) rfl rfl rfl ?_
 | refine W_mov (v := .slice _ _ _) rfl rfl rfl ?_)
 | (refine I_call ?_; first
 | refine W_call rfl rfl rfl (h _ _) rfl rfl ?_)
 | refine WS_nil ?_)
 | refine WC_seq ?_
 | refine WC_opsS ?_
 | refine WC_ret ?_)
  exact fin_bool (.inr rfl) rfl rfl
end Go.Vit

/-
  What is booked closes, and opens nothing: plain.
-/
namespace Go.Vit
open Go.Ev
set_option linter.unusedVariables false
set_option linter.unusedSimpArgs false
theorem bkl_mono {b : Bk} (h : b.U) {k : Int} (hk : 0 ≤ k ∧ k ≤ 1) : bkl b (k + 1) ≤ bkl b k := by
  unfold Bk.U at h
  have hk' : k = 0 ∨ k = 1 := by omega
  rcases hk' with rfl | rfl
  · simp only [bkl, stp]
    simp
    omega
  · simp only [bkl, stp]
    simp
    omega
theorem ceilI_mono {a a' b : Int} (ha : 0 ≤ a) (hb : 1 ≤ b) (h : a ≤ a') : ceilI a b ≤ ceilI a' b := by
  unfold ceilI
  rw [Int.tdiv_eq_ediv_of_nonneg ha, Int.tmod_eq_emod_of_nonneg ha, Int.tdiv_eq_ediv_of_nonneg (Int.le_trans ha h), Int.tmod_eq_emod_of_nonneg (Int.le_trans ha h)]
  have h1 := Int.emod_nonneg a (show b ≠ 0 by omega)
  have h2 := Int.emod_nonneg a' (show b ≠ 0 by omega)
  have h3 : a / b ≤ a' / b := Int.ediv_le_ediv (by omega) h
  rcases Int.lt_or_eq_of_le h3 with h4 | h4
  · split <;> split <;> omega
  · have h5 := Int.mul_ediv_add_emod a b
    have h6 := Int.mul_ediv_add_emod a' b
    rw [h4] at h5 ⊢
    split <;> split <;> omega
theorem clamp_mono {n m lo hi : Int} (h : n ≤ m) (hl : lo ≤ hi) : clampI n lo hi ≤ clampI m lo hi := by
  unfold clampI
  repeat' split
  all_goals omega
/-- One edge beside another one. -/
def EgLe (a b : Eg) : Prop := a.id = b.id ∧ a.fr = b.fr ∧ a.to = b.to ∧ a.en = b.en ∧ a.ra = b.ra ∧ a.ow = b.ow ∧ b.op ≤ a.op ∧ a.ro ≤ b.ro
theorem mkE_le {lg lg' : List Bk} (hl : Led lg) (hl' : Led lg') {c : Ct} (hc : c.ok) {k k' o : Int} (hk : 0 ≤ k ∧ k < 3) (hk' : 0 ≤ k' ∧ k' < 3) (hb : bkl (row lg' c.id) k' ≤ bkl (row lg c.id) k) : EgLe (mkE lg c k o) (mkE lg' c k' o) := by
  have h1 := bkl_in (hl'.hu c.id) k'
  refine ⟨rfl, rfl, rfl, rfl, rfl, rfl, ?_, ?_⟩
  · have := ceilI_mono (b := c.ra) h1.1 hc.2.2.2.1 hb
    exact clamp_mono (by omega) (by decide)
  · show room lg c.id c.fr c.to c.st c.en c.ra k ≤ room lg' c.id c.fr c.to c.st c.en c.ra k'
    unfold room
    rw [if_pos hk, if_pos hk']
    split <;> split <;> omega
/-- The contacts that have edges, by rising IDs. -/
def gds (p : Pl) : List Ct := srtK Ct.id (p.cs.filter fun c => decide c.ok && (owl p.rs c).isSome)
def mkO (p : Pl) (lg : List Bk) (k : Int) (c : Ct) : Eg := mkE lg c k ((owl p.rs c).getD 0)
theorem fm_eq (p : Pl) (lg : List Bk) (k : Int) : ∀ cs : List Ct, cs.filterMap (edg p.rs lg k) = (cs.filter fun c => decide c.ok && (owl p.rs c).isSome).map (mkO p lg k)
  | [] => rfl
  | c :: cs => by
    rw [List.filterMap_cons, List.filter_cons, fm_eq p lg k cs]
    by_cases hc : c.ok
    · cases ho : owl p.rs c with
      | none => simp [edg, hc, ho]
      | some o => simp [edg, hc, ho, mkO]
    · simp [edg, hc]
theorem allE_gds (p : Pl) (lg : List Bk) (k : Int) : allE p lg k = (gds p).map (mkO p lg k) := by
  unfold allE gds
  rw [fm_eq, srtK_map]
  rfl
theorem gds_ok {p : Pl} {c : Ct} (h : c ∈ gds p) : c ∈ p.cs ∧ c.ok ∧ ∃ o, owl p.rs c = some o := by
  have := (srtK_perm Ct.id _).mem_iff.mp h
  rw [List.mem_filter, Bool.and_eq_true, decide_eq_true_eq, Option.isSome_iff_exists] at this
  exact this
theorem all_le {p : Pl} {lg lg' : List Bk} (hl : Led lg) (hl' : Led lg') {k k' : Int} (hk : 0 ≤ k ∧ k < 3) (hk' : 0 ≤ k' ∧ k' < 3) (hb : ∀ id, bkl (row lg' id) k' ≤ bkl (row lg id) k) {i : Nat} {x y : Eg} (hx : (allE p lg k)[i]? = some x) (hy : (allE p lg' k')[i]? = some y) : EgLe x y := by
  rw [allE_gds, List.getElem?_map] at hx hy
  obtain ⟨c, hc, rfl⟩ := Option.map_eq_some_iff.mp hx
  rw [hc] at hy
  cases hy
  exact mkE_le hl hl' (gds_ok (List.mem_of_getElem? hc)).2.1 hk hk' (hb c.id)
theorem all_len (p : Pl) (lg lg' : List Bk) (k k' : Int) : (allE p lg k).length = (allE p lg' k').length := by
  rw [allE_gds, allE_gds, List.length_map, List.length_map]
end Go.Vit

/-
  What the reference's functions come to: contacts, what is booked.
-/
namespace Go.Vit
open Go.Ev
set_option linter.unusedVariables false
set_option linter.unusedSimpArgs false
theorem Srt.cons {b : Bk} {l : List Bk} : Srt (b :: l) ↔ (∀ c ∈ l, b.id < c.id) ∧ Srt l := List.pairwise_cons
theorem upos_cons (b : Bk) (l : List Bk) (id : Int) : upos (b :: l) id = if b.id < id then upos l id + 1 else 0 := by
  simp only [upos, List.takeWhile]
  by_cases h : b.id < id <;> simp [h]
/-- A row by its ID. -/
def getB : List Bk → Int → Bk
  | [], id => ⟨id, 0, 0, 0⟩
  | b :: l, id => if b.id = id then b else getB l id
theorem getB_none {l : List Bk} {id : Int} (h : ∀ b ∈ l, b.id ≠ id) : getB l id = ⟨id, 0, 0, 0⟩ := by
  induction l with
  | nil => rfl
  | cons b l ih => rw [getB, if_neg (h b List.mem_cons_self), ih (fun c hc => h c (List.mem_cons_of_mem _ hc))]
theorem row_cons (b : Bk) (l : List Bk) (id : Int) : row (b :: l) id = if b.id < id then row l id else if b.id = id then b else ⟨id, 0, 0, 0⟩ := by
  unfold row
  rw [upos_cons]
  by_cases h : b.id < id
  · simp [h]
  · simp [h]
theorem row_get {l : List Bk} (hs : Srt l) (id : Int) : row l id = getB l id := by
  induction l with
  | nil => rfl
  | cons b l ih =>
    rw [Srt.cons] at hs
    rw [row_cons, getB, ih hs.2]
    by_cases h : b.id < id
    · rw [if_pos h, if_neg (by omega)]
    · rw [if_neg h]
      by_cases h2 : b.id = id
      · rw [if_pos h2, if_pos h2]
      · rw [if_neg h2, if_neg h2, getB_none (fun c hc => by have := hs.1 c hc; omega)]
theorem getB_id (l : List Bk) (id : Int) : (getB l id).id = id := by
  induction l with
  | nil => rfl
  | cons b l ih => rw [getB]; split <;> assumption
theorem getB_mem {l : List Bk} (hs : Srt l) {b : Bk} (h : b ∈ l) : getB l b.id = b := by
  induction l with
  | nil => cases h
  | cons c l ih =>
    rw [Srt.cons] at hs
    rw [getB]
    rcases List.mem_cons.mp h with rfl | h'
    · rw [if_pos rfl]
    · rw [if_neg (by have := hs.1 b h'; omega), ih hs.2 h']
theorem getB_or (l : List Bk) (id : Int) : getB l id ∈ l ∨ getB l id = ⟨id, 0, 0, 0⟩ := by
  induction l with
  | nil => exact .inr rfl
  | cons b l ih =>
    rw [getB]
    split
    · exact .inl List.mem_cons_self
    · exact ih.imp (List.mem_cons_of_mem _) _root_.id
theorem r_Node (n : Int) : EvP Γ 82 [.int .i64 n] (.bool (decide (1 ≤ n ∧ n ≤ 255))) := by
  refine EvP_code rfl rfl ?_
  repeat' (first
 | (refine I_WS ?_; first
 | (refine I_mov ?_; first
 | refine W_skip rfl ?_
 | refine W_mov (v := .int _ _) rfl rfl rfl ?_
 | refine W_mov (v := .bool _) rfl rfl rfl ?_)
 | (refine I_bin ?_; first
 | refine W_skip rfl ?_
 | (refine W_leq rfl rfl rfl rfl ?_ ?_ <;> intro _)
 | (refine W_geq rfl rfl rfl rfl ?_ ?_ <;> intro _))
 | (refine I_pick ?_; first
 | refine W_pick (v := .bool _) rfl rfl rfl rfl ?_)
 | refine WS_nil ?_)
 | refine WC_seq ?_
 | refine WC_opsS ?_
 | refine WC_ret ?_)
  all_goals (refine fin_bool (by simp) rfl ?_; first | (simp_all; done) | (simp_all; omega) | (simp only [eq_comm (a := true), eq_comm (a := false), decide_eq_true_eq, decide_eq_false_iff_not] at *; omega) | grind)
theorem r_class (k : Int) : EvP Γ 69 [.int .i64 k] (.bool (decide (0 ≤ k ∧ k < 3))) := by
  refine EvP_code rfl rfl ?_
  repeat' (first
 | (refine I_WS ?_; first
 | (refine I_mov ?_; first
 | refine W_skip rfl ?_
 | refine W_mov (v := .int _ _) rfl rfl rfl ?_
 | refine W_mov (v := .bool _) rfl rfl rfl ?_)
 | (refine I_bin ?_; first
 | refine W_skip rfl ?_
 | (refine W_lss rfl rfl rfl rfl ?_ ?_ <;> intro _)
 | (refine W_geq rfl rfl rfl rfl ?_ ?_ <;> intro _))
 | (refine I_pick ?_; first
 | refine W_pick (v := .bool _) rfl rfl rfl rfl ?_)
 | refine WS_nil ?_)
 | refine WC_seq ?_
 | refine WC_opsS ?_
 | refine WC_ret ?_)
  all_goals (refine fin_bool (by simp) rfl ?_; first | (simp_all; done) | (simp_all; omega) | (simp only [eq_comm (a := true), eq_comm (a := false), decide_eq_true_eq, decide_eq_false_iff_not] at *; omega) | grind)
theorem r_pair (a b s e : Int) : EvP Γ 68 [.int .i64 a, .int .i64 b, .int .i64 s, .int .i64 e] (.bool (decide (((1 ≤ a ∧ a ≤ 255) ∧ (1 ≤ b ∧ b ≤ 255) ∧ a ≠ b) ∧ (0 ≤ s ∧ s < e ∧ e ≤ 2147483647)))) := by
  refine EvP_code rfl rfl ?_
  repeat' (first
 | (refine I_WS ?_; first
 | (refine I_mov ?_; first
 | refine W_skip rfl ?_
 | refine W_mov (v := .int _ _) rfl rfl rfl ?_
 | refine W_mov (v := .bool _) rfl rfl rfl ?_)
 | (refine I_bin ?_; first
 | refine W_skip rfl ?_
 | (refine W_lss rfl rfl rfl rfl ?_ ?_ <;> intro _)
 | (refine W_leq rfl rfl rfl rfl ?_ ?_ <;> intro _)
 | (refine W_geq rfl rfl rfl rfl ?_ ?_ <;> intro _)
 | (refine W_neq rfl rfl rfl rfl ?_ ?_ <;> intro _))
 | (refine I_call ?_; first
 | refine W_callB rfl rfl rfl (r_Node _) rfl ?_ ?_ <;> intro _)
 | (refine I_pick ?_; first
 | refine W_pick (v := .bool _) rfl rfl rfl rfl ?_)
 | refine WS_nil ?_)
 | refine WC_seq ?_
 | refine WC_opsS ?_
 | refine WC_ret ?_)
  all_goals (refine fin_bool (by simp) rfl ?_; first | (simp_all; done) | (simp_all; omega) | (simp only [eq_comm (a := true), eq_comm (a := false), decide_eq_true_eq, decide_eq_false_iff_not] at *; omega) | grind)
theorem r_Contact (id fr to st en ra : Int) : EvP Γ 39 [.agg [.int .i64 id, .int .i64 fr, .int .i64 to, .int .i64 st, .int .i64 en, .int .i64 ra]] (.bool (decide (okC id fr to st en ra))) := by
  refine EvP_code rfl rfl ?_
  unfold okC
  repeat' (first
 | (refine I_WS ?_; first
 | (refine I_mov ?_; first
 | refine W_mov (v := .bool _) rfl rfl rfl ?_)
 | (refine I_bin ?_; first
 | refine W_skip rfl ?_
 | (refine W_leq rfl rfl rfl rfl ?_ ?_ <;> intro _)
 | (refine W_geq rfl rfl rfl rfl ?_ ?_ <;> intro _))
 | (refine I_load ?_; first
 | refine W_skip rfl ?_
 | refine W_load (agg := false) (d := .int _ _) rfl rfl rfl rfl (by first | exact Nat.zero_le _ | omega) rfl ?_)
 | (refine I_call ?_; first
 | refine W_callB rfl rfl rfl (r_pair _ _ _ _) rfl ?_ ?_ <;> intro _)
 | (refine I_pick ?_; first
 | refine W_pick (v := .bool _) rfl rfl rfl rfl ?_)
 | (refine I_box ?_; first
 | refine W_boxA rfl rfl rfl rfl rfl ?_)
 | refine W_faddr rfl rfl rfl ?_
 | refine W_skip rfl ?_
 | refine WS_nil ?_)
 | refine WC_seq ?_
 | refine WC_opsS ?_
 | refine WC_ret ?_)
  all_goals (refine fin_bool (by simp) rfl ?_; first | (simp_all; done) | (simp_all; omega) | (simp only [eq_comm (a := true), eq_comm (a := false), decide_eq_true_eq, decide_eq_false_iff_not] at *; omega) | grind)
theorem r_Volume (id fr to st en ra : Int) : EvP Γ 71 [.agg [.int .i64 id, .int .i64 fr, .int .i64 to, .int .i64 st, .int .i64 en, .int .i64 ra]] (.int .i64 (volC id fr to st en ra)) := by
  refine EvP_code rfl rfl ?_
  by_cases h : okC id fr to st en ra
  · have hv := volC_in id fr to st en ra
    unfold volC at hv ⊢
    rw [if_pos h] at hv ⊢
    have h' := h
    unfold okC at h'
    repeat' (first
 | (refine I_WS ?_; first
 | refine W_mul (s := (en - st) * ra) rfl rfl rfl rfl (by rw [Int.mul_comm, w64 (by omega)]) ?_
 | (refine I_mov ?_; first
 | refine W_mov (v := .int _ _) rfl rfl rfl ?_)
 | (refine I_bin ?_; first
 | refine W_sub rfl rfl rfl rfl (by first | exact w64 (by omega) | rfl) ?_)
 | (refine I_load ?_; first
 | refine W_load (agg := false) (d := .int _ _) rfl rfl rfl rfl (by first | exact Nat.zero_le _ | omega) rfl ?_
 | refine W_load (agg := true) (d := .agg [_, _, _, _, _, _]) rfl rfl rfl rfl (by first | exact Nat.zero_le _ | omega) rfl ?_)
 | (refine I_call ?_; first
 | refine W_callBT rfl rfl rfl (r_Contact _ _ _ _ _ _) (decide_eq_true h) rfl ?_)
 | (refine I_box ?_; first
 | refine W_boxA rfl rfl rfl rfl rfl ?_)
 | refine W_not rfl rfl rfl ?_
 | refine W_faddr rfl rfl rfl ?_
 | refine WS_nil ?_)
 | refine WC_seq ?_
 | refine WC_opsS ?_
 | refine WC_skip ?_
 | refine WC_condF rfl ?_
 | refine WC_ret ?_)
    exact fin_int (by simp) rfl rfl
  · repeat' (first
 | (refine I_WS ?_; first
 | (refine I_mov ?_; first
 | refine W_mov (v := .int _ _) rfl rfl rfl ?_)
 | (refine I_load ?_; first
 | refine W_load (agg := true) (d := .agg [_, _, _, _, _, _]) rfl rfl rfl rfl (by first | exact Nat.zero_le _ | omega) rfl ?_)
 | (refine I_call ?_; first
 | refine W_callBF rfl rfl rfl (r_Contact _ _ _ _ _ _) (decide_eq_false h) rfl ?_)
 | (refine I_box ?_; first
 | refine W_boxA rfl rfl rfl rfl rfl ?_)
 | refine W_not rfl rfl rfl ?_
 | refine WS_nil ?_)
 | refine WC_seq ?_
 | refine WC_opsS ?_
 | refine WC_condT rfl ?_
 | refine WC_ret ?_)
    exact fin_int (by simp) rfl (by simp [volC, h])
theorem getB_first {id : Int} {x : Bk} {post : List Bk} : ∀ {pre : List Bk}, (∀ b ∈ pre, b.id ≠ id) → x.id = id → getB (pre ++ x :: post) id = x
  | [], _, he => by rw [List.nil_append, getB, if_pos he]
  | c :: pre, hn, he => by rw [List.cons_append, getB, if_neg (hn c (by simp))]; exact getB_first (fun b hb => hn b (by simp [hb])) he
/-- A store of one box of three numbers. -/
def st3 (a b c : Int) : Store := { boxes := upd (fun _ => none) 0 (some (.cells [.int .i64 a, .int .i64 b, .int .i64 c])), next := 1, toks := fun _ => false, ntok := 0, lim := 0, tlim := 0 }
theorem rl_Used (l : List Bk) (id : Int) (hl : l.length ≤ 1073741824) (t : Tok) (sz : Nat) (hsz : sz = 4 ∨ l = []) : ∀ (post pre : List Bk), l = pre ++ post → (∀ b ∈ pre, b.id ≠ id) →
    ∀ (ρ : Nat → D) (h0 : ρ 0 = .slice t sz (l.map Bk.e)) (h1 : ρ 1 = .int .i64 id) (h4 : ρ 4 = .ptr 0 0) (h5 : ρ 5 = .int .i64 pre.length) (Q : X → (Nat → D) → Store → Prop),
    ((∀ b ∈ l, b.id ≠ id) → ∀ ρ', ρ' 4 = .ptr 0 0 → Q (.exit 0) ρ' (st3 0 0 0)) → (∀ st', st'.boxes = upd (st3 0 0 0).boxes 0 (some (.cells [.int .i64 (getB l id).u0, .int .i64 (getB l id).u1, .int .i64 (getB l id).u2])) → st'.lim = 0 → ∀ ρ', ρ' 4 = .ptr 0 0 → Q .ret ρ' st') → WC Γ (.loop c_feluccaref09_Used_l0) ρ (st3 0 0 0) Q := by
  intro post
  induction post with
  | nil =>
    intro pre hp hn ρ h0 h1 h4 h5 Q hQ hQ2
    rw [List.append_nil] at hp
    subst hp
    rw [← upd_self h0, ← upd_self h1, ← upd_self h4, ← upd_self h5]
    refine WC_loop ?_
    repeat' (first
 | (refine I_WS ?_; first
 | (refine I_mov ?_; first
 | refine W_mov (v := .int _ _) rfl rfl rfl ?_
 | refine W_mov (v := .slice _ _ _) rfl rfl rfl ?_)
 | (refine I_bin ?_; first
 | refine W_lssF rfl rfl rfl rfl (by omega) ?_)
 | refine W_lenM rfl rfl rfl ?_
 | refine WS_nil ?_)
 | refine WC_seq ?_
 | refine WC_opsS ?_
 | refine WC_condF rfl ?_
 | refine WC_exit ?_)
    exact hQ hn _ rfl
  | cons x post ih =>
    intro pre hp hn ρ h0 h1 h4 h5 Q hQ hQ2
    have hv := l_mid hp
    have hlen : l.length = pre.length + (post.length + 1) := by rw [hp]; simp
    have hg : x.id = id → getB l id = x := fun he => by rw [hp]; exact getB_first hn he
    rw [← upd_self h0, ← upd_self h1, ← upd_self h4, ← upd_self h5]
    refine WC_loop ?_
    repeat' (first
 | (refine I_WS ?_; first
 | (refine I_mov ?_; first
 | refine W_mov (v := .int _ _) rfl rfl rfl ?_
 | refine W_mov (v := .slice _ _ _) rfl rfl rfl ?_)
 | (refine I_bin ?_; first
 | refine W_lssT rfl rfl rfl rfl (by omega) ?_
 | (refine W_eql rfl rfl rfl rfl ?_ ?_ <;> intro _)
 | refine W_add rfl rfl rfl rfl (by first | exact w64 (by omega) | rfl) ?_)
 | (refine I_load ?_; first
 | refine W_loadE (agg := false) (d := .int _ _) rfl rfl rfl hv rfl ?_
 | refine W_loadE (agg := true) (d := .agg [_, _, _]) rfl rfl rfl hv rfl ?_)
 | (refine I_store ?_; first
 | refine W_store (cs' := [_, _, _]) rfl rfl rfl rfl (by first | exact Nat.zero_le _ | omega) rfl rfl rfl ?_)
 | refine W_lenM rfl rfl rfl ?_
 | refine W_faddrE rfl rfl rfl ?_
 | refine W_iaddr rfl rfl rfl rfl (by first | rfl | exact sz_of (by assumption) (by omega)) (by first | decide | (simp only [List.length_map]; omega)) ?_
 | refine WS_nil ?_)
 | refine WC_seq ?_
 | refine WC_opsS ?_
 | refine WC_skip ?_
 | refine WC_condT rfl ?_
 | refine WC_condF rfl ?_
 | refine WC_block ?_
 | refine WC_ret ?_)
    · rename_i he
      refine hQ2 _ ?_ rfl _ rfl
      rw [hg he]
      rfl
    · rename_i he
      refine ih (pre ++ [x]) (by simp [hp]) (fun b hb => ?_) _ rfl rfl rfl (by rw [List.length_append]; rfl) Q hQ hQ2
      rcases List.mem_append.mp hb with hb | hb
      · exact hn b hb
      · rw [List.mem_singleton.mp hb]; exact he
theorem r_Used (l : List Bk) (id : Int) (hl : l.length ≤ 1073741824) (t : Tok) (sz : Nat) (hsz : sz = 4 ∨ l = []) : EvP Γ 70 [.slice t sz (l.map Bk.e), .int .i64 id] (.agg [.int .i64 (getB l id).u0, .int .i64 (getB l id).u1, .int .i64 (getB l id).u2]) := by
  refine EvP_code rfl rfl ?_
  repeat' (first
 | (refine I_WS ?_; first
 | (refine I_mov ?_; first
 | refine W_mov (v := .int _ _) rfl rfl rfl ?_)
 | refine W_alloc rfl rfl ?_
 | refine WS_nil ?_)
 | refine WC_seq ?_
 | refine WC_opsS ?_
 | refine WC_block ?_)
  refine rl_Used l id hl t sz hsz l [] rfl (by simp) _ rfl rfl rfl rfl _ (fun hn ρ h4 => ?_) (fun st' hb hlim ρ h4 => ?_)
  · rw [← upd_self h4]
    repeat' (first
 | (refine I_WS ?_; first
 | (refine I_build ?_; first
 | refine W_build (cs := [_, _, _]) rfl rfl rfl ?_)
 | (refine I_store ?_; first
 | refine W_store (cs' := [_, _, _]) rfl rfl rfl rfl (by first | exact Nat.zero_le _ | omega) rfl rfl rfl ?_)
 | refine WS_nil ?_)
 | refine WC_seq ?_
 | refine WC_opsS ?_
 | refine WC_ret ?_)
    rw [getB_none hn]
    exact fin_ground (r' := .agg [.int _ _, .int _ _, .int _ _]) (by simp) rfl rfl rfl
  · refine fin_ground (r' := .agg [.int .i64 (getB l id).u0, .int .i64 (getB l id).u1, .int .i64 (getB l id).u2]) (by simp) ?_ rfl rfl
    show resD ρ st' (.cell 4 true 3) = _
    simp only [resD, h4, Store.cellsAt, hb, hlim, upd_same, Option.bind_some, Box.cs, Option.map_some, Nat.not_lt_zero, if_false]
    rfl
set_option maxHeartbeats 8000000 in
theorem r_Backlog (l : List Bk) (id k : Int) (hl : l.length ≤ 1073741824) (hu : (getB l id).U) (t : Tok) (sz : Nat) (hsz : sz = 4 ∨ l = []) : EvP Γ 41 [.slice t sz (l.map Bk.e), .int .i64 id, .int .i64 k] (.int .i64 (bkl (getB l id) k)) := by
  refine EvP_code rfl rfl ?_
  have hU := fun t sz hsz => r_Used l id hl t sz hsz
  generalize getB l id = r at *
  unfold Bk.U at hu
  by_cases hk : 0 ≤ k ∧ k < 3
  · have hk' : k = 0 ∨ k = 1 ∨ k = 2 := by omega
    rcases hk' with rfl | rfl | rfl
    all_goals
      repeat' (first
 | (refine I_WS ?_; first
 | refine W_add (s := 1) rfl rfl rfl rfl rfl ?_
 | refine W_add (s := 2) rfl rfl rfl rfl rfl ?_
 | refine W_add (s := 3) rfl rfl rfl rfl rfl ?_
 | (refine I_mov ?_; first
 | refine W_mov (v := .int _ _) rfl rfl rfl ?_
 | refine W_mov (v := .slice _ _ _) rfl rfl rfl ?_)
 | (refine I_bin ?_; first
 | refine W_lssT rfl rfl rfl rfl (by omega) ?_
 | refine W_lssF rfl rfl rfl rfl (by omega) ?_
 | refine W_add rfl rfl rfl rfl (by first | exact w64 (by omega) | rfl) ?_
 | refine W_sub rfl rfl rfl rfl (by first | exact w64 (by omega) | rfl) ?_)
 | (refine I_load ?_; first
 | refine W_load (agg := false) (d := .int _ _) rfl rfl rfl rfl (by first | exact Nat.zero_le _ | omega) rfl ?_)
 | (refine I_call ?_; first
 | refine W_callBT rfl rfl rfl (r_class _) (by decide) rfl ?_
 | refine W_call rfl rfl rfl (hU _ _ hsz) rfl rfl ?_)
 | (refine I_store ?_; first
 | refine W_store (cs' := [_, _, _]) rfl rfl rfl rfl (by first | exact Nat.zero_le _ | omega) rfl rfl rfl ?_)
 | refine W_not rfl rfl rfl ?_
 | refine W_min2 rfl rfl rfl rfl ?_
 | refine W_alloc rfl rfl ?_
 | refine W_iaddrA rfl rfl rfl rfl (by decide) ?_
 | refine WS_nil ?_)
 | refine WC_loop ?_
 | refine WC_seq ?_
 | refine WC_opsS ?_
 | refine WC_drawS ?_
 | refine WC_skip ?_
 | refine WC_condT rfl ?_
 | refine WC_condF rfl ?_
 | refine WC_block ?_
 | refine WC_exit ?_
 | refine WC_ret ?_
 | refine okF_intro rfl ?_)
      all_goals exact fin_int (by simp) rfl rfl
  · repeat' (first
 | (refine I_WS ?_; first
 | (refine I_mov ?_; first
 | refine W_mov (v := .int _ _) rfl rfl rfl ?_)
 | (refine I_call ?_; first
 | refine W_callBF rfl rfl rfl (r_class _) (decide_eq_false hk) rfl ?_)
 | refine W_not rfl rfl rfl ?_
 | refine WS_nil ?_)
 | refine WC_seq ?_
 | refine WC_opsS ?_
 | refine WC_condT rfl ?_
 | refine WC_ret ?_)
    refine fin_int (by simp) rfl ?_
    unfold bkl
    rw [if_neg (by omega), if_neg (by omega), if_neg (by omega)]
end Go.Vit

/-
  What the reference's functions come to: which stands ahead, which overlap, a range.
-/
namespace Go.Vit
open Go.Ev
set_option linter.unusedVariables false
set_option linter.unusedSimpArgs false
theorem r_cless (a b : Ct) : EvX Γ 59 [a.e, b.e] (fun r => ∃ t, r = .bool t) := by
  refine EvX_code rfl rfl ?_
  repeat' (first
 | (refine I_WS ?_; first
 | (refine I_mov ?_; first
 | refine W_mov (v := .bool _) rfl rfl rfl ?_)
 | (refine I_bin ?_; first
 | (refine W_lss rfl rfl rfl rfl ?_ ?_ <;> intro _)
 | (refine W_neq rfl rfl rfl rfl ?_ ?_ <;> intro _))
 | (refine I_load ?_; first
 | refine W_load (agg := false) (d := .int _ _) rfl rfl rfl rfl (by first | exact Nat.zero_le _ | omega) rfl ?_)
 | (refine I_box ?_; first
 | refine W_boxA rfl rfl rfl rfl rfl ?_)
 | refine W_faddr rfl rfl rfl ?_
 | refine WS_nil ?_)
 | refine WC_seq ?_
 | refine WC_opsS ?_
 | refine WC_skip ?_
 | refine WC_condT rfl ?_
 | refine WC_condF rfl ?_
 | refine WC_ret ?_)
  all_goals exact ⟨.inr rfl, _, rfl, _, rfl⟩
theorem r_cover (a b : Ct) : EvX Γ 60 [a.e, b.e] (fun r => ∃ t, r = .bool t) := by
  refine EvX_code rfl rfl ?_
  repeat' (first
 | (refine I_WS ?_; first
 | (refine I_mov ?_; first
 | refine W_mov (v := .bool _) rfl rfl rfl ?_)
 | (refine I_bin ?_; first
 | refine W_skip rfl ?_
 | (refine W_lss rfl rfl rfl rfl ?_ ?_ <;> intro _)
 | (refine W_eql rfl rfl rfl rfl ?_ ?_ <;> intro _))
 | (refine I_load ?_; first
 | refine W_skip rfl ?_
 | refine W_load (agg := false) (d := .int _ _) rfl rfl rfl rfl (by first | exact Nat.zero_le _ | omega) rfl ?_)
 | (refine I_pick ?_; first
 | refine W_pick (v := .bool _) rfl rfl rfl rfl ?_)
 | (refine I_box ?_; first
 | refine W_boxA rfl rfl rfl rfl rfl ?_)
 | refine W_faddr rfl rfl rfl ?_
 | refine W_skip rfl ?_
 | refine WS_nil ?_)
 | refine WC_seq ?_
 | refine WC_opsS ?_
 | refine WC_ret ?_)
  all_goals exact ⟨.inr rfl, _, rfl, _, rfl⟩
theorem r_rless (a b : Rg) : EvX Γ 62 [a.e, b.e] (fun r => ∃ t, r = .bool t) := by
  refine EvX_code rfl rfl ?_
  repeat' (first
 | (refine I_WS ?_; first
 | (refine I_mov ?_; first
 | refine W_mov (v := .bool _) rfl rfl rfl ?_)
 | (refine I_bin ?_; first
 | (refine W_lss rfl rfl rfl rfl ?_ ?_ <;> intro _)
 | (refine W_neq rfl rfl rfl rfl ?_ ?_ <;> intro _))
 | (refine I_load ?_; first
 | refine W_load (agg := false) (d := .int _ _) rfl rfl rfl rfl (by first | exact Nat.zero_le _ | omega) rfl ?_)
 | (refine I_box ?_; first
 | refine W_boxA rfl rfl rfl rfl rfl ?_)
 | refine W_faddr rfl rfl rfl ?_
 | refine WS_nil ?_)
 | refine WC_seq ?_
 | refine WC_opsS ?_
 | refine WC_skip ?_
 | refine WC_condT rfl ?_
 | refine WC_condF rfl ?_
 | refine WC_ret ?_)
  all_goals exact ⟨.inr rfl, _, rfl, _, rfl⟩
theorem r_rover (a b : Rg) : EvX Γ 63 [a.e, b.e] (fun r => ∃ t, r = .bool t) := by
  refine EvX_code rfl rfl ?_
  repeat' (first
 | (refine I_WS ?_; first
 | (refine I_mov ?_; first
 | refine W_mov (v := .bool _) rfl rfl rfl ?_)
 | (refine I_bin ?_; first
 | refine W_skip rfl ?_
 | (refine W_lss rfl rfl rfl rfl ?_ ?_ <;> intro _)
 | (refine W_eql rfl rfl rfl rfl ?_ ?_ <;> intro _))
 | (refine I_load ?_; first
 | refine W_skip rfl ?_
 | refine W_load (agg := false) (d := .int _ _) rfl rfl rfl rfl (by first | exact Nat.zero_le _ | omega) rfl ?_)
 | (refine I_pick ?_; first
 | refine W_pick (v := .bool _) rfl rfl rfl rfl ?_)
 | (refine I_box ?_; first
 | refine W_boxA rfl rfl rfl rfl rfl ?_)
 | refine W_faddr rfl rfl rfl ?_
 | refine W_skip rfl ?_
 | refine WS_nil ?_)
 | refine WC_seq ?_
 | refine WC_opsS ?_
 | refine WC_ret ?_)
  all_goals exact ⟨.inr rfl, _, rfl, _, rfl⟩
theorem r_rok (r : Rg) : EvX Γ 61 [r.e] (fun r => ∃ t, r = .bool t) := by
  refine EvX_code rfl rfl ?_
  repeat' (first
 | (refine I_WS ?_; first
 | (refine I_mov ?_; first
 | refine W_mov (v := .bool _) rfl rfl rfl ?_)
 | (refine I_bin ?_; first
 | refine W_skip rfl ?_
 | (refine W_leq rfl rfl rfl rfl ?_ ?_ <;> intro _)
 | (refine W_geq rfl rfl rfl rfl ?_ ?_ <;> intro _))
 | (refine I_load ?_; first
 | refine W_skip rfl ?_
 | refine W_load (agg := false) (d := .int _ _) rfl rfl rfl rfl (by first | exact Nat.zero_le _ | omega) rfl ?_)
 | (refine I_call ?_; first
 | refine W_callB rfl rfl rfl (r_pair _ _ _ _) rfl ?_ ?_ <;> intro _)
 | (refine I_pick ?_; first
 | refine W_pick (v := .bool _) rfl rfl rfl rfl ?_)
 | (refine I_box ?_; first
 | refine W_boxA rfl rfl rfl rfl rfl ?_)
 | refine W_faddr rfl rfl rfl ?_
 | refine W_skip rfl ?_
 | refine WS_nil ?_)
 | refine WC_seq ?_
 | refine WC_opsS ?_
 | refine WC_ret ?_)
  all_goals exact ⟨.inr rfl, _, rfl, _, rfl⟩
end Go.Vit

/-
  The reference's right contacts: the inner loop.
-/
namespace Go.Vit
open Go.Ev
set_option linter.unusedVariables false
set_option linter.unusedSimpArgs false
theorem rl_c0 (l : List Ct) (hll : l.length ≤ 1073741824) (t : Tok) (i : Nat) (x : Ct) (hx : l[i]? = some x) : ∀ (m k : Nat), i - k = m → k ≤ i → (∀ j y, j < k → l[j]? = some y → y.id ≠ x.id) → ∀ (ρ : Nat → D) (st : Store),
    ρ 0 = .slice t 6 (l.map Ct.e) → ρ 3 = .int .i64 i → ρ 5 = .int .i64 k → ∀ (Q : X → (Nat → D) → Store → Prop),
    ((∀ j y, j < i → l[j]? = some y → y.id ≠ x.id) → ∀ ρ', ρ' 0 = .slice t 6 (l.map Ct.e) → ρ' 3 = .int .i64 i → Q (.exit 2) ρ' st) → (∀ ρ', ρ' 2 = .bool false → Q .ret ρ' st) → WC Γ (.loop c_feluccaref06_Right_l0) ρ st Q := by
  have hi := (List.getElem?_eq_some_iff.mp hx).1
  have hpi : i < (l.map Ct.e).length := by simp; omega
  intro m
  induction m with
  | zero =>
    intro k hm hk hne ρ st h0 h3 h5 Q hQ hQ2
    have hki : k = i := by omega
    subst hki
    rw [← upd_self h0, ← upd_self h3, ← upd_self h5]
    refine WC_loop ?_
    repeat' (first
 | (refine I_WS ?_; first
 | (refine I_mov ?_; first
 | refine W_mov (v := .int _ _) rfl rfl rfl ?_)
 | (refine I_bin ?_; first
 | refine W_lssF rfl rfl rfl rfl (by omega) ?_)
 | refine WS_nil ?_)
 | refine WC_seq ?_
 | refine WC_opsS ?_
 | refine WC_condF rfl ?_
 | refine WC_exit ?_)
    refine hQ hne _ ?_ ?_ <;> rfl
  | succ m ih =>
    intro k hm hk hne ρ st h0 h3 h5 Q hQ hQ2
    have hki : (k : Int) < i := by omega
    obtain ⟨y, hy⟩ : ∃ y, l[k]? = some y := ⟨l[k]'(by omega), List.getElem?_eq_getElem _⟩
    have hpk : k < (l.map Ct.e).length := by simp; omega
    obtain ⟨_, ⟨tt, rfl⟩, hov⟩ := r_cover y x
    have hnext : y.id ≠ x.id → ∀ (ρ' : Nat → D), ρ' 0 = .slice t 6 (l.map Ct.e) → ρ' 3 = .int .i64 i → ρ' 5 = .int .i64 ((k : Int) + 1) → WC Γ (.loop c_feluccaref06_Right_l0) ρ' st Q := fun h ρ' e0 e3 e5 =>
      ih (k + 1) (by omega) (by omega) (fun j z hj hz => by
        rcases Nat.lt_or_eq_of_le (Nat.le_of_lt_succ hj) with h' | h'
        · exact hne j z h' hz
        · subst h'
          rw [hy] at hz
          cases hz
          exact h) ρ' st e0 e3 e5 Q hQ hQ2
    clear ih hne hQ
    rw [← upd_self h0, ← upd_self h3, ← upd_self h5]
    refine WC_loop ?_
    repeat' (first
 | (refine I_WS ?_; first
 | refine W_iaddr (j := k) rfl rfl rfl rfl rfl hpk ?_
 | refine W_iaddr (j := i) rfl rfl rfl rfl rfl hpi ?_
 | (refine I_mov ?_; first
 | refine W_skip rfl ?_
 | refine W_mov (v := .int _ _) rfl rfl rfl ?_
 | refine W_mov (v := .bool _) rfl rfl rfl ?_
 | refine W_mov (v := .slice _ _ _) rfl rfl rfl ?_)
 | (refine I_bin ?_; first
 | refine W_lssT rfl rfl rfl rfl (by omega) ?_
 | (refine W_eql rfl rfl rfl rfl ?_ ?_ <;> intro _)
 | refine W_add rfl rfl rfl rfl (by first | exact w64 (by omega) | rfl) ?_)
 | (refine I_load ?_; first
 | refine W_skip rfl ?_
 | refine W_loadE (agg := true) (d := .agg [_, _, _, _, _, _]) rfl rfl rfl hy rfl ?_
 | refine W_loadE (agg := true) (d := .agg [_, _, _, _, _, _]) rfl rfl rfl hx rfl ?_
 | refine W_loadE (agg := false) (d := .int _ _) rfl rfl rfl hy rfl ?_
 | refine W_loadE (agg := false) (d := .int _ _) rfl rfl rfl hx rfl ?_)
 | (refine I_call ?_; first
 | refine W_skip rfl ?_
 | (refine W_callB rfl rfl rfl hov rfl ?_ ?_ <;> intro _))
 | (refine I_pick ?_; first
 | refine W_pick (v := .bool _) rfl rfl rfl rfl ?_)
 | refine W_faddrE rfl rfl rfl ?_
 | refine W_skip rfl ?_
 | refine WS_nil ?_)
 | refine WC_seq ?_
 | refine WC_opsS ?_
 | refine WC_drawS ?_
 | refine WC_skip ?_
 | refine WC_condT rfl ?_
 | refine WC_condF rfl ?_
 | refine WC_block ?_
 | refine WC_ret ?_
 | refine okF_intro rfl ?_)
    all_goals first
      | (refine hQ2 _ ?_; rfl; done)
      | (refine hnext (by assumption) _ ?_ ?_ ?_ <;> rfl)
end Go.Vit

/-
  The edges from a node, handed back as a row; the reference's, too; rows compared.
-/
namespace Go.Vit
open Go.Ev
set_option linter.unusedVariables false
set_option linter.unusedSimpArgs false
theorem fin_out {ρ : Nat → D} {st : Store} {X0 : X} {rs : List Rs} {d : D} {es : List Eg} (hx : X0 = .normal ∨ X0 = .ret) (h1 : resAll ρ st rs = some d) (hO : OutOK st d es) : (X0 = .normal ∨ X0 = .ret) ∧ ∃ r, (resAll ρ st rs).bind (finP st) = some r ∧ IsN Eg.e 8 es r := by
  rcases hO with ⟨rfl, rfl⟩ | ⟨q, n, c, h0, rfl, hne, rfl, hR⟩
  · exact ⟨hx, .slice .isnil 0 [], by rw [h1]; rfl, .isnil, 0, rfl, .inr rfl, rfl⟩
  · exact finX_N (t := .row) (s := 8) rfl (.inl rfl) (fin_row hx h1 (by rw [List.length_map]) (by decide) hR (fun d hd => by
      obtain ⟨e, _, rfl⟩ := List.mem_map.mp hd
      exact ⟨rfl, rfl⟩))
theorem l_From (n : Int) (l : List Eg) (hll : l.length ≤ 1073741824) (t0 : Tok) (sz0 : Nat) (hs0 : sz0 = 8 ∨ l = []) : ∀ (post pre : List Eg), l = pre ++ post → ∀ (ρ : Nat → D) (st : Store) (d : D), st.lim ≤ 0 → OutOK st d (fromE n pre) →
    ρ 1 = .int .i64 n → ρ 4 = d → ρ 7 = .slice t0 sz0 (l.map Eg.e) → ρ 8 = .int .i64 l.length → ρ 9 = .int .i64 pre.length → ∀ (Q : X → (Nat → D) → Store → Prop),
    (∀ ρ' st' d, OutOK st' d (fromE n l) → ρ' 4 = d → Q (.exit 0) ρ' st') → WC Γ (.loop c_view_From_l0) ρ st Q := by
  intro post
  induction post with
  | nil =>
    intro pre hp ρ st d hlim hO h1 h4 h7 h8 h9 Q hQ
    rw [List.append_nil] at hp
    have hlen : l.length = pre.length := by rw [hp]
    rw [← hp] at hO
    rw [← upd_self h1, ← upd_self h4, ← upd_self h7, ← upd_self h8, ← upd_self h9]
    refine WC_loop ?_
    repeat' (first
 | (refine I_WS ?_; first
 | (refine I_bin ?_; first
 | refine W_lssF rfl rfl rfl rfl (by omega) ?_)
 | refine WS_nil ?_)
 | refine WC_seq ?_
 | refine WC_opsS ?_
 | refine WC_condF rfl ?_
 | refine WC_exit ?_)
    exact hQ _ _ d hO rfl
  | cons x post ih =>
    intro pre hp ρ st d hlim hO h1 h4 h7 h8 h9 Q hQ
    have hv := eg_mid hp
    have hlen : l.length = pre.length + (post.length + 1) := by rw [hp]; simp
    have hz : sz0 = 8 := hs0.resolve_right (by rintro rfl; simp at hlen)
    subst hz
    have hlim2 : st.lim ≤ st.next := by omega
    have hlim4 : st.lim ≤ st.next + 1 := by omega
    have hfl : (fromE n pre).length ≤ pre.length := List.length_filter_le _ _
    have hpl : pre.length < (l.map Eg.e).length := by simp; omega
    have hltl : (pre.length : Int) < l.length := by omega
    have hnext : ∀ (ρ' : Nat → D) (st' : Store) (d : D), st'.lim ≤ 0 → OutOK st' d (if x.fr = n then fromE n pre ++ [x] else fromE n pre) → ρ' 1 = .int .i64 n → ρ' 4 = d → ρ' 7 = .slice t0 8 (l.map Eg.e) → ρ' 8 = .int .i64 l.length → ρ' 9 = .int .i64 ((pre.length : Int) + 1) → WC Γ (.loop c_view_From_l0) ρ' st' Q := by
      intro ρ' st' d e1 e2 e3 e4 e5 e6 e7
      exact ih (pre ++ [x]) (by simp [hp]) ρ' st' d e1 (by rw [fromE_snoc]; exact e2) e3 e4 e5 e6 (by rw [List.length_append]; exact e7) Q hQ
    clear ih hp hQ hs0
    generalize fromE n pre = es at *
    rw [← upd_self h1, ← upd_self h4, ← upd_self h7, ← upd_self h8, ← upd_self h9]
    refine WC_loop ?_
    by_cases hx : x.fr = n
    · rw [if_pos hx] at hnext
      rcases hO with ⟨rfl, rfl⟩ | ⟨q, m, c, h0, hn, hne, rfl, hR⟩
      · have hnil : ∀ d ∈ ([] : List D), Elem 8 d := by simp
        have hb64 : (([] : List D).length + [x.e].length) * 64 ≤ 140737488355328 := by simp
        repeat' (first
 | (refine I_WS ?_; first
 | refine W_iaddr (j := pre.length) rfl rfl rfl rfl rfl hpl ?_
 | refine W_store (cs' := [_, _, _, _, _, _, _, _]) rfl rfl (upd_same _ _ _) rfl hlim2 rfl rfl rfl ?_
 | (refine W_appNew (t0 := .isnil) (xs := []) (ys := [x.e]) rfl rfl (.inr rfl) (.inr rfl) rfl rfl (.inl rfl) (Nat.succ_pos _) hnil (elem8 x) hb64 hlim4 ?_ <;> intro st1 e1 e2 e3 e4 e5 e6 e7)
 | (refine I_mov ?_; first
 | refine W_mov (v := .int _ _) rfl rfl rfl ?_
 | refine W_mov (v := .slice _ _ _) rfl rfl rfl ?_
 | refine W_mov (v := .rs _ _ _ _ _) rfl rfl rfl ?_)
 | (refine I_bin ?_; first
 | refine W_lssT rfl rfl rfl rfl (by omega) ?_
 | refine W_eqlT rfl rfl rfl rfl (by omega) ?_
 | refine W_add rfl rfl rfl rfl (by first | exact w64 (by omega) | rfl) ?_)
 | (refine I_load ?_; first
 | refine W_loadE (agg := true) (d := .agg [_, _, _, _, _, _, _, _]) rfl rfl rfl hv rfl ?_
 | refine W_load (agg := false) (d := .int _ _) rfl rfl rfl (bxc rfl) hlim2 rfl ?_
 | refine W_load (agg := true) (d := .agg [_, _, _, _, _, _, _, _]) rfl rfl rfl (bxc rfl) hlim2 rfl ?_)
 | refine W_faddr rfl rfl rfl ?_
 | refine W_alloc rfl rfl ?_
 | refine W_bslice (ys := [_]) rfl rfl rfl (by decide) rfl ?_
 | refine WS_nil ?_)
 | refine WC_seq ?_
 | refine WC_opsS ?_
 | refine WC_skip ?_
 | refine WC_condT rfl ?_
 | refine WC_block ?_)
        refine hnext _ _ (.rs (st.next + 1) 0 8 (0 + 1) (0 + 1)) ?_ ?_ ?_ ?_ ?_ ?_ ?_
        · rw [e1]; exact hlim
        · exact .inr ⟨_, _, _, Nat.succ_pos _, rfl, by simp, rfl, e5⟩
        · rfl
        · rfl
        · rfl
        · rfl
        · rfl
      · have hby : (m + ([x.e] : List D).length) * 64 ≤ 140737488355328 := by simp; omega
        have hqn := hR.2.1
        have hlq : st.lim ≤ q := by omega
        have hnm : m = (es.map Eg.e).length := by simp [hn]
        repeat' (first
 | (refine I_WS ?_; first
 | refine W_iaddr (j := pre.length) rfl rfl rfl rfl rfl hpl ?_
 | refine W_store (cs' := [_, _, _, _, _, _, _, _]) rfl rfl (upd_same _ _ _) rfl hlim2 rfl rfl rfl ?_
 | (refine W_appRow (ys := [x.e]) rfl rfl rfl (hR.of (by exact hlq) (by show q < st.next + 1; omega) (by dsimp only; rw [upd_ne _ _ (show q ≠ st.next by omega), upd_ne _ _ (show q ≠ st.next by omega)])) hnm (.inl rfl) el8 (elem8 x) hby ?_ <;> intro p' c' st1 e1 e2 e3 e4 e5 e6 e7 e8)
 | (refine I_mov ?_; first
 | refine W_mov (v := .int _ _) rfl rfl rfl ?_
 | refine W_mov (v := .rs _ _ _ _ _) rfl rfl rfl ?_)
 | (refine I_bin ?_; first
 | refine W_lssT rfl rfl rfl rfl (by omega) ?_
 | refine W_eqlT rfl rfl rfl rfl (by omega) ?_
 | refine W_add rfl rfl rfl rfl (by first | exact w64 (by omega) | rfl) ?_)
 | (refine I_load ?_; first
 | refine W_loadE (agg := true) (d := .agg [_, _, _, _, _, _, _, _]) rfl rfl rfl hv rfl ?_
 | refine W_load (agg := false) (d := .int _ _) rfl rfl rfl (bxc rfl) hlim2 rfl ?_
 | refine W_load (agg := true) (d := .agg [_, _, _, _, _, _, _, _]) rfl rfl rfl (bxc rfl) hlim2 rfl ?_)
 | refine W_faddr rfl rfl rfl ?_
 | refine W_alloc rfl rfl ?_
 | refine W_bslice (ys := [_]) rfl rfl rfl (by decide) rfl ?_
 | refine WS_nil ?_)
 | refine WC_seq ?_
 | refine WC_opsS ?_
 | refine WC_skip ?_
 | refine WC_condT rfl ?_
 | refine WC_block ?_)
        refine hnext _ _ (.rs p' 0 8 (m + 1) c') ?_ ?_ ?_ ?_ ?_ ?_ ?_
        · rw [e1]; exact hlim
        · refine .inr ⟨p', m + 1, c', ?_, by simp [hn], by simp, rfl, ?_⟩
          · rcases e8 with rfl | h
            · exact h0
            · exact Nat.lt_of_lt_of_le (Nat.succ_pos _) h
          · rw [List.map_append]; exact e5
        · rfl
        · rfl
        · rfl
        · rfl
        · rfl
    · rw [if_neg hx] at hnext
      repeat' (first
 | (refine I_WS ?_; first
 | refine W_iaddr (j := pre.length) rfl rfl rfl rfl rfl hpl ?_
 | refine W_store (cs' := [_, _, _, _, _, _, _, _]) rfl rfl (upd_same _ _ _) rfl hlim2 rfl rfl rfl ?_
 | (refine I_mov ?_; first
 | refine W_mov (v := .int _ _) rfl rfl rfl ?_)
 | (refine I_bin ?_; first
 | refine W_lssT rfl rfl rfl rfl (by omega) ?_
 | refine W_eqlF rfl rfl rfl rfl (by omega) ?_
 | refine W_add rfl rfl rfl rfl (by first | exact w64 (by omega) | rfl) ?_)
 | (refine I_load ?_; first
 | refine W_loadE (agg := true) (d := .agg [_, _, _, _, _, _, _, _]) rfl rfl rfl hv rfl ?_
 | refine W_load (agg := false) (d := .int _ _) rfl rfl rfl (bxc rfl) hlim2 rfl ?_)
 | refine W_faddr rfl rfl rfl ?_
 | refine W_alloc rfl rfl ?_
 | refine WS_nil ?_)
 | refine WC_seq ?_
 | refine WC_opsS ?_
 | refine WC_skip ?_
 | refine WC_condT rfl ?_
 | refine WC_condF rfl ?_
 | refine WC_block ?_)
      refine hnext _ _ d ?_ ?_ ?_ ?_ ?_ ?_ ?_
      · exact hlim
      · exact hO.of (by exact hlim) (by exact Nat.le_succ _) (fun q hq => by dsimp only; rw [upd_ne _ _ (show q ≠ st.next by omega), upd_ne _ _ (show q ≠ st.next by omega)])
      · rfl
      · rfl
      · rfl
      · rfl
      · rfl
theorem s_From (n : Int) (l : List Eg) (hll : l.length ≤ 1073741824) (t : Tok) (sz : Nat) (hs : sz = 8 ∨ l = []) : EvX Γ 21 [.slice t sz (l.map Eg.e), .int .i64 n] (IsN Eg.e 8 (fromE n l)) := by
  refine EvX_code rfl rfl ?_
  repeat' (first
 | (refine I_WS ?_; first
 | refine W_lenM rfl rfl rfl ?_
 | (refine I_mov ?_; first
 | refine W_mov (v := .int _ _) rfl rfl rfl ?_
 | refine W_mov (v := .slice _ _ _) rfl rfl rfl ?_)
 | refine WS_nil ?_)
 | refine WC_seq ?_
 | refine WC_opsS ?_
 | refine WC_block ?_)
  refine l_From n l hll t sz hs l [] rfl _ _ (.slice .isnil 0 []) ?_ ?_ ?_ ?_ ?_ ?_ ?_ _ (fun ρ' st' d hO h4 => ?_)
  · exact Nat.le_refl _
  · exact .inl ⟨rfl, rfl⟩
  · rfl
  · rfl
  · rfl
  · rfl
  · rfl
  rcases hO with ⟨he, rfl⟩ | ⟨q, m, c, h0, hn, hne, rfl, hR⟩
  · rw [← upd_self h4]
    repeat' (first
 | (refine I_WS ?_; first
 | (refine I_mov ?_; first
 | refine W_mov (v := .slice _ _ _) rfl rfl rfl ?_)
 | refine WS_nil ?_)
 | refine WC_seq ?_
 | refine WC_opsS ?_
 | refine WC_ret ?_)
    exact fin_out (d := .slice .isnil 0 []) (.inr rfl) rfl (.inl ⟨he, rfl⟩)
  · rw [← upd_self h4]
    repeat' (first
 | (refine I_WS ?_; first
 | (refine I_mov ?_; first
 | refine W_mov (v := .rs _ _ _ _ _) rfl rfl rfl ?_)
 | refine WS_nil ?_)
 | refine WC_seq ?_
 | refine WC_opsS ?_
 | refine WC_ret ?_)
    exact fin_out (d := .rs q 0 8 m c) (.inr rfl) rfl (.inr ⟨q, m, c, h0, hn, hne, rfl, hR⟩)
end Go.Vit

/-
  The reference's edges from a node.
-/
namespace Go.Vit
open Go.Ev
set_option linter.unusedVariables false
set_option linter.unusedSimpArgs false
/-- What is there of the edges, at any place. -/
def OutO (st : Store) (d : D) (es : List Eg) : Prop := (es = [] ∧ d = .slice .isnil 0 []) ∨ ∃ q n c, n = es.length ∧ es ≠ [] ∧ d = .rs q 0 8 n c ∧ RowIs st q 8 (es.map Eg.e)
theorem fin_outO {ρ : Nat → D} {st : Store} {X0 : X} {rs : List Rs} {d : D} {es : List Eg} (hx : X0 = .normal ∨ X0 = .ret) (h1 : resAll ρ st rs = some d) (hO : OutO st d es) : (X0 = .normal ∨ X0 = .ret) ∧ ∃ r, (resAll ρ st rs).bind (finP st) = some r ∧ IsN Eg.e 8 es r := by
  rcases hO with ⟨rfl, rfl⟩ | ⟨q, n, c, rfl, hne, rfl, hR⟩
  · exact ⟨hx, .slice .isnil 0 [], by rw [h1]; rfl, .isnil, 0, rfl, .inr rfl, rfl⟩
  · exact finX_N (t := .row) (s := 8) rfl (.inl rfl) (fin_row hx h1 (by rw [List.length_map]) (by decide) hR (fun d hd => by
      obtain ⟨e, _, rfl⟩ := List.mem_map.mp hd
      exact ⟨rfl, rfl⟩))
theorem rl_From (n : Int) (l : List Eg) (hll : l.length ≤ 1073741824) (t0 : Tok) (sz0 : Nat) (hs0 : sz0 = 8 ∨ l = []) : ∀ (post pre : List Eg), l = pre ++ post → ∀ (ρ : Nat → D) (st : Store) (d : D), st.lim ≤ 0 → OutO st d (fromE n pre) →
    ρ 0 = .slice t0 sz0 (l.map Eg.e) → ρ 1 = .int .i64 n → ρ 5 = d → ρ 6 = .int .i64 pre.length → ∀ (Q : X → (Nat → D) → Store → Prop),
    (∀ ρ' st' d, OutO st' d (fromE n l) → ρ' 5 = d → Q (.exit 0) ρ' st') → WC Γ (.loop c_feluccaref11_From_l0) ρ st Q := by
  intro post
  induction post with
  | nil =>
    intro pre hp ρ st d hlim hO h0 h1 h5 h6 Q hQ
    rw [List.append_nil] at hp
    have hlen : l.length = pre.length := by rw [hp]
    rw [← hp] at hO
    rw [← upd_self h0, ← upd_self h1, ← upd_self h5, ← upd_self h6]
    refine WC_loop ?_
    repeat' (first
 | (refine I_WS ?_; first
 | (refine I_mov ?_; first
 | refine W_mov (v := .int _ _) rfl rfl rfl ?_
 | refine W_mov (v := .slice _ _ _) rfl rfl rfl ?_)
 | (refine I_bin ?_; first
 | refine W_lssF rfl rfl rfl rfl (by omega) ?_)
 | refine W_lenM rfl rfl rfl ?_
 | refine WS_nil ?_)
 | refine WC_seq ?_
 | refine WC_opsS ?_
 | refine WC_condF rfl ?_
 | refine WC_exit ?_)
    exact hQ _ _ d hO rfl
  | cons x post ih =>
    intro pre hp ρ st d hlim hO h0 h1 h5 h6 Q hQ
    have hv := eg_mid hp
    have hlen : l.length = pre.length + (post.length + 1) := by rw [hp]; simp
    have hz : sz0 = 8 := hs0.resolve_right (by rintro rfl; simp at hlen)
    subst hz
    have hlim2 : st.lim ≤ st.next := by omega
    have hfl : (fromE n pre).length ≤ pre.length := List.length_filter_le _ _
    have hpl : pre.length < (l.map Eg.e).length := by simp; omega
    have hltl : (pre.length : Int) < l.length := by omega
    have hnext : ∀ (ρ' : Nat → D) (st' : Store) (d : D), st'.lim ≤ 0 → OutO st' d (if x.fr = n then fromE n pre ++ [x] else fromE n pre) → ρ' 0 = .slice t0 8 (l.map Eg.e) → ρ' 1 = .int .i64 n → ρ' 5 = d → ρ' 6 = .int .i64 ((pre.length : Int) + 1) → WC Γ (.loop c_feluccaref11_From_l0) ρ' st' Q := by
      intro ρ' st' d e1 e2 e3 e4 e5 e6
      exact ih (pre ++ [x]) (by simp [hp]) ρ' st' d e1 (by rw [fromE_snoc]; exact e2) e3 e4 e5 (by rw [List.length_append]; exact e6) Q hQ
    clear ih hp hQ hs0
    generalize fromE n pre = es at *
    rw [← upd_self h0, ← upd_self h1, ← upd_self h5, ← upd_self h6]
    refine WC_loop ?_
    by_cases hx : x.fr = n
    · rw [if_pos hx] at hnext
      rcases hO with ⟨rfl, rfl⟩ | ⟨q, m, c, hn, hne, rfl, hR⟩
      · have hnil : ∀ d ∈ ([] : List D), Elem 8 d := by simp
        have hb64 : (([] : List D).length + [x.e].length) * 64 ≤ 140737488355328 := by simp
        repeat' (first
 | (refine I_WS ?_; first
 | refine W_iaddr (j := pre.length) rfl rfl rfl rfl rfl hpl ?_
 | (refine W_appNew (t0 := .isnil) (xs := []) (ys := [x.e]) rfl rfl (.inr rfl) (.inr rfl) rfl rfl (.inl rfl) (Nat.succ_pos _) hnil (elem8 x) hb64 hlim2 ?_ <;> intro st1 e1 e2 e3 e4 e5 e6 e7)
 | (refine I_mov ?_; first
 | refine W_mov (v := .int _ _) rfl rfl rfl ?_
 | refine W_mov (v := .slice _ _ _) rfl rfl rfl ?_
 | refine W_mov (v := .rs _ _ _ _ _) rfl rfl rfl ?_)
 | (refine I_bin ?_; first
 | refine W_lssT rfl rfl rfl rfl (by omega) ?_
 | refine W_eqlT rfl rfl rfl rfl (by omega) ?_
 | refine W_add rfl rfl rfl rfl (by first | exact w64 (by omega) | rfl) ?_)
 | (refine I_load ?_; first
 | refine W_loadE (agg := true) (d := .agg [_, _, _, _, _, _, _, _]) rfl rfl rfl hv rfl ?_
 | refine W_loadE (agg := false) (d := .int _ _) rfl rfl rfl hv rfl ?_)
 | refine W_lenM rfl rfl rfl ?_
 | refine W_faddrE rfl rfl rfl ?_
 | refine W_bslice (ys := [_]) rfl rfl rfl (by decide) rfl ?_
 | refine WS_nil ?_)
 | refine WC_seq ?_
 | refine WC_opsS ?_
 | refine WC_skip ?_
 | refine WC_condT rfl ?_
 | refine WC_block ?_)
        refine hnext _ _ (.rs st.next 0 8 (0 + 1) (0 + 1)) ?_ ?_ ?_ ?_ ?_ ?_
        · rw [e1]; exact hlim
        · exact .inr ⟨_, _, _, rfl, by simp, rfl, e5⟩
        · rfl
        · rfl
        · rfl
        · rfl
      · have hby : (m + ([x.e] : List D).length) * 64 ≤ 140737488355328 := by simp; omega
        have hqn := hR.2.1
        have hnm : m = (es.map Eg.e).length := by simp [hn]
        repeat' (first
 | (refine I_WS ?_; first
 | refine W_iaddr (j := pre.length) rfl rfl rfl rfl rfl hpl ?_
 | (refine W_appRow (ys := [x.e]) rfl rfl rfl hR hnm (.inl rfl) el8 (elem8 x) hby ?_ <;> intro p' c' st1 e1 e2 e3 e4 e5 e6 e7 e8)
 | (refine I_mov ?_; first
 | refine W_mov (v := .int _ _) rfl rfl rfl ?_
 | refine W_mov (v := .slice _ _ _) rfl rfl rfl ?_
 | refine W_mov (v := .rs _ _ _ _ _) rfl rfl rfl ?_)
 | (refine I_bin ?_; first
 | refine W_lssT rfl rfl rfl rfl (by omega) ?_
 | refine W_eqlT rfl rfl rfl rfl (by omega) ?_
 | refine W_add rfl rfl rfl rfl (by first | exact w64 (by omega) | rfl) ?_)
 | (refine I_load ?_; first
 | refine W_loadE (agg := true) (d := .agg [_, _, _, _, _, _, _, _]) rfl rfl rfl hv rfl ?_
 | refine W_loadE (agg := false) (d := .int _ _) rfl rfl rfl hv rfl ?_)
 | refine W_lenM rfl rfl rfl ?_
 | refine W_faddrE rfl rfl rfl ?_
 | refine W_bslice (ys := [_]) rfl rfl rfl (by decide) rfl ?_
 | refine WS_nil ?_)
 | refine WC_seq ?_
 | refine WC_opsS ?_
 | refine WC_skip ?_
 | refine WC_condT rfl ?_
 | refine WC_block ?_)
        refine hnext _ _ (.rs p' 0 8 (m + 1) c') ?_ ?_ ?_ ?_ ?_ ?_
        · rw [e1]; exact hlim
        · refine .inr ⟨p', m + 1, c', by simp [hn], by simp, rfl, ?_⟩
          rw [List.map_append]; exact e5
        · rfl
        · rfl
        · rfl
        · rfl
    · rw [if_neg hx] at hnext
      repeat' (first
 | (refine I_WS ?_; first
 | refine W_iaddr (j := pre.length) rfl rfl rfl rfl rfl hpl ?_
 | (refine I_mov ?_; first
 | refine W_mov (v := .int _ _) rfl rfl rfl ?_
 | refine W_mov (v := .slice _ _ _) rfl rfl rfl ?_)
 | (refine I_bin ?_; first
 | refine W_lssT rfl rfl rfl rfl (by omega) ?_
 | refine W_eqlF rfl rfl rfl rfl (by omega) ?_
 | refine W_add rfl rfl rfl rfl (by first | exact w64 (by omega) | rfl) ?_)
 | (refine I_load ?_; first
 | refine W_loadE (agg := false) (d := .int _ _) rfl rfl rfl hv rfl ?_)
 | refine W_lenM rfl rfl rfl ?_
 | refine W_faddrE rfl rfl rfl ?_
 | refine WS_nil ?_)
 | refine WC_seq ?_
 | refine WC_opsS ?_
 | refine WC_skip ?_
 | refine WC_condT rfl ?_
 | refine WC_condF rfl ?_
 | refine WC_block ?_)
      refine hnext _ _ d ?_ ?_ ?_ ?_ ?_ ?_
      · exact hlim
      · exact hO
      · rfl
      · rfl
      · rfl
      · rfl
theorem r_From (n : Int) (l : List Eg) (hll : l.length ≤ 1073741824) (t : Tok) (sz : Nat) (hs : sz = 8 ∨ l = []) : EvX Γ 22 [.slice t sz (l.map Eg.e), .int .i64 n] (IsN Eg.e 8 (fromE n l)) := by
  refine EvX_code rfl rfl ?_
  repeat' (first
 | (refine I_WS ?_; first
 | (refine I_mov ?_; first
 | refine W_mov (v := .int _ _) rfl rfl rfl ?_
 | refine W_mov (v := .slice _ _ _) rfl rfl rfl ?_)
 | refine WS_nil ?_)
 | refine WC_seq ?_
 | refine WC_opsS ?_
 | refine WC_block ?_)
  refine rl_From n l hll t sz hs l [] rfl _ _ (.slice .isnil 0 []) ?_ ?_ ?_ ?_ ?_ ?_ _ (fun ρ' st' d hO h5 => ?_)
  · exact Nat.le_refl _
  · exact .inl ⟨rfl, rfl⟩
  · rfl
  · rfl
  · rfl
  · rfl
  rcases hO with ⟨he, rfl⟩ | ⟨q, m, c, hn, hne, rfl, hR⟩
  · rw [← upd_self h5]
    repeat' (first
 | (refine I_WS ?_; first
 | (refine I_mov ?_; first
 | refine W_mov (v := .slice _ _ _) rfl rfl rfl ?_)
 | refine WS_nil ?_)
 | refine WC_seq ?_
 | refine WC_opsS ?_
 | refine WC_ret ?_)
    exact fin_outO (d := .slice .isnil 0 []) (.inr rfl) rfl (.inl ⟨he, rfl⟩)
  · rw [← upd_self h5]
    repeat' (first
 | (refine I_WS ?_; first
 | (refine I_mov ?_; first
 | refine W_mov (v := .rs _ _ _ _ _) rfl rfl rfl ?_)
 | refine WS_nil ?_)
 | refine WC_seq ?_
 | refine WC_opsS ?_
 | refine WC_ret ?_)
    exact fin_outO (d := .rs q 0 8 m c) (.inr rfl) rfl (.inr ⟨q, m, c, hn, hne, rfl, hR⟩)
end Go.Vit

/-
  One cell of an element of a row; insertion, as plain lists.
-/
namespace Go.Ev
theorem row_cut1 {cs : List D} {sz i o : Nat} {xs ys : List D} {d : D} (hlen : xs.length * sz ≤ cs.length) (hc : cs.take (xs.length * sz) = xs.flatMap D.cells) (hxs : ∀ d ∈ xs, d.cells.length = sz) (hx : xs[i]? = some (.agg ys)) (ho : ys[o]? = some d) : cut false 1 (i * sz + o) cs = some d := by
  have hi : i < xs.length := (List.getElem?_eq_some_iff.mp hx).1
  have h1 := take_drop_row hc hxs hx
  have h2 : i * sz + sz ≤ xs.length * sz := by rw [← Nat.succ_mul]; exact Nat.mul_le_mul_right _ hi
  have h3 : ys.length = sz := hxs _ (List.mem_of_getElem? hx)
  have h4 : o < sz := by rw [← h3]; exact (List.getElem?_eq_some_iff.mp ho).1
  have h5 : ((cs.drop (i * sz)).take sz)[o]? = some d := by rw [h1]; exact ho
  rw [List.getElem?_take_of_lt h4, List.getElem?_drop] at h5
  unfold cut
  rw [if_pos (by omega)]
  simpa using h5
section
variable {Γ : Nat → Option FD} {ρ : Nat → D} {st : Store} {dr : Bool} {R : (Nat → D) → Store → List Fl → Prop} {l : List Op1} {g : Option (Nat × Bool)} {mv : Bool} {k : Nat} {x : A}
theorem W_loadRow1 {p off sz j o : Nat} {xs ys : List D} {d : D} (hg : guardV ρ g = some true) (hx : x.ev ρ = .ptr p off) (hR : RowIs st p sz xs) (ho : off = j * sz + o) (hxs : ∀ d ∈ xs, d.cells.length = sz) (hj : xs[j]? = some (.agg ys)) (hd : ys[o]? = some d) (hm : mv = false)
    (h : WS Γ dr l (upd ρ k d) st (nx (.r p) R)) : WS Γ dr (⟨some k, g, mv, .load false 1 x⟩ :: l) ρ st R := by
  obtain ⟨hl, _, cs, h1, h2, h3, _⟩ := hR
  subst ho
  exact W_loadM hg hx (by rw [h1]; rfl) hl (row_cut1 h2 h3 hxs hj hd) h
end
end Go.Ev
namespace Go.Vit
open Go.Ev
set_option linter.unusedVariables false
set_option linter.unusedSimpArgs false
def Fl.rd : Fl → Bool
  | .n | .r _ | .c => true
  | _ => false
theorem clash_rd {a b : Fl} (ha : Fl.rd a = true) (hb : Fl.rd b = true) : a.clash b = false := by
  cases a <;> cases b <;> first | rfl | (simp [Fl.rd] at ha; done) | (simp [Fl.rd] at hb; done)
theorem okFlags_rd {bef : List (List Nat)} {fl : List Fl} (h : fl.all Fl.rd = true) : okFlags bef fl = true := by
  unfold okFlags
  rw [List.all_eq_true] at h ⊢
  intro j hj
  rw [List.all_eq_true]
  intro i hi
  have hj' := List.mem_range.mp hj
  have hi' := List.mem_range.mp hi
  rw [List.getElem?_eq_getElem (show i < fl.length by omega), List.getElem?_eq_getElem hj']
  simp only
  rw [clash_rd (h _ (List.getElem_mem _)) (h _ (List.getElem_mem _))]
  simp
theorem pw_eq : ∀ {l m : List Eg}, l.Perm m → (l.Pairwise fun a b => a.id ≤ b.id) → (m.Pairwise fun a b => a.id < b.id) → l = m
  | [], m, h, _, _ => (List.Perm.nil_eq h)
  | a :: l, [], h, _, _ => by have := h.length_eq; simp at this
  | a :: l, b :: m, h, hl, hm => by
    have hl' := List.pairwise_cons.mp hl
    have hm' := List.pairwise_cons.mp hm
    have e : a = b := by
      have h1 : a ∈ b :: m := h.mem_iff.mp List.mem_cons_self
      have h2 : b ∈ a :: l := h.mem_iff.mpr List.mem_cons_self
      rcases List.mem_cons.mp h1 with h1 | h1
      · exact h1
      rcases List.mem_cons.mp h2 with h2 | h2
      · exact h2.symm
      have e1 := hm'.1 a h1
      have e2 := hl'.1 b h2
      omega
    subst e
    rw [pw_eq ((List.perm_cons a).mp h) hl'.2 hm'.2]
/-- The list, where one element has been moved to a place. -/
def at' (s : List Eg) (e : Eg) (k : Nat) : List Eg := s.take k ++ e :: s.drop k
theorem at_perm (s : List Eg) (e : Eg) (k : Nat) : (at' s e k).Perm (e :: s) := by
  unfold at'
  exact List.perm_middle.trans (by rw [List.take_append_drop])
theorem at_sorted {s : List Eg} {e : Eg} {k : Nat} (hs : s.Pairwise fun a b => a.id ≤ b.id) (h1 : ∀ y ∈ s.drop k, e.id ≤ y.id) (h2 : ∀ y ∈ s.take k, y.id ≤ e.id) : (at' s e k).Pairwise fun a b => a.id ≤ b.id := by
  have h := hs
  rw [← List.take_append_drop k s, List.pairwise_append] at h
  unfold at'
  rw [List.pairwise_append, List.pairwise_cons]
  refine ⟨h.1, ⟨h1, h.2.1⟩, fun a ha b hb => ?_⟩
  rcases List.mem_cons.mp hb with rfl | hb
  · exact h2 a ha
  · exact h.2.2 a ha b hb
end Go.Vit

/-
  The reference's right contacts: the outer loop, the whole.
-/
namespace Go.Vit
open Go.Ev
set_option linter.unusedVariables false
set_option linter.unusedSimpArgs false
set_option maxHeartbeats 4000000 in
theorem rl_c1 (l : List Ct) (hll : l.length ≤ 1073741824) (t : Tok) (sz : Nat) (hs : sz = 6 ∨ l = []) : ∀ (post pre : List Ct), l = pre ++ post → Good pre → ∀ (ρ : Nat → D) (st : Store),
    ρ 0 = .slice t sz (l.map Ct.e) → ρ 3 = .int .i64 pre.length → ∀ (Q : X → (Nat → D) → Store → Prop),
    (Good l → ∀ ρ', ρ' 0 = .slice t sz (l.map Ct.e) → Q (.exit 0) ρ' st) → (∀ ρ', ρ' 2 = .bool false → Q .ret ρ' st) → WC Γ (.loop c_feluccaref06_Right_l1) ρ st Q := by
  intro post
  induction post with
  | nil =>
    intro pre hpp hG ρ st h0 h3 Q hQ hQ2
    rw [List.append_nil] at hpp
    subst hpp
    rw [← upd_self h0, ← upd_self h3]
    refine WC_loop ?_
    repeat' (first
 | (refine I_WS ?_; first
 | (refine I_mov ?_; first
 | refine W_mov (v := .int _ _) rfl rfl rfl ?_
 | refine W_mov (v := .slice _ _ _) rfl rfl rfl ?_)
 | (refine I_bin ?_; first
 | refine W_lssF rfl rfl rfl rfl (by omega) ?_)
 | refine W_lenM rfl rfl rfl ?_
 | refine WS_nil ?_)
 | refine WC_seq ?_
 | refine WC_opsS ?_
 | refine WC_condF rfl ?_
 | refine WC_exit ?_)
    exact hQ hG _ rfl
  | cons x post ih =>
    intro pre hpp hG ρ st h0 h3 Q hQ hQ2
    have hv := l_mid hpp
    have hlen : l.length = pre.length + (post.length + 1) := by rw [hpp]; simp
    have hz : sz = 6 := hs.resolve_right (by rintro rfl; simp at hlen)
    subst hz
    have hpl : pre.length < (l.map Ct.e).length := by simp; omega
    have hpl2 : pre.length - 1 < (l.map Ct.e).length := by simp; omega
    have hltl : (pre.length : Int) < l.length := by omega
    have hK : EvP Γ 39 [x.e] (.bool (decide x.ok)) := r_Contact x.id x.fr x.to x.st x.en x.ra
    obtain ⟨y, hvy⟩ : ∃ y, l[pre.length - 1]? = some y := ⟨l[pre.length - 1]'(by omega), List.getElem?_eq_getElem _⟩
    obtain ⟨_, ⟨tt, rfl⟩, hls⟩ := r_cless y x
    have hin := fun ρ st a b c Q => rl_c0 l hll t pre.length x hv pre.length 0 (Nat.sub_zero _) (Nat.zero_le _) (fun j y hj => absurd hj (Nat.not_lt_zero _)) ρ st a b c Q
    have hnext : x.ok → (∀ j y, j < pre.length → l[j]? = some y → y.id ≠ x.id) → ∀ (ρ' : Nat → D), ρ' 0 = .slice t 6 (l.map Ct.e) → ρ' 3 = .int .i64 ((pre.length : Int) + 1) → WC Γ (.loop c_feluccaref06_Right_l1) ρ' st Q := fun g1 g2 ρ' e0 e3 =>
      ih (pre ++ [x]) (by simp [hpp]) (hG.snoc g1 (fun hm => by
        obtain ⟨z, hz, hzi⟩ := List.mem_map.mp hm
        obtain ⟨j, hj, rfl⟩ := List.getElem_of_mem hz
        exact g2 j pre[j] hj (by rw [hpp, List.getElem?_append_left hj, List.getElem?_eq_getElem hj]) hzi)) ρ' st e0 (by rw [List.length_append]; exact e3) Q hQ hQ2
    clear ih hQ
    generalize hdo : decide x.ok = dok at hK
    rw [← upd_self h0, ← upd_self h3]
    refine WC_loop ?_
    by_cases hz : 0 < pre.length
    · have hsub : IntKind.i64.wrap ((pre.length : Int) - 1) = ((pre.length - 1 : Nat) : Int) := by rw [w64 (by omega)]; omega
      have hz' : (0 : Int) < pre.length := by omega
      repeat' (first
 | (refine I_WS ?_; first
 | refine W_sub (s := ((pre.length - 1 : Nat) : Int)) rfl rfl rfl rfl hsub ?_
 | refine W_iaddr (j := pre.length) rfl rfl rfl rfl rfl hpl ?_
 | refine W_iaddr (j := pre.length - 1) rfl rfl rfl rfl rfl hpl2 ?_
 | (refine I_mov ?_; first
 | refine W_skip rfl ?_
 | refine W_mov (v := .int _ _) rfl rfl rfl ?_
 | refine W_mov (v := .bool _) rfl rfl rfl ?_
 | refine W_mov (v := .slice _ _ _) rfl rfl rfl ?_)
 | (refine I_bin ?_; first
 | refine W_skip rfl ?_
 | refine W_lssT rfl rfl rfl rfl (by omega) ?_
 | refine W_gtrT rfl rfl rfl rfl (by omega) ?_)
 | (refine I_load ?_; first
 | refine W_skip rfl ?_
 | refine W_loadE (agg := true) (d := .agg [_, _, _, _, _, _]) rfl rfl rfl hv rfl ?_
 | refine W_loadE (agg := true) (d := .agg [_, _, _, _, _, _]) rfl rfl rfl hvy rfl ?_)
 | (refine I_call ?_; first
 | refine W_skip rfl ?_
 | (refine W_callB rfl rfl rfl hK rfl ?_ ?_ <;> intro _)
 | (refine W_callB rfl rfl rfl hls rfl ?_ ?_ <;> intro _))
 | (refine I_pick ?_; first
 | refine W_pick (v := .bool _) rfl rfl rfl rfl ?_
 | refine W_skip rfl ?_)
 | refine W_not rfl rfl rfl ?_
 | refine W_lenM rfl rfl rfl ?_
 | refine W_skip rfl ?_
 | refine WS_nil ?_)
 | refine WC_seq ?_
 | refine WC_opsS ?_
 | refine WC_drawS ?_
 | refine WC_skip ?_
 | refine WC_condT rfl ?_
 | refine WC_condF rfl ?_
 | refine WC_block ?_
 | refine WC_ret ?_
 | refine okF_intro rfl ?_)
      all_goals first
        | (refine hQ2 _ ?_; rfl; done)
        | skip
      all_goals
        refine hin _ _ ?_ ?_ ?_ _ (fun g2 ρ' a0 a3 => ?_) (fun ρ' a2 => ?_)
        · rfl
        · rfl
        · rfl
        · rw [← upd_self a0, ← upd_self a3]
          repeat' (first
 | (refine I_WS ?_; first
 | (refine I_mov ?_; first
 | refine W_mov (v := .int _ _) rfl rfl rfl ?_)
 | (refine I_bin ?_; first
 | refine W_add rfl rfl rfl rfl (by first | exact w64 (by omega) | rfl) ?_)
 | refine WS_nil ?_)
 | refine WC_opsS ?_)
          refine hnext (of_decide_eq_true (hdo.trans (by assumption))) g2 _ ?_ ?_ <;> rfl
        · exact hQ2 _ a2
    · have hz' : (pre.length : Int) ≤ 0 := by omega
      repeat' (first
 | (refine I_WS ?_; first
 | refine W_iaddr (j := pre.length) rfl rfl rfl rfl rfl hpl ?_
 | (refine I_mov ?_; first
 | refine W_skip rfl ?_
 | refine W_mov (v := .int _ _) rfl rfl rfl ?_
 | refine W_mov (v := .bool _) rfl rfl rfl ?_
 | refine W_mov (v := .slice _ _ _) rfl rfl rfl ?_)
 | (refine I_bin ?_; first
 | refine W_skip rfl ?_
 | refine W_lssT rfl rfl rfl rfl (by omega) ?_
 | refine W_gtrF rfl rfl rfl rfl (by omega) ?_)
 | (refine I_load ?_; first
 | refine W_skip rfl ?_
 | refine W_loadE (agg := true) (d := .agg [_, _, _, _, _, _]) rfl rfl rfl hv rfl ?_)
 | (refine I_call ?_; first
 | refine W_skip rfl ?_
 | (refine W_callB rfl rfl rfl hK rfl ?_ ?_ <;> intro _))
 | (refine I_pick ?_; first
 | refine W_pick (v := .bool _) rfl rfl rfl rfl ?_
 | refine W_skip rfl ?_)
 | refine W_not rfl rfl rfl ?_
 | refine W_lenM rfl rfl rfl ?_
 | refine W_skip rfl ?_
 | refine WS_nil ?_)
 | refine WC_seq ?_
 | refine WC_opsS ?_
 | refine WC_drawS ?_
 | refine WC_skip ?_
 | refine WC_condT rfl ?_
 | refine WC_condF rfl ?_
 | refine WC_block ?_
 | refine WC_ret ?_
 | refine okF_intro rfl ?_)
      all_goals first
        | (refine hQ2 _ ?_; rfl; done)
        | skip
      all_goals
        refine hin _ _ ?_ ?_ ?_ _ (fun g2 ρ' a0 a3 => ?_) (fun ρ' a2 => ?_)
        · rfl
        · rfl
        · rfl
        · rw [← upd_self a0, ← upd_self a3]
          repeat' (first
 | (refine I_WS ?_; first
 | (refine I_mov ?_; first
 | refine W_mov (v := .int _ _) rfl rfl rfl ?_)
 | (refine I_bin ?_; first
 | refine W_add rfl rfl rfl rfl (by first | exact w64 (by omega) | rfl) ?_)
 | refine WS_nil ?_)
 | refine WC_opsS ?_)
          refine hnext (of_decide_eq_true (hdo.trans (by assumption))) g2 _ ?_ ?_ <;> rfl
        · exact hQ2 _ a2
theorem r_cRight (l : List Ct) (hll : l.length ≤ 1073741824) (t : Tok) (sz : Nat) (hs : sz = 6 ∨ l = []) : EvX Γ 31 [.slice t sz (l.map Ct.e)] (fun r => ∃ b, r = .bool b ∧ (b = true → Good l)) := by
  refine EvX_code rfl rfl ?_
  repeat' (first
 | (refine I_WS ?_; first
 | (refine I_mov ?_; first
 | refine W_mov (v := .int _ _) rfl rfl rfl ?_
 | refine W_mov (v := .bool _) rfl rfl rfl ?_)
 | refine WS_nil ?_)
 | refine WC_seq ?_
 | refine WC_opsS ?_
 | refine WC_block ?_)
  refine rl_c1 l hll t sz hs l [] rfl ⟨by simp, by simp⟩ _ _ ?_ ?_ _ (fun hG ρ' h0 => ?_) (fun ρ' h2 => ?_)
  · rfl
  · rfl
  · rw [← upd_self h0]
    repeat' (first
 | (refine I_WS ?_; first
 | refine W_lenM rfl rfl rfl ?_
 | (refine I_mov ?_; first
 | refine W_mov (v := .bool _) rfl rfl rfl ?_
 | refine W_mov (v := .slice _ _ _) rfl rfl rfl ?_)
 | (refine I_bin ?_; first
 | (refine W_leq rfl rfl rfl rfl ?_ ?_ <;> intro _))
 | refine WS_nil ?_)
 | refine WC_seq ?_
 | refine WC_opsS ?_
 | refine WC_ret ?_)
    all_goals exact ⟨.inr rfl, _, rfl, _, rfl, fun _ => hG⟩
  · rw [← upd_self h2]
    exact ⟨.inr rfl, _, rfl, false, rfl, fun h => by cases h⟩
end Go.Vit

/-
  The reference's right ranges.
-/
namespace Go.Vit
open Go.Ev
set_option linter.unusedVariables false
set_option linter.unusedSimpArgs false
theorem rl_r0 (l : List Rg) (hll : l.length ≤ 1073741824) (t : Tok) (i : Nat) (x : Rg) (hx : l[i]? = some x) : ∀ (m k : Nat), i - k = m → k ≤ i → ∀ (ρ : Nat → D) (st : Store),
    ρ 0 = .slice t 5 (l.map Rg.e) → ρ 3 = .int .i64 i → ρ 5 = .int .i64 k → ∀ (Q : X → (Nat → D) → Store → Prop),
    (∀ ρ', ρ' 0 = .slice t 5 (l.map Rg.e) → ρ' 3 = .int .i64 i → Q (.exit 2) ρ' st) → (∀ ρ', ρ' 2 = .bool false → Q .ret ρ' st) → WC Γ (.loop c_feluccaref07_Right_l0) ρ st Q := by
  have hi := (List.getElem?_eq_some_iff.mp hx).1
  have hpi : i < (l.map Rg.e).length := by simp; omega
  intro m
  induction m with
  | zero =>
    intro k hm hk ρ st h0 h3 h5 Q hQ hQ2
    have hki : k = i := by omega
    subst hki
    rw [← upd_self h0, ← upd_self h3, ← upd_self h5]
    refine WC_loop ?_
    repeat' (first
 | (refine I_WS ?_; first
 | (refine I_mov ?_; first
 | refine W_mov (v := .int _ _) rfl rfl rfl ?_)
 | (refine I_bin ?_; first
 | refine W_lssF rfl rfl rfl rfl (by omega) ?_)
 | refine WS_nil ?_)
 | refine WC_seq ?_
 | refine WC_opsS ?_
 | refine WC_condF rfl ?_
 | refine WC_exit ?_)
    refine hQ _ ?_ ?_ <;> rfl
  | succ m ih =>
    intro k hm hk ρ st h0 h3 h5 Q hQ hQ2
    have hki : (k : Int) < i := by omega
    obtain ⟨y, hy⟩ : ∃ y, l[k]? = some y := ⟨l[k]'(by omega), List.getElem?_eq_getElem _⟩
    have hpk : k < (l.map Rg.e).length := by simp; omega
    obtain ⟨_, ⟨tt, rfl⟩, hov⟩ := r_rover y x
    have hnext : ∀ (ρ' : Nat → D), ρ' 0 = .slice t 5 (l.map Rg.e) → ρ' 3 = .int .i64 i → ρ' 5 = .int .i64 ((k : Int) + 1) → WC Γ (.loop c_feluccaref07_Right_l0) ρ' st Q := fun ρ' e0 e3 e5 =>
      ih (k + 1) (by omega) (by omega) ρ' st e0 e3 e5 Q hQ hQ2
    clear ih hQ
    rw [← upd_self h0, ← upd_self h3, ← upd_self h5]
    refine WC_loop ?_
    repeat' (first
 | (refine I_WS ?_; first
 | refine W_iaddr (j := k) rfl rfl rfl rfl rfl hpk ?_
 | refine W_iaddr (j := i) rfl rfl rfl rfl rfl hpi ?_
 | (refine I_mov ?_; first
 | refine W_mov (v := .int _ _) rfl rfl rfl ?_
 | refine W_mov (v := .bool _) rfl rfl rfl ?_
 | refine W_mov (v := .slice _ _ _) rfl rfl rfl ?_)
 | (refine I_bin ?_; first
 | refine W_lssT rfl rfl rfl rfl (by omega) ?_
 | refine W_add rfl rfl rfl rfl (by first | exact w64 (by omega) | rfl) ?_)
 | (refine I_load ?_; first
 | refine W_loadE (agg := true) (d := .agg [_, _, _, _, _]) rfl rfl rfl hy rfl ?_
 | refine W_loadE (agg := true) (d := .agg [_, _, _, _, _]) rfl rfl rfl hx rfl ?_)
 | (refine I_call ?_; first
 | (refine W_callB rfl rfl rfl hov rfl ?_ ?_ <;> intro _))
 | refine WS_nil ?_)
 | refine WC_seq ?_
 | refine WC_opsS ?_
 | refine WC_drawS ?_
 | refine WC_skip ?_
 | refine WC_condT rfl ?_
 | refine WC_condF rfl ?_
 | refine WC_block ?_
 | refine WC_ret ?_
 | refine okF_intro rfl ?_)
    all_goals first
      | (refine hQ2 _ ?_; rfl; done)
      | (refine hnext _ ?_ ?_ ?_ <;> rfl)
set_option maxHeartbeats 4000000 in
theorem rl_r1 (l : List Rg) (hll : l.length ≤ 1073741824) (t : Tok) (sz : Nat) (hs : sz = 5 ∨ l = []) : ∀ (post pre : List Rg), l = pre ++ post → ∀ (ρ : Nat → D) (st : Store),
    ρ 0 = .slice t sz (l.map Rg.e) → ρ 3 = .int .i64 pre.length → ∀ (Q : X → (Nat → D) → Store → Prop),
    (∀ ρ', ρ' 0 = .slice t sz (l.map Rg.e) → Q (.exit 0) ρ' st) → (∀ ρ', ρ' 2 = .bool false → Q .ret ρ' st) → WC Γ (.loop c_feluccaref07_Right_l1) ρ st Q := by
  intro post
  induction post with
  | nil =>
    intro pre hpp ρ st h0 h3 Q hQ hQ2
    rw [List.append_nil] at hpp
    subst hpp
    rw [← upd_self h0, ← upd_self h3]
    refine WC_loop ?_
    repeat' (first
 | (refine I_WS ?_; first
 | (refine I_mov ?_; first
 | refine W_mov (v := .int _ _) rfl rfl rfl ?_
 | refine W_mov (v := .slice _ _ _) rfl rfl rfl ?_)
 | (refine I_bin ?_; first
 | refine W_lssF rfl rfl rfl rfl (by omega) ?_)
 | refine W_lenM rfl rfl rfl ?_
 | refine WS_nil ?_)
 | refine WC_seq ?_
 | refine WC_opsS ?_
 | refine WC_condF rfl ?_
 | refine WC_exit ?_)
    exact hQ _ rfl
  | cons x post ih =>
    intro pre hpp ρ st h0 h3 Q hQ hQ2
    have hv := l_mid hpp
    have hlen : l.length = pre.length + (post.length + 1) := by rw [hpp]; simp
    have hz : sz = 5 := hs.resolve_right (by rintro rfl; simp at hlen)
    subst hz
    have hpl : pre.length < (l.map Rg.e).length := by simp; omega
    have hpl2 : pre.length - 1 < (l.map Rg.e).length := by simp; omega
    have hltl : (pre.length : Int) < l.length := by omega
    obtain ⟨_, ⟨tk, rfl⟩, hK⟩ := r_rok x
    obtain ⟨y, hvy⟩ : ∃ y, l[pre.length - 1]? = some y := ⟨l[pre.length - 1]'(by omega), List.getElem?_eq_getElem _⟩
    obtain ⟨_, ⟨tt, rfl⟩, hls⟩ := r_rless y x
    have hin := fun ρ st a b c Q => rl_r0 l hll t pre.length x hv pre.length 0 (Nat.sub_zero _) (Nat.zero_le _) ρ st a b c Q
    have hnext : ∀ (ρ' : Nat → D), ρ' 0 = .slice t 5 (l.map Rg.e) → ρ' 3 = .int .i64 ((pre.length : Int) + 1) → WC Γ (.loop c_feluccaref07_Right_l1) ρ' st Q := fun ρ' e0 e3 =>
      ih (pre ++ [x]) (by simp [hpp]) ρ' st e0 (by rw [List.length_append]; exact e3) Q hQ hQ2
    clear ih hQ
    rw [← upd_self h0, ← upd_self h3]
    refine WC_loop ?_
    by_cases hz : 0 < pre.length
    · have hsub : IntKind.i64.wrap ((pre.length : Int) - 1) = ((pre.length - 1 : Nat) : Int) := by rw [w64 (by omega)]; omega
      have hz' : (0 : Int) < pre.length := by omega
      repeat' (first
 | (refine I_WS ?_; first
 | refine W_sub (s := ((pre.length - 1 : Nat) : Int)) rfl rfl rfl rfl hsub ?_
 | refine W_iaddr (j := pre.length) rfl rfl rfl rfl rfl hpl ?_
 | refine W_iaddr (j := pre.length - 1) rfl rfl rfl rfl rfl hpl2 ?_
 | (refine I_mov ?_; first
 | refine W_skip rfl ?_
 | refine W_mov (v := .int _ _) rfl rfl rfl ?_
 | refine W_mov (v := .bool _) rfl rfl rfl ?_
 | refine W_mov (v := .slice _ _ _) rfl rfl rfl ?_)
 | (refine I_bin ?_; first
 | refine W_skip rfl ?_
 | refine W_lssT rfl rfl rfl rfl (by omega) ?_
 | refine W_gtrT rfl rfl rfl rfl (by omega) ?_)
 | (refine I_load ?_; first
 | refine W_skip rfl ?_
 | refine W_loadE (agg := true) (d := .agg [_, _, _, _, _]) rfl rfl rfl hv rfl ?_
 | refine W_loadE (agg := true) (d := .agg [_, _, _, _, _]) rfl rfl rfl hvy rfl ?_)
 | (refine I_call ?_; first
 | refine W_skip rfl ?_
 | (refine W_callB rfl rfl rfl hK rfl ?_ ?_ <;> intro _)
 | (refine W_callB rfl rfl rfl hls rfl ?_ ?_ <;> intro _))
 | (refine I_pick ?_; first
 | refine W_pick (v := .bool _) rfl rfl rfl rfl ?_
 | refine W_skip rfl ?_)
 | refine W_not rfl rfl rfl ?_
 | refine W_lenM rfl rfl rfl ?_
 | refine W_skip rfl ?_
 | refine WS_nil ?_)
 | refine WC_seq ?_
 | refine WC_opsS ?_
 | refine WC_drawS ?_
 | refine WC_skip ?_
 | refine WC_condT rfl ?_
 | refine WC_condF rfl ?_
 | refine WC_block ?_
 | refine WC_ret ?_
 | refine okF_intro rfl ?_)
      all_goals first
        | (refine hQ2 _ ?_; rfl; done)
        | skip
      all_goals
        refine hin _ _ ?_ ?_ ?_ _ (fun ρ' a0 a3 => ?_) (fun ρ' a2 => ?_)
        · rfl
        · rfl
        · rfl
        · rw [← upd_self a0, ← upd_self a3]
          repeat' (first
 | (refine I_WS ?_; first
 | (refine I_mov ?_; first
 | refine W_mov (v := .int _ _) rfl rfl rfl ?_)
 | (refine I_bin ?_; first
 | refine W_add rfl rfl rfl rfl (by first | exact w64 (by omega) | rfl) ?_)
 | refine WS_nil ?_)
 | refine WC_opsS ?_)
          refine hnext _ ?_ ?_ <;> rfl
        · exact hQ2 _ a2
    · have hz' : (pre.length : Int) ≤ 0 := by omega
      repeat' (first
 | (refine I_WS ?_; first
 | refine W_iaddr (j := pre.length) rfl rfl rfl rfl rfl hpl ?_
 | (refine I_mov ?_; first
 | refine W_skip rfl ?_
 | refine W_mov (v := .int _ _) rfl rfl rfl ?_
 | refine W_mov (v := .bool _) rfl rfl rfl ?_
 | refine W_mov (v := .slice _ _ _) rfl rfl rfl ?_)
 | (refine I_bin ?_; first
 | refine W_skip rfl ?_
 | refine W_lssT rfl rfl rfl rfl (by omega) ?_
 | refine W_gtrF rfl rfl rfl rfl (by omega) ?_)
 | (refine I_load ?_; first
 | refine W_skip rfl ?_
 | refine W_loadE (agg := true) (d := .agg [_, _, _, _, _]) rfl rfl rfl hv rfl ?_)
 | (refine I_call ?_; first
 | refine W_skip rfl ?_
 | (refine W_callB rfl rfl rfl hK rfl ?_ ?_ <;> intro _))
 | (refine I_pick ?_; first
 | refine W_pick (v := .bool _) rfl rfl rfl rfl ?_
 | refine W_skip rfl ?_)
 | refine W_not rfl rfl rfl ?_
 | refine W_lenM rfl rfl rfl ?_
 | refine W_skip rfl ?_
 | refine WS_nil ?_)
 | refine WC_seq ?_
 | refine WC_opsS ?_
 | refine WC_drawS ?_
 | refine WC_skip ?_
 | refine WC_condT rfl ?_
 | refine WC_condF rfl ?_
 | refine WC_block ?_
 | refine WC_ret ?_
 | refine okF_intro rfl ?_)
      all_goals first
        | (refine hQ2 _ ?_; rfl; done)
        | skip
      all_goals
        refine hin _ _ ?_ ?_ ?_ _ (fun ρ' a0 a3 => ?_) (fun ρ' a2 => ?_)
        · rfl
        · rfl
        · rfl
        · rw [← upd_self a0, ← upd_self a3]
          repeat' (first
 | (refine I_WS ?_; first
 | (refine I_mov ?_; first
 | refine W_mov (v := .int _ _) rfl rfl rfl ?_)
 | (refine I_bin ?_; first
 | refine W_add rfl rfl rfl rfl (by first | exact w64 (by omega) | rfl) ?_)
 | refine WS_nil ?_)
 | refine WC_opsS ?_)
          refine hnext _ ?_ ?_ <;> rfl
        · exact hQ2 _ a2
theorem r_rRight (l : List Rg) (hll : l.length ≤ 1073741824) (t : Tok) (sz : Nat) (hs : sz = 5 ∨ l = []) : EvX Γ 32 [.slice t sz (l.map Rg.e)] (fun r => ∃ b, r = .bool b) := by
  refine EvX_code rfl rfl ?_
  repeat' (first
 | (refine I_WS ?_; first
 | (refine I_mov ?_; first
 | refine W_mov (v := .int _ _) rfl rfl rfl ?_
 | refine W_mov (v := .bool _) rfl rfl rfl ?_)
 | refine WS_nil ?_)
 | refine WC_seq ?_
 | refine WC_opsS ?_
 | refine WC_block ?_)
  refine rl_r1 l hll t sz hs l [] rfl _ _ ?_ ?_ _ (fun ρ' h0 => ?_) (fun ρ' h2 => ?_)
  · rfl
  · rfl
  · rw [← upd_self h0]
    repeat' (first
 | (refine I_WS ?_; first
 | refine W_lenM rfl rfl rfl ?_
 | (refine I_mov ?_; first
 | refine W_mov (v := .bool _) rfl rfl rfl ?_
 | refine W_mov (v := .slice _ _ _) rfl rfl rfl ?_)
 | (refine I_bin ?_; first
 | (refine W_leq rfl rfl rfl rfl ?_ ?_ <;> intro _))
 | refine WS_nil ?_)
 | refine WC_seq ?_
 | refine WC_opsS ?_
 | refine WC_ret ?_)
    all_goals exact ⟨.inr rfl, _, rfl, _, rfl⟩
  · rw [← upd_self h2]
    exact ⟨.inr rfl, _, rfl, false, rfl⟩
end Go.Vit

/-
  The reference's right plan.
-/
namespace Go.Vit
open Go.Ev
set_option linter.unusedVariables false
set_option linter.unusedSimpArgs false
set_option maxHeartbeats 4000000 in
theorem rl_p0 (p : Pl) (hp : p.Sm) : ∀ (post pre : List Ct), p.cs = pre ++ post → ∀ (ρ : Nat → D) (st : Store), st.lim ≤ 0 → 0 < st.next → st.boxes 0 = some (.cells p.e.cells) →
    ρ 1 = .ptr 0 0 → ρ 5 = .int .i64 pre.length → ∀ (Q : X → (Nat → D) → Store → Prop),
    (∀ ρ', ρ' 1 = .ptr 0 0 → Q (.exit 0) ρ' st) → (∀ ρ', ρ' 2 = .bool false → Q .ret ρ' st) → WC Γ (.loop c_feluccaref08_Right_l0) ρ st Q := by
  have hcl := hp.hc
  intro post
  induction post with
  | nil =>
    intro pre hpp ρ st hlim hnx hb0 h1 h5 Q hQ hQ2
    rw [List.append_nil] at hpp
    have hlen : p.cs.length = pre.length := by rw [hpp]
    have hbb0 : (st.boxes 0).bind Box.cs = some p.e.cells := by rw [hb0]; rfl
    rw [← upd_self h1, ← upd_self h5]
    refine WC_loop ?_
    repeat' (first
 | (refine I_WS ?_; first
 | (refine I_mov ?_; first
 | refine W_mov (v := .int _ _) rfl rfl rfl ?_)
 | (refine I_bin ?_; first
 | refine W_lssF rfl rfl rfl rfl (by omega) ?_)
 | (refine I_load ?_; first
 | refine W_load (agg := false) (d := .slice _ _ _) rfl rfl rfl hbb0 hlim rfl ?_)
 | refine W_lenM rfl rfl rfl ?_
 | refine W_faddr rfl rfl rfl ?_
 | refine WS_nil ?_)
 | refine WC_seq ?_
 | refine WC_opsS ?_
 | refine WC_condF rfl ?_
 | refine WC_exit ?_)
    exact hQ _ rfl
  | cons c post ih =>
    intro pre hpp ρ st hlim hnx hb0 h1 h5 Q hQ hQ2
    have hv := l_mid hpp
    have hlen : p.cs.length = pre.length + (post.length + 1) := by rw [hpp]; simp
    have hpl : pre.length < (p.cs.map Ct.e).length := by simp; omega
    have hltl : (pre.length : Int) < p.cs.length := by omega
    have hbb0 : (st.boxes 0).bind Box.cs = some p.e.cells := by rw [hb0]; rfl
    have hnext : ∀ (ρ' : Nat → D), ρ' 1 = .ptr 0 0 → ρ' 5 = .int .i64 ((pre.length : Int) + 1) → WC Γ (.loop c_feluccaref08_Right_l0) ρ' st Q := fun ρ' e1 e5 =>
      ih (pre ++ [c]) (by simp [hpp]) ρ' st hlim hnx hb0 e1 (by rw [List.length_append]; exact e5) Q hQ hQ2
    clear ih hQ
    rw [← upd_self h1, ← upd_self h5]
    refine WC_loop ?_
    repeat' (first
 | (refine I_WS ?_; first
 | refine W_iaddr (j := pre.length) rfl rfl rfl rfl rfl hpl ?_
 | (refine I_mov ?_; first
 | refine W_mov (v := .int _ _) rfl rfl rfl ?_
 | refine W_mov (v := .bool _) rfl rfl rfl ?_)
 | (refine I_bin ?_; first
 | refine W_lssT rfl rfl rfl rfl (by omega) ?_
 | (refine W_leq rfl rfl rfl rfl ?_ ?_ <;> intro _)
 | refine W_add rfl rfl rfl rfl (by first | exact w64 (by omega) | rfl) ?_)
 | (refine I_load ?_; first
 | refine W_load (agg := false) (d := .slice _ _ _) rfl rfl rfl hbb0 hlim rfl ?_
 | refine W_load (agg := false) (d := .int _ _) rfl rfl rfl hbb0 hlim rfl ?_
 | refine W_loadE (agg := false) (d := .int _ _) rfl rfl rfl hv rfl ?_)
 | refine W_lenM rfl rfl rfl ?_
 | refine W_faddr rfl rfl rfl ?_
 | refine W_faddrE rfl rfl rfl ?_
 | refine WS_nil ?_)
 | refine okF_intro (okFlags_rd rfl) ?_
 | refine WC_seq ?_
 | refine WC_opsS ?_
 | refine WC_drawS ?_
 | refine WC_skip ?_
 | refine WC_condT rfl ?_
 | refine WC_condF rfl ?_
 | refine WC_block ?_
 | refine WC_ret ?_)
    all_goals first
      | (refine hQ2 _ ?_; rfl; done)
      | (refine hnext _ ?_ ?_ <;> rfl)
set_option maxHeartbeats 4000000 in
theorem rl_p1 (p : Pl) (hp : p.Sm) : ∀ (post pre : List Rg), p.rs = pre ++ post → ∀ (ρ : Nat → D) (st : Store), st.lim ≤ 0 → 0 < st.next → st.boxes 0 = some (.cells p.e.cells) →
    ρ 1 = .ptr 0 0 → ρ 6 = .int .i64 pre.length → ∀ (Q : X → (Nat → D) → Store → Prop),
    (∀ ρ', Q (.exit 2) ρ' st) → (∀ ρ', ρ' 2 = .bool false → Q .ret ρ' st) → WC Γ (.loop c_feluccaref08_Right_l1) ρ st Q := by
  have hrl := hp.hr
  intro post
  induction post with
  | nil =>
    intro pre hpp ρ st hlim hnx hb0 h1 h6 Q hQ hQ2
    rw [List.append_nil] at hpp
    have hlen : p.rs.length = pre.length := by rw [hpp]
    have hbb0 : (st.boxes 0).bind Box.cs = some p.e.cells := by rw [hb0]; rfl
    rw [← upd_self h1, ← upd_self h6]
    refine WC_loop ?_
    repeat' (first
 | (refine I_WS ?_; first
 | (refine I_mov ?_; first
 | refine W_mov (v := .int _ _) rfl rfl rfl ?_)
 | (refine I_bin ?_; first
 | refine W_lssF rfl rfl rfl rfl (by omega) ?_)
 | (refine I_load ?_; first
 | refine W_load (agg := false) (d := .slice _ _ _) rfl rfl rfl hbb0 hlim rfl ?_)
 | refine W_lenM rfl rfl rfl ?_
 | refine W_faddr rfl rfl rfl ?_
 | refine WS_nil ?_)
 | refine WC_seq ?_
 | refine WC_opsS ?_
 | refine WC_condF rfl ?_
 | refine WC_exit ?_)
    exact hQ _
  | cons c post ih =>
    intro pre hpp ρ st hlim hnx hb0 h1 h6 Q hQ hQ2
    have hv := l_mid hpp
    have hlen : p.rs.length = pre.length + (post.length + 1) := by rw [hpp]; simp
    have hpl : pre.length < (p.rs.map Rg.e).length := by simp; omega
    have hltl : (pre.length : Int) < p.rs.length := by omega
    have hbb0 : (st.boxes 0).bind Box.cs = some p.e.cells := by rw [hb0]; rfl
    have hnext : ∀ (ρ' : Nat → D), ρ' 1 = .ptr 0 0 → ρ' 6 = .int .i64 ((pre.length : Int) + 1) → WC Γ (.loop c_feluccaref08_Right_l1) ρ' st Q := fun ρ' e1 e6 =>
      ih (pre ++ [c]) (by simp [hpp]) ρ' st hlim hnx hb0 e1 (by rw [List.length_append]; exact e6) Q hQ hQ2
    clear ih hQ
    rw [← upd_self h1, ← upd_self h6]
    refine WC_loop ?_
    repeat' (first
 | (refine I_WS ?_; first
 | refine W_iaddr (j := pre.length) rfl rfl rfl rfl rfl hpl ?_
 | (refine I_mov ?_; first
 | refine W_mov (v := .int _ _) rfl rfl rfl ?_
 | refine W_mov (v := .bool _) rfl rfl rfl ?_)
 | (refine I_bin ?_; first
 | refine W_lssT rfl rfl rfl rfl (by omega) ?_
 | (refine W_leq rfl rfl rfl rfl ?_ ?_ <;> intro _)
 | refine W_add rfl rfl rfl rfl (by first | exact w64 (by omega) | rfl) ?_)
 | (refine I_load ?_; first
 | refine W_load (agg := false) (d := .slice _ _ _) rfl rfl rfl hbb0 hlim rfl ?_
 | refine W_load (agg := false) (d := .int _ _) rfl rfl rfl hbb0 hlim rfl ?_
 | refine W_loadE (agg := false) (d := .int _ _) rfl rfl rfl hv rfl ?_)
 | refine W_lenM rfl rfl rfl ?_
 | refine W_faddr rfl rfl rfl ?_
 | refine W_faddrE rfl rfl rfl ?_
 | refine WS_nil ?_)
 | refine okF_intro (okFlags_rd rfl) ?_
 | refine WC_seq ?_
 | refine WC_opsS ?_
 | refine WC_drawS ?_
 | refine WC_skip ?_
 | refine WC_condT rfl ?_
 | refine WC_condF rfl ?_
 | refine WC_block ?_
 | refine WC_ret ?_)
    all_goals first
      | (refine hQ2 _ ?_; rfl; done)
      | (refine hnext _ ?_ ?_ <;> rfl)
set_option maxHeartbeats 4000000 in
theorem r_pRight (p : Pl) (hp : p.Sm) : EvX Γ 10 [p.e] (fun r => ∃ b, r = .bool b ∧ (b = true → Good p.cs)) := by
  obtain ⟨_, ⟨b1, rfl, hb1⟩, hC⟩ := r_cRight p.cs hp.hc .no 6 (.inl rfl)
  obtain ⟨_, ⟨b2, rfl⟩, hR⟩ := r_rRight p.rs hp.hr .no 5 (.inl rfl)
  refine EvX_code rfl rfl ?_
  repeat' (first
 | (refine I_WS ?_; first
 | (refine I_mov ?_; first
 | refine W_skip rfl ?_
 | refine W_mov (v := .int _ _) rfl rfl rfl ?_
 | refine W_mov (v := .bool _) rfl rfl rfl ?_)
 | (refine I_bin ?_; first
 | refine W_skip rfl ?_
 | (refine W_lss rfl rfl rfl rfl ?_ ?_ <;> intro _)
 | (refine W_gtr rfl rfl rfl rfl ?_ ?_ <;> intro _))
 | (refine I_load ?_; first
 | refine W_skip rfl ?_
 | refine W_load (agg := false) (d := .int _ _) rfl rfl rfl rfl (by first | exact Nat.zero_le _ | omega) rfl ?_
 | refine W_load (agg := false) (d := .slice _ _ _) rfl rfl rfl rfl (by first | exact Nat.zero_le _ | omega) rfl ?_)
 | (refine I_call ?_; first
 | (refine W_callB rfl rfl rfl hC rfl ?_ ?_ <;> intro _)
 | (refine W_callB rfl rfl rfl hR rfl ?_ ?_ <;> intro _))
 | (refine I_pick ?_; first
 | refine W_pick (v := .bool _) rfl rfl rfl rfl ?_)
 | (refine I_box ?_; first
 | refine W_boxA rfl rfl rfl rfl rfl ?_)
 | refine W_not rfl rfl rfl ?_
 | refine W_faddr rfl rfl rfl ?_
 | refine W_skip rfl ?_
 | refine WS_nil ?_)
 | refine WC_seq ?_
 | refine WC_opsS ?_
 | refine WC_skip ?_
 | refine WC_condT rfl ?_
 | refine WC_condF rfl ?_
 | refine WC_block ?_
 | refine WC_ret ?_)
  all_goals first
    | exact ⟨.inr rfl, _, rfl, false, rfl, fun h => by cases h⟩
    | skip
  all_goals
    refine rl_p0 p hp p.cs [] rfl _ _ ?_ ?_ ?_ ?_ ?_ _ (fun ρ' a1 => ?_) (fun ρ' a2 => ?_)
    · exact Nat.le_refl _
    · exact Nat.succ_pos _
    · rfl
    · rfl
    · rfl
    · rw [← upd_self a1]
      repeat' (first
 | (refine I_WS ?_; first
 | (refine I_mov ?_; first
 | refine W_mov (v := .int _ _) rfl rfl rfl ?_)
 | refine WS_nil ?_)
 | refine WC_seq ?_
 | refine WC_opsS ?_
 | refine WC_block ?_)
      refine rl_p1 p hp p.rs [] rfl _ _ ?_ ?_ ?_ ?_ ?_ _ (fun ρ' => ?_) (fun ρ' a2 => ?_)
      · exact Nat.le_refl _
      · exact Nat.succ_pos _
      · rfl
      · rfl
      · rfl
      · repeat' (first
 | (refine I_WS ?_; first
 | (refine I_mov ?_; first
 | refine W_mov (v := .bool _) rfl rfl rfl ?_)
 | refine WS_nil ?_)
 | refine WC_seq ?_
 | refine WC_opsS ?_
 | refine WC_ret ?_)
        exact ⟨.inr rfl, _, rfl, true, rfl, fun _ => hb1 (by assumption)⟩
      · rw [← upd_self a2]
        exact ⟨.inr rfl, _, rfl, false, rfl, fun h => by cases h⟩
    · rw [← upd_self a2]
      exact ⟨.inr rfl, _, rfl, false, rfl, fun h => by cases h⟩
end Go.Vit
