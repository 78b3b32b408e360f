/-
  ViewRight: the second loop.
-/
import Derived.Test.YtdjokmfncammeaaVieVieRp
set_option linter.unusedVariables false
set_option linter.unusedSimpArgs false
set_option linter.unnecessarySimpa false
namespace Go.Vie
open Go.Ev
set_option linter.unusedVariables false
set_option linter.unusedSimpArgs false
def hasO (p : Pl) (c : Ct) : Bool := (owl p.rs c).isSome
theorem s_Owlt' (rs : List Rg) (c : Ct) (hll : rs.length ≤ 1073741824) (t : Tok) (sz : Nat) (hs : sz = 5 ∨ rs = []) : ∃ o, ∀ b, (owl rs c).isSome = b → EvP Γ 29 [.slice t sz (rs.map Rg.e), c.e] (.tuple [.int .i64 o, .bool b]) :=
  ⟨_, fun b hb => by rw [← hb]; exact s_Owlt rs c hll t sz hs⟩
theorem s_Find' (n : Int) (l : List Eg) (hll : l.length ≤ 1073741824) (t : Tok) (sz : Nat) (hs : sz = 8 ∨ l = []) (b : Bool) (hb : (fnd n l).isSome = b) : EvP Γ 14 [.slice t sz (l.map Eg.e), .int .i64 n] (.tuple [((fnd n l).getD zeroE).e, .bool b]) := by
  rw [← hb]
  exact s_Find n l hll t sz hs
set_option maxHeartbeats 8000000 in
theorem l_Right2 (p : Pl) (hp : p.Sm) (es : List Eg) (hel : es.length ≤ p.cs.length) (hes : ∀ c ∈ p.cs, (fnd c.id es).isSome = hasO p c) (t9 : Tok) (s9 : Nat) (hs9 : s9 = 8 ∨ es = []) : ∀ (post pre : List Ct), p.cs = pre ++ post → ∀ (ρ : Nat → D) (st : Store), st.lim ≤ 0 → 0 < st.next → st.boxes 0 = some (.cells p.e.cells) →
    ρ 3 = .ptr 0 0 → ρ 7 = .bool true → ρ 9 = .slice t9 s9 (es.map Eg.e) → ρ 13 = .int .i64 (pre.filter (hasO p)).length → ρ 14 = .int .i64 pre.length → ∀ (Q : X → (Nat → D) → Store → Prop),
    (∀ ρ' st', ρ' 7 = .bool true → ρ' 9 = .slice t9 s9 (es.map Eg.e) → ρ' 13 = .int .i64 (p.cs.filter (hasO p)).length → Q (.exit 2) ρ' st') → WC Γ (.loop c_feluccalaw11_ViewRight_l1) ρ st Q := by
  have hcl := hp.hc
  intro post
  induction post with
  | nil =>
    intro pre hpp ρ st hlim hnx hb0 h3 h7 h9 h13 h14 Q hQ
    rw [List.append_nil] at hpp
    have hlen : p.cs.length = pre.length := by rw [hpp]
    have hbb0 : (st.boxes 0).bind Box.cs = some p.e.cells := by rw [hb0]; rfl
    rw [← hpp] at h13
    rw [← upd_self h3, ← upd_self h7, ← upd_self h9, ← upd_self h13, ← upd_self h14]
    refine WC_loop ?_
    repeat' (first
 | (refine I_WS ?_; first
 | (refine I_mov ?_; first
 | refine W_skip rfl ?_
 | refine W_mov (v := .int _ _) rfl rfl rfl ?_
 | refine W_mov (v := .bool _) rfl rfl rfl ?_
 | refine W_mov (v := .slice _ _ _) rfl rfl rfl ?_
 | refine W_mov (v := .agg _) rfl rfl rfl ?_
 | refine W_mov (v := .ptr _ _) rfl rfl rfl ?_
 | refine W_mov (v := .func _ _) rfl rfl rfl ?_
 | refine W_mov (v := .eptr _ _ _ _) rfl rfl rfl ?_
 | refine W_mov (v := .rs _ _ _ _ _) rfl rfl rfl ?_
 | refine W_mov (v := .tuple _) rfl rfl rfl ?_
 | refine W_mov (v := .map _) rfl rfl rfl ?_
 | refine W_mov (v := .str _) rfl rfl rfl ?_
 | refine W_mov (v := .nilptr) rfl rfl rfl ?_)
 | (refine I_bin ?_; first
 | refine W_skip rfl ?_
 | refine W_lssT rfl rfl rfl rfl (by omega) ?_
 | refine W_lssF rfl rfl rfl rfl (by omega) ?_
 | (refine W_lss rfl rfl rfl rfl ?_ ?_ <;> intro _)
 | refine W_leqT rfl rfl rfl rfl (by omega) ?_
 | refine W_leqF rfl rfl rfl rfl (by omega) ?_
 | (refine W_leq rfl rfl rfl rfl ?_ ?_ <;> intro _)
 | refine W_gtrT rfl rfl rfl rfl (by omega) ?_
 | refine W_gtrF rfl rfl rfl rfl (by omega) ?_
 | (refine W_gtr rfl rfl rfl rfl ?_ ?_ <;> intro _)
 | refine W_eqlT rfl rfl rfl rfl (by omega) ?_
 | refine W_eqlF rfl rfl rfl rfl (by omega) ?_
 | (refine W_eql rfl rfl rfl rfl ?_ ?_ <;> intro _)
 | refine W_neqT rfl rfl rfl rfl (by omega) ?_
 | refine W_neqF rfl rfl rfl rfl (by omega) ?_
 | (refine W_neq rfl rfl rfl rfl ?_ ?_ <;> intro _)
 | refine W_add rfl rfl rfl rfl (by first | exact w64 (by omega) | rfl) ?_
 | refine W_sub rfl rfl rfl rfl (by first | exact w64 (by omega) | rfl) ?_)
 | (refine I_load ?_; first
 | refine W_skip rfl ?_
 | refine W_load (agg := false) (d := .slice _ _ _) rfl rfl rfl hbb0 hlim rfl ?_
 | refine W_load (agg := false) (d := .int _ _) rfl rfl rfl rfl (by first | exact Nat.zero_le _ | omega) rfl ?_
 | refine W_load (agg := false) (d := .bool _) rfl rfl rfl rfl (by first | exact Nat.zero_le _ | omega) rfl ?_
 | refine W_load (agg := false) (d := .slice _ _ _) rfl rfl rfl rfl (by first | exact Nat.zero_le _ | omega) rfl ?_
 | refine W_load (agg := false) (d := .ptr _ _) rfl rfl rfl rfl (by first | exact Nat.zero_le _ | omega) rfl ?_
 | refine W_load (agg := false) (d := .func _ _) rfl rfl rfl rfl (by first | exact Nat.zero_le _ | omega) rfl ?_
 | refine W_load (agg := true) (d := .agg [_, _, _, _]) rfl rfl rfl rfl (by first | exact Nat.zero_le _ | omega) rfl ?_
 | refine W_load (agg := true) (d := .agg [_, _, _, _, _, _]) rfl rfl rfl rfl (by first | exact Nat.zero_le _ | omega) rfl ?_
 | refine W_load (agg := true) (d := .agg [_, _, _, _, _, _, _, _]) rfl rfl rfl rfl (by first | exact Nat.zero_le _ | omega) rfl ?_)
 | (refine I_call ?_; first
 | refine W_skip rfl ?_)
 | (refine I_pick ?_; first
 | refine W_pick (v := .int _ _) rfl rfl rfl rfl ?_
 | refine W_pick (v := .bool _) rfl rfl rfl rfl ?_
 | refine W_pick (v := .slice _ _ _) rfl rfl rfl rfl ?_
 | refine W_pick (v := .agg _) rfl rfl rfl rfl ?_
 | refine W_skip rfl ?_)
 | (refine I_extract ?_; first
 | refine W_extract (d := .int _ _) rfl rfl rfl rfl ?_
 | refine W_extract (d := .bool _) rfl rfl rfl rfl ?_
 | refine W_extract (d := .slice _ _ _) rfl rfl rfl rfl ?_
 | refine W_extract (d := .agg _) rfl rfl rfl rfl ?_
 | refine W_extract (d := .ptr _ _) rfl rfl rfl rfl ?_
 | refine W_extract (d := .func _ _) rfl rfl rfl rfl ?_
 | refine W_skip rfl ?_)
 | (refine I_box ?_; first
 | refine W_boxA rfl rfl rfl rfl rfl ?_
 | refine W_box1 (v := .slice _ _ _) rfl rfl rfl rfl rfl ?_
 | refine W_box1 (v := .int _ _) rfl rfl rfl rfl rfl ?_
 | refine W_box1 (v := .bool _) rfl rfl rfl rfl rfl ?_
 | refine W_box1 (v := .ptr _ _) rfl rfl rfl rfl rfl ?_
 | refine W_skip rfl ?_)
 | (refine I_store ?_; first
 | refine W_store (cs' := [_, _, _, _]) rfl rfl rfl rfl (by first | exact Nat.zero_le _ | omega) rfl rfl rfl ?_
 | refine W_store (cs' := [_, _, _, _, _, _]) rfl rfl rfl rfl (by first | exact Nat.zero_le _ | omega) rfl rfl rfl ?_
 | refine W_store (cs' := [_, _, _, _, _, _, _, _]) rfl rfl rfl rfl (by first | exact Nat.zero_le _ | omega) rfl rfl rfl ?_
 | refine W_skip0 rfl ?_)
 | refine W_not rfl rfl rfl ?_
 | (refine W_eqlB rfl rfl rfl rfl ?_)
 | (refine W_neqB rfl rfl rfl rfl ?_)
 | refine W_lenS0 rfl rfl rfl ?_
 | refine W_lenM rfl rfl rfl ?_
 | refine W_lenS rfl rfl rfl ?_
 | refine W_lenR rfl rfl rfl ?_
 | refine W_faddr rfl rfl rfl ?_
 | refine W_faddrE rfl rfl rfl ?_
 | refine W_faddrM rfl rfl ?_
 | refine W_alloc rfl rfl ?_
 | refine W_skip rfl ?_
 | refine W_iaddr rfl rfl rfl rfl (by first | rfl | exact sz_of (by assumption) (by omega)) (by first | decide | (simp only [List.length_map]; omega)) ?_
 | refine W_iaddrRN rfl rfl rfl rfl rfl (by decide) ?_
 | refine W_iaddrR rfl rfl rfl rfl (by first | decide | omega) ?_
 | refine W_skip rfl ?_
 | refine WS_nil ?_)
 | refine WC_seq ?_
 | refine WC_opsS ?_
 | refine WC_drawS ?_
 | refine WC_skip ?_
 | refine WC_condT rfl ?_
 | refine WC_condF rfl ?_
 | refine WC_block ?_
 | refine WC_exit ?_
 | refine WC_ret ?_
 | refine okF_intro rfl ?_)
    refine hQ _ _ ?_ ?_ ?_ <;> rfl
  | cons c post ih =>
    intro pre hpp ρ st hlim hnx hb0 h3 h7 h9 h13 h14 Q hQ
    have hv := l_mid hpp
    have hlen : p.cs.length = pre.length + (post.length + 1) := by rw [hpp]; simp
    have hpl : pre.length < (p.cs.map Ct.e).length := by simp; omega
    have hltl : (pre.length : Int) < p.cs.length := by omega
    have hlim2 : st.lim ≤ st.next := by omega
    have hbb0 : (st.boxes 0).bind Box.cs = some p.e.cells := by rw [hb0]; rfl
    have hfl : (pre.filter (hasO p)).length ≤ pre.length := List.length_filter_le _ _
    obtain ⟨o, hO⟩ := s_Owlt' p.rs c hp.hr .no 5 (.inl rfl)
    have hFn := fun b hb t => s_Find' c.id es (by omega) t s9 hs9 b hb
    rw [hes c (by rw [hpp]; simp)] at hFn
    generalize (fnd c.id es).getD zeroE = z at hFn
    have hsn : ((pre ++ [c]).filter (hasO p)).length = (pre.filter (hasO p)).length + (if hasO p c = true then 1 else 0) := by
      rw [List.filter_append, List.length_append]
      cases h : hasO p c <;> simp [h]
    have hnext : ∀ (ρ' : Nat → D) (st' : Store), st'.lim ≤ 0 → 0 < st'.next → st'.boxes 0 = some (.cells p.e.cells) → ρ' 3 = .ptr 0 0 → ρ' 7 = .bool true → ρ' 9 = .slice t9 s9 (es.map Eg.e) → ρ' 13 = .int .i64 ((pre ++ [c]).filter (hasO p)).length → ρ' 14 = .int .i64 ((pre.length : Int) + 1) → WC Γ (.loop c_feluccalaw11_ViewRight_l1) ρ' st' Q := by
      intro ρ' st' e1 e2 e3 e4 e5 e6 e7 e8
      exact ih (pre ++ [c]) (by simp [hpp]) ρ' st' e1 e2 e3 e4 e5 e6 e7 (by rw [List.length_append]; exact e8) Q hQ
    rw [hsn] at hnext
    clear ih hes hpp hQ hsn hs9
    generalize (pre.filter (hasO p)).length = m at *
    rw [← upd_self h3, ← upd_self h7, ← upd_self h9, ← upd_self h13, ← upd_self h14]
    refine WC_loop ?_
    cases ho : hasO p c with
    | false =>
      have hO2 := hO false ho
      have hF2 := hFn false ho
      rw [ho] at hnext
      repeat' (first
 | (refine I_WS ?_; first
 | refine W_iaddr (j := pre.length) rfl rfl rfl rfl rfl hpl ?_
 | refine W_store (cs' := [_, _, _, _, _, _, _, _]) rfl rfl (upd_same _ _ _) rfl hlim2 rfl rfl rfl ?_
 | (refine I_mov ?_; first
 | refine W_skip rfl ?_
 | refine W_mov (v := .int _ _) rfl rfl rfl ?_
 | refine W_mov (v := .bool _) rfl rfl rfl ?_
 | refine W_mov (v := .slice _ _ _) rfl rfl rfl ?_
 | refine W_mov (v := .agg _) rfl rfl rfl ?_
 | refine W_mov (v := .ptr _ _) rfl rfl rfl ?_
 | refine W_mov (v := .func _ _) rfl rfl rfl ?_
 | refine W_mov (v := .eptr _ _ _ _) rfl rfl rfl ?_
 | refine W_mov (v := .rs _ _ _ _ _) rfl rfl rfl ?_
 | refine W_mov (v := .tuple _) rfl rfl rfl ?_
 | refine W_mov (v := .map _) rfl rfl rfl ?_
 | refine W_mov (v := .str _) rfl rfl rfl ?_
 | refine W_mov (v := .nilptr) rfl rfl rfl ?_)
 | (refine I_bin ?_; first
 | refine W_skip rfl ?_
 | refine W_lssT rfl rfl rfl rfl (by omega) ?_
 | refine W_lssF rfl rfl rfl rfl (by omega) ?_
 | (refine W_lss rfl rfl rfl rfl ?_ ?_ <;> intro _)
 | refine W_leqT rfl rfl rfl rfl (by omega) ?_
 | refine W_leqF rfl rfl rfl rfl (by omega) ?_
 | (refine W_leq rfl rfl rfl rfl ?_ ?_ <;> intro _)
 | refine W_gtrT rfl rfl rfl rfl (by omega) ?_
 | refine W_gtrF rfl rfl rfl rfl (by omega) ?_
 | (refine W_gtr rfl rfl rfl rfl ?_ ?_ <;> intro _)
 | refine W_eqlT rfl rfl rfl rfl (by omega) ?_
 | refine W_eqlF rfl rfl rfl rfl (by omega) ?_
 | (refine W_eql rfl rfl rfl rfl ?_ ?_ <;> intro _)
 | refine W_neqT rfl rfl rfl rfl (by omega) ?_
 | refine W_neqF rfl rfl rfl rfl (by omega) ?_
 | (refine W_neq rfl rfl rfl rfl ?_ ?_ <;> intro _)
 | refine W_add rfl rfl rfl rfl (by first | exact w64 (by omega) | rfl) ?_
 | refine W_sub rfl rfl rfl rfl (by first | exact w64 (by omega) | rfl) ?_)
 | (refine I_load ?_; first
 | refine W_skip rfl ?_
 | refine W_load (agg := false) (d := .slice _ _ _) rfl rfl rfl hbb0 hlim rfl ?_
 | refine W_loadE (agg := true) (d := .agg [_, _, _, _, _, _]) rfl rfl rfl hv rfl ?_
 | refine W_loadE (agg := false) (d := .int _ _) rfl rfl rfl hv rfl ?_
 | refine W_load (agg := false) (d := .int _ _) rfl rfl rfl rfl (by first | exact Nat.zero_le _ | omega) rfl ?_
 | refine W_load (agg := false) (d := .bool _) rfl rfl rfl rfl (by first | exact Nat.zero_le _ | omega) rfl ?_
 | refine W_load (agg := false) (d := .slice _ _ _) rfl rfl rfl rfl (by first | exact Nat.zero_le _ | omega) rfl ?_
 | refine W_load (agg := false) (d := .ptr _ _) rfl rfl rfl rfl (by first | exact Nat.zero_le _ | omega) rfl ?_
 | refine W_load (agg := false) (d := .func _ _) rfl rfl rfl rfl (by first | exact Nat.zero_le _ | omega) rfl ?_
 | refine W_load (agg := true) (d := .agg [_, _, _, _]) rfl rfl rfl rfl (by first | exact Nat.zero_le _ | omega) rfl ?_
 | refine W_load (agg := true) (d := .agg [_, _, _, _, _, _]) rfl rfl rfl rfl (by first | exact Nat.zero_le _ | omega) rfl ?_
 | refine W_load (agg := true) (d := .agg [_, _, _, _, _, _, _, _]) rfl rfl rfl rfl (by first | exact Nat.zero_le _ | omega) rfl ?_)
 | (refine I_call ?_; first
 | refine W_skip rfl ?_
 | refine W_call rfl rfl rfl hO2 rfl rfl ?_
 | refine W_call rfl rfl rfl (hF2 _) rfl rfl ?_)
 | (refine I_pick ?_; first
 | refine W_pick (v := .int _ _) rfl rfl rfl rfl ?_
 | refine W_pick (v := .bool _) rfl rfl rfl rfl ?_
 | refine W_pick (v := .slice _ _ _) rfl rfl rfl rfl ?_
 | refine W_pick (v := .agg _) rfl rfl rfl rfl ?_
 | refine W_skip rfl ?_)
 | (refine I_extract ?_; first
 | refine W_extract (d := .int _ _) rfl rfl rfl rfl ?_
 | refine W_extract (d := .bool _) rfl rfl rfl rfl ?_
 | refine W_extract (d := .slice _ _ _) rfl rfl rfl rfl ?_
 | refine W_extract (d := .agg _) rfl rfl rfl rfl ?_
 | refine W_extract (d := .ptr _ _) rfl rfl rfl rfl ?_
 | refine W_extract (d := .func _ _) rfl rfl rfl rfl ?_
 | refine W_skip rfl ?_)
 | (refine I_box ?_; first
 | refine W_boxA rfl rfl rfl rfl rfl ?_
 | refine W_box1 (v := .slice _ _ _) rfl rfl rfl rfl rfl ?_
 | refine W_box1 (v := .int _ _) rfl rfl rfl rfl rfl ?_
 | refine W_box1 (v := .bool _) rfl rfl rfl rfl rfl ?_
 | refine W_box1 (v := .ptr _ _) rfl rfl rfl rfl rfl ?_
 | refine W_skip rfl ?_)
 | (refine I_store ?_; first
 | refine W_store (cs' := [_, _, _, _]) rfl rfl rfl rfl (by first | exact Nat.zero_le _ | omega) rfl rfl rfl ?_
 | refine W_store (cs' := [_, _, _, _, _, _]) rfl rfl rfl rfl (by first | exact Nat.zero_le _ | omega) rfl rfl rfl ?_
 | refine W_store (cs' := [_, _, _, _, _, _, _, _]) rfl rfl rfl rfl (by first | exact Nat.zero_le _ | omega) rfl rfl rfl ?_
 | refine W_skip0 rfl ?_)
 | refine W_not rfl rfl rfl ?_
 | (refine W_eqlB rfl rfl rfl rfl ?_)
 | (refine W_neqB rfl rfl rfl rfl ?_)
 | refine W_lenS0 rfl rfl rfl ?_
 | refine W_lenM rfl rfl rfl ?_
 | refine W_lenS rfl rfl rfl ?_
 | refine W_lenR rfl rfl rfl ?_
 | refine W_faddr rfl rfl rfl ?_
 | refine W_faddrE rfl rfl rfl ?_
 | refine W_faddrM rfl rfl ?_
 | refine W_alloc rfl rfl ?_
 | refine W_skip rfl ?_
 | refine W_iaddr rfl rfl rfl rfl (by first | rfl | exact sz_of (by assumption) (by omega)) (by first | decide | (simp only [List.length_map]; omega)) ?_
 | refine W_iaddrRN rfl rfl rfl rfl rfl (by decide) ?_
 | refine W_iaddrR rfl rfl rfl rfl (by first | decide | omega) ?_
 | refine W_skip rfl ?_
 | refine WS_nil ?_)
 | refine okF_intro (okFlags_rd rfl) ?_
 | refine WC_seq ?_
 | refine WC_opsS ?_
 | refine WC_drawS ?_
 | refine WC_skip ?_
 | refine WC_condT rfl ?_
 | refine WC_condF rfl ?_
 | refine WC_block ?_
 | refine WC_exit ?_
 | refine WC_ret ?_
 | refine okF_intro rfl ?_)
      have h0n : (0 : Nat) ≠ st.next := by omega
      refine hnext _ _ ?_ ?_ ?_ ?_ ?_ ?_ ?_ ?_
      · exact hlim
      · exact Nat.succ_pos _
      · dsimp only
        rw [upd_ne _ _ h0n, upd_ne _ _ h0n]
        exact hb0
      · rfl
      · rfl
      · rfl
      · rfl
      · rfl
    | true =>
      have hO2 := hO true ho
      have hF2 := hFn true ho
      rw [ho] at hnext
      repeat' (first
 | (refine I_WS ?_; first
 | refine W_iaddr (j := pre.length) rfl rfl rfl rfl rfl hpl ?_
 | refine W_store (cs' := [_, _, _, _, _, _, _, _]) rfl rfl (upd_same _ _ _) rfl hlim2 rfl rfl rfl ?_
 | (refine I_mov ?_; first
 | refine W_skip rfl ?_
 | refine W_mov (v := .int _ _) rfl rfl rfl ?_
 | refine W_mov (v := .bool _) rfl rfl rfl ?_
 | refine W_mov (v := .slice _ _ _) rfl rfl rfl ?_
 | refine W_mov (v := .agg _) rfl rfl rfl ?_
 | refine W_mov (v := .ptr _ _) rfl rfl rfl ?_
 | refine W_mov (v := .func _ _) rfl rfl rfl ?_
 | refine W_mov (v := .eptr _ _ _ _) rfl rfl rfl ?_
 | refine W_mov (v := .rs _ _ _ _ _) rfl rfl rfl ?_
 | refine W_mov (v := .tuple _) rfl rfl rfl ?_
 | refine W_mov (v := .map _) rfl rfl rfl ?_
 | refine W_mov (v := .str _) rfl rfl rfl ?_
 | refine W_mov (v := .nilptr) rfl rfl rfl ?_)
 | (refine I_bin ?_; first
 | refine W_skip rfl ?_
 | refine W_lssT rfl rfl rfl rfl (by omega) ?_
 | refine W_lssF rfl rfl rfl rfl (by omega) ?_
 | (refine W_lss rfl rfl rfl rfl ?_ ?_ <;> intro _)
 | refine W_leqT rfl rfl rfl rfl (by omega) ?_
 | refine W_leqF rfl rfl rfl rfl (by omega) ?_
 | (refine W_leq rfl rfl rfl rfl ?_ ?_ <;> intro _)
 | refine W_gtrT rfl rfl rfl rfl (by omega) ?_
 | refine W_gtrF rfl rfl rfl rfl (by omega) ?_
 | (refine W_gtr rfl rfl rfl rfl ?_ ?_ <;> intro _)
 | refine W_eqlT rfl rfl rfl rfl (by omega) ?_
 | refine W_eqlF rfl rfl rfl rfl (by omega) ?_
 | (refine W_eql rfl rfl rfl rfl ?_ ?_ <;> intro _)
 | refine W_neqT rfl rfl rfl rfl (by omega) ?_
 | refine W_neqF rfl rfl rfl rfl (by omega) ?_
 | (refine W_neq rfl rfl rfl rfl ?_ ?_ <;> intro _)
 | refine W_add rfl rfl rfl rfl (by first | exact w64 (by omega) | rfl) ?_
 | refine W_sub rfl rfl rfl rfl (by first | exact w64 (by omega) | rfl) ?_)
 | (refine I_load ?_; first
 | refine W_skip rfl ?_
 | refine W_load (agg := false) (d := .slice _ _ _) rfl rfl rfl hbb0 hlim rfl ?_
 | refine W_loadE (agg := true) (d := .agg [_, _, _, _, _, _]) rfl rfl rfl hv rfl ?_
 | refine W_loadE (agg := false) (d := .int _ _) rfl rfl rfl hv rfl ?_
 | refine W_load (agg := false) (d := .int _ _) rfl rfl rfl rfl (by first | exact Nat.zero_le _ | omega) rfl ?_
 | refine W_load (agg := false) (d := .bool _) rfl rfl rfl rfl (by first | exact Nat.zero_le _ | omega) rfl ?_
 | refine W_load (agg := false) (d := .slice _ _ _) rfl rfl rfl rfl (by first | exact Nat.zero_le _ | omega) rfl ?_
 | refine W_load (agg := false) (d := .ptr _ _) rfl rfl rfl rfl (by first | exact Nat.zero_le _ | omega) rfl ?_
 | refine W_load (agg := false) (d := .func _ _) rfl rfl rfl rfl (by first | exact Nat.zero_le _ | omega) rfl ?_
 | refine W_load (agg := true) (d := .agg [_, _, _, _]) rfl rfl rfl rfl (by first | exact Nat.zero_le _ | omega) rfl ?_
 | refine W_load (agg := true) (d := .agg [_, _, _, _, _, _]) rfl rfl rfl rfl (by first | exact Nat.zero_le _ | omega) rfl ?_
 | refine W_load (agg := true) (d := .agg [_, _, _, _, _, _, _, _]) rfl rfl rfl rfl (by first | exact Nat.zero_le _ | omega) rfl ?_)
 | (refine I_call ?_; first
 | refine W_skip rfl ?_
 | refine W_call rfl rfl rfl hO2 rfl rfl ?_
 | refine W_call rfl rfl rfl (hF2 _) rfl rfl ?_)
 | (refine I_pick ?_; first
 | refine W_pick (v := .int _ _) rfl rfl rfl rfl ?_
 | refine W_pick (v := .bool _) rfl rfl rfl rfl ?_
 | refine W_pick (v := .slice _ _ _) rfl rfl rfl rfl ?_
 | refine W_pick (v := .agg _) rfl rfl rfl rfl ?_
 | refine W_skip rfl ?_)
 | (refine I_extract ?_; first
 | refine W_extract (d := .int _ _) rfl rfl rfl rfl ?_
 | refine W_extract (d := .bool _) rfl rfl rfl rfl ?_
 | refine W_extract (d := .slice _ _ _) rfl rfl rfl rfl ?_
 | refine W_extract (d := .agg _) rfl rfl rfl rfl ?_
 | refine W_extract (d := .ptr _ _) rfl rfl rfl rfl ?_
 | refine W_extract (d := .func _ _) rfl rfl rfl rfl ?_
 | refine W_skip rfl ?_)
 | (refine I_box ?_; first
 | refine W_boxA rfl rfl rfl rfl rfl ?_
 | refine W_box1 (v := .slice _ _ _) rfl rfl rfl rfl rfl ?_
 | refine W_box1 (v := .int _ _) rfl rfl rfl rfl rfl ?_
 | refine W_box1 (v := .bool _) rfl rfl rfl rfl rfl ?_
 | refine W_box1 (v := .ptr _ _) rfl rfl rfl rfl rfl ?_
 | refine W_skip rfl ?_)
 | (refine I_store ?_; first
 | refine W_store (cs' := [_, _, _, _]) rfl rfl rfl rfl (by first | exact Nat.zero_le _ | omega) rfl rfl rfl ?_
 | refine W_store (cs' := [_, _, _, _, _, _]) rfl rfl rfl rfl (by first | exact Nat.zero_le _ | omega) rfl rfl rfl ?_
 | refine W_store (cs' := [_, _, _, _, _, _, _, _]) rfl rfl rfl rfl (by first | exact Nat.zero_le _ | omega) rfl rfl rfl ?_
 | refine W_skip0 rfl ?_)
 | refine W_not rfl rfl rfl ?_
 | (refine W_eqlB rfl rfl rfl rfl ?_)
 | (refine W_neqB rfl rfl rfl rfl ?_)
 | refine W_lenS0 rfl rfl rfl ?_
 | refine W_lenM rfl rfl rfl ?_
 | refine W_lenS rfl rfl rfl ?_
 | refine W_lenR rfl rfl rfl ?_
 | refine W_faddr rfl rfl rfl ?_
 | refine W_faddrE rfl rfl rfl ?_
 | refine W_faddrM rfl rfl ?_
 | refine W_alloc rfl rfl ?_
 | refine W_skip rfl ?_
 | refine W_iaddr rfl rfl rfl rfl (by first | rfl | exact sz_of (by assumption) (by omega)) (by first | decide | (simp only [List.length_map]; omega)) ?_
 | refine W_iaddrRN rfl rfl rfl rfl rfl (by decide) ?_
 | refine W_iaddrR rfl rfl rfl rfl (by first | decide | omega) ?_
 | refine W_skip rfl ?_
 | refine WS_nil ?_)
 | refine okF_intro (okFlags_rd rfl) ?_
 | refine WC_seq ?_
 | refine WC_opsS ?_
 | refine WC_drawS ?_
 | refine WC_skip ?_
 | refine WC_condT rfl ?_
 | refine WC_condF rfl ?_
 | refine WC_block ?_
 | refine WC_exit ?_
 | refine WC_ret ?_
 | refine okF_intro rfl ?_)
      have h0n : (0 : Nat) ≠ st.next := by omega
      refine hnext _ _ ?_ ?_ ?_ ?_ ?_ ?_ ?_ ?_
      · exact hlim
      · exact Nat.succ_pos _
      · dsimp only
        rw [upd_ne _ _ h0n, upd_ne _ _ h0n]
        exact hb0
      · rfl
      · rfl
      · rfl
      · rfl
      · rfl
end Go.Vie
