/-
  What the reference's functions come to: a copy, a ledger with a row.
-/
import Derived.Test.YtbmhgigljbikhaaLetLedG
import Derived.Test.YtbmhgigljbikhaaEvEvX8
set_option linter.unusedVariables false
set_option linter.unusedSimpArgs false
set_option linter.unnecessarySimpa false

namespace Go.Let
open Go.Ev
set_option linter.unusedVariables false
set_option linter.unusedSimpArgs false
theorem r_Copy (l : List Bk) (hl : l.length ≤ 1073741824) (t : Tok) (sz : Nat) (hsz : sz = 4 ∨ l = []) : EvX Γ 29 [.slice t sz (l.map Bk.e)] (IsR Bk.e 4 l) := by
  refine EvX_code rfl rfl ?_
  by_cases h : l = []
  · subst h
    repeat' (first
 | (refine I_WS ?_; first
 | refine W_appNoneE rfl rfl rfl rfl ?_
 | (refine I_mov ?_; first
 | refine W_mov (v := .slice _ _ _) rfl rfl rfl ?_)
 | refine W_bslice (ys := []) rfl rfl rfl (by decide) rfl ?_
 | refine WS_nil ?_)
 | refine WC_seq ?_
 | refine WC_opsS ?_
 | refine WC_ret ?_)
    exact ⟨by simp, finR (d := .slice .exact 4 []) rfl (.inl ⟨rfl, _, _, rfl, .inr (.inr rfl)⟩) (by decide) elemC rfl⟩
  · have h4 : sz = 4 := hsz.resolve_right h
    subst h4
    have hpos : 0 < (l.map Bk.e).length := by rw [List.length_map]; exact List.length_pos_iff.mpr h
    have hbd : (([] : List D).length + (l.map Bk.e).length) * 32 ≤ 140737488355328 := by rw [List.length_map, List.length_nil]; omega
    have hno : ∀ d ∈ ([] : List D), Elem 4 d := fun d hd => by cases hd
    repeat' (first
 | (refine I_WS ?_; first
 | (refine W_appNew rfl rfl (.inl rfl) (.inr rfl) rfl rfl (.inl rfl) hpos hno elems hbd (Nat.le_refl _) ?_ <;> intro st' _ _ _ _ hR _ _)
 | (refine I_mov ?_; first
 | refine W_mov (v := .slice _ _ _) rfl rfl rfl ?_
 | refine W_mov (v := .rs _ _ _ _ _) rfl rfl rfl ?_)
 | refine W_bslice (ys := []) rfl rfl rfl (by decide) rfl ?_
 | refine WS_nil ?_)
 | refine WC_seq ?_
 | refine WC_opsS ?_
 | refine WC_ret ?_)
    exact ⟨by simp, finR rfl (.inr ⟨_, _, _, by simp, rfl, by simpa using hR⟩) (by decide) elemC rfl⟩
theorem r_CopyS (l : List Bk) (hl : l.length ≤ 1073741824) (t : Tok) (sz : Nat) (hsz : sz = 4 ∨ l = []) : EvX Γ 29 [.slice t sz (l.map Bk.e)] (IsS Bk.e 4 l) :=
  (r_Copy l hl t sz hsz).mono fun r h => by
    obtain ⟨t, s, h1, h2, _⟩ := h.n
    exact ⟨t, s, h1, h2⟩
theorem putB_below {l : List Bk} {r x : Bk} (h : ∀ b ∈ l, b.id < r.id) : putB (l ++ [x]) r = l ++ putB [x] r := by
  induction l with
  | nil => rfl
  | cons c l ih =>
    rw [List.cons_append, putB, if_pos (h c (by simp)), ih (fun b hb => h b (by simp [hb]))]
    rfl
theorem putB_all {l : List Bk} {r : Bk} (h : ∀ b ∈ l, b.id < r.id) : putB l r = l ++ (if r.Z then [] else [r]) := by
  induction l with
  | nil => rfl
  | cons c l ih =>
    rw [putB, if_pos (h c (by simp)), ih (fun b hb => h b (by simp [hb]))]
    rfl
theorem putB_above {l : List Bk} {r x : Bk} (h : ∃ b ∈ l, r.id ≤ b.id) : putB (l ++ [x]) r = putB l r ++ [x] := by
  induction l with
  | nil => simp at h
  | cons c l ih =>
    rw [List.cons_append, putB, putB]
    by_cases hc : c.id < r.id
    · rw [if_pos hc, if_pos hc, List.cons_append, ih]
      obtain ⟨b, hb, h1⟩ := h
      rcases List.mem_cons.mp hb with rfl | hb
      · omega
      · exact ⟨b, hb, h1⟩
    · rw [if_neg hc, if_neg hc]
      by_cases hz : r.Z <;> by_cases he : c.id = r.id <;> simp [hz, he]
set_option maxHeartbeats 4000000 in
theorem rl_with (l : List Bk) (r : Bk) (hs : Srt l) (hl : l.length ≤ 1073741824) (t : Tok) (sz : Nat) (hsz : sz = 4 ∨ l = []) : ∀ (post pre out : List Bk) (laid : Bool), l = pre ++ post → (laid = true ↔ r.Z ∨ ∃ b ∈ pre, r.id ≤ b.id) → out = (if laid then putB pre r else pre) →
    ∀ (ρ : Nat → D) (st : Store) (tk : Tok) (so : Nat) (hlim : st.lim ≤ 0) (htl : st.tlim ≤ st.ntok) (hb0 : (st.boxes 0).bind Box.cs = some [.int .i64 r.u0, .int .i64 r.u1, .int .i64 r.u2]) (hO : AppOK st 4 tk so (out.map Bk.e))
      (h0 : ρ 0 = .slice t sz (l.map Bk.e)) (h1 : ρ 1 = .int .i64 r.id) (h5 : ρ 5 = .ptr 0 0) (h7 : ρ 7 = .slice tk so (out.map Bk.e)) (h8 : ρ 8 = .bool laid) (h9 : ρ 9 = .int .i64 pre.length) (Q : X → (Nat → D) → Store → Prop),
    (∀ ρ' st' tk' so' (out' : List Bk) (laid' : Bool), (laid' = true ↔ r.Z ∨ ∃ b ∈ l, r.id ≤ b.id) → out' = (if laid' then putB l r else l) → st'.lim ≤ 0 → st'.tlim ≤ st'.ntok → (st'.boxes 0).bind Box.cs = some [.int .i64 r.u0, .int .i64 r.u1, .int .i64 r.u2] → AppOK st' 4 tk' so' (out'.map Bk.e) → ρ' 1 = .int .i64 r.id → ρ' 5 = .ptr 0 0 → ρ' 7 = .slice tk' so' (out'.map Bk.e) → ρ' 8 = .bool laid' → Q (.exit 0) ρ' st') → WC Γ (.loop c_feluccaref09_with_l0) ρ st Q := by
  intro post
  induction post with
  | nil =>
    intro pre out laid hp hla hout ρ st tk so hlim htl hb0 hO h0 h1 h5 h7 h8 h9 Q hQ
    rw [List.append_nil] at hp
    subst hp
    rw [← upd_self h0, ← upd_self h1, ← upd_self h5, ← upd_self h7, ← upd_self h8, ← upd_self h9]
    refine WC_loop ?_
    repeat' (first
 | (refine I_WS ?_; first
 | (refine I_mov ?_; first
 | refine W_mov (v := .int _ _) rfl rfl rfl ?_
 | refine W_mov (v := .slice _ _ _) rfl rfl rfl ?_)
 | (refine I_bin ?_; first
 | refine W_lssF rfl rfl rfl rfl (by omega) ?_)
 | refine W_lenM rfl rfl rfl ?_
 | refine WS_nil ?_)
 | refine WC_seq ?_
 | refine WC_opsS ?_
 | refine WC_condF rfl ?_
 | refine WC_exit ?_)
    exact hQ _ _ _ _ out laid hla hout hlim htl hb0 hO rfl rfl rfl rfl
  | cons x post ih =>
    intro pre out laid hp hla hout ρ st tk so hlim htl hb0 hO h0 h1 h5 h7 h8 h9 Q hQ
    have hv := at_mid hp
    have hlen : l.length = pre.length + (post.length + 1) := by rw [hp]; simp
    have hxp : ∀ b ∈ pre, b.id < x.id := fun b hb => by
      have : Srt (pre ++ x :: post) := hp ▸ hs
      exact (List.pairwise_append.mp this).2.2 b hb x (by simp)
    have hol : out.length ≤ pre.length + 1 := by
      rw [hout]
      split
      · exact len_put _ _
      · omega
    have hstep : ∀ (out' : List Bk) (laid' : Bool) (ρ' : Nat → D) (st' : Store) (tk' : Tok) (so' : Nat), (laid' = true ↔ r.Z ∨ ∃ b ∈ pre ++ [x], r.id ≤ b.id) → out' = (if laid' then putB (pre ++ [x]) r else pre ++ [x]) → st'.lim ≤ 0 → st'.tlim ≤ st'.ntok → (st'.boxes 0).bind Box.cs = some [.int .i64 r.u0, .int .i64 r.u1, .int .i64 r.u2] → AppOK st' 4 tk' so' (out'.map Bk.e) →
        ρ' 0 = .slice t sz (l.map Bk.e) → ρ' 1 = .int .i64 r.id → ρ' 5 = .ptr 0 0 → ρ' 7 = .slice tk' so' (out'.map Bk.e) → ρ' 8 = .bool laid' → ρ' 9 = .int .i64 (pre.length + 1 : Nat) → WC Γ (.loop c_feluccaref09_with_l0) ρ' st' Q :=
      fun out' laid' ρ' st' tk' so' a1 a2 a3 a4 a5 a6 a7 a8 a9 a10 a11 a12 => ih (pre ++ [x]) out' laid' (by simp [hp]) a1 a2 ρ' st' tk' so' a3 a4 a5 a6 a7 a8 a9 a10 a11 (by rw [a12]; simp) Q hQ
    clear ih hQ
    rw [← upd_self h0, ← upd_self h1, ← upd_self h5, ← upd_self h7, ← upd_self h8, ← upd_self h9]
    clear h0 h1 h5 h7 h8 h9
    cases laid with
    | true =>
      simp only [if_true] at hout
      have hla' := hla.mp rfl
      clear hla
      have hput : putB (pre ++ [x]) r = out ++ (if x.id = r.id then [] else [x]) := by
        rw [hout]
        by_cases hex : ∃ b ∈ pre, r.id ≤ b.id
        · obtain ⟨b, hb, hbi⟩ := hex
          have := hxp b hb
          rw [putB_above ⟨b, hb, hbi⟩, if_neg (by omega)]
        · have hz : r.Z := by
            rcases hla' with h | h
            · exact h
            · exact absurd h hex
          have hlow : ∀ b ∈ pre, b.id < r.id := fun b hb => by
            have : ¬ r.id ≤ b.id := fun h => hex ⟨b, hb, h⟩
            omega
          rw [putB_below hlow, putB_all hlow, if_pos hz, List.append_nil]
          congr 1
          rw [putB]
          by_cases h1 : x.id < r.id
          · rw [if_pos h1, putB, if_pos hz, if_neg (by omega)]
          · rw [if_neg h1, if_pos hz, List.nil_append]
      have hla2 : r.Z ∨ ∃ b ∈ pre ++ [x], r.id ≤ b.id := by
        rcases hla' with h | ⟨b, hb, h⟩
        · exact .inl h
        · exact .inr ⟨b, by simp [hb], h⟩
      by_cases hxe : x.id = r.id
      · rw [if_pos hxe, List.append_nil] at hput
        refine WC_loop ?_
        repeat' (first
 | (refine I_WS ?_; first
 | (refine I_mov ?_; first
 | refine W_skip rfl ?_
 | refine W_mov (v := .int _ _) rfl rfl rfl ?_
 | refine W_mov (v := .bool _) rfl rfl rfl ?_
 | refine W_mov (v := .slice _ _ _) rfl rfl rfl ?_)
 | (refine I_bin ?_; first
 | refine W_skip rfl ?_
 | refine W_lssT rfl rfl rfl rfl (by omega) ?_
 | refine W_neqF rfl rfl rfl rfl (by omega) ?_
 | refine W_add rfl rfl rfl rfl (by first | exact w64 (by omega) | rfl) ?_)
 | (refine I_load ?_; first
 | refine W_skip rfl ?_
 | refine W_loadE (agg := false) (d := .int _ _) rfl rfl rfl hv rfl ?_)
 | (refine I_pick ?_; first
 | refine W_pick (v := .bool _) rfl rfl rfl rfl ?_)
 | refine W_not rfl rfl rfl ?_
 | refine W_lenM rfl rfl rfl ?_
 | refine W_faddrE rfl rfl rfl ?_
 | refine W_skip rfl ?_
 | refine W_iaddr rfl rfl rfl rfl (by first | rfl | exact sz_of (by assumption) (by omega)) (by first | decide | (simp only [List.length_map]; omega)) ?_
 | refine WS_nil ?_)
 | refine WC_seq ?_
 | refine WC_opsS ?_
 | refine WC_skip ?_
 | refine WC_condT rfl ?_
 | refine WC_condF rfl ?_
 | refine WC_block ?_)
        exact hstep out true _ _ _ _ ⟨fun _ => hla2, fun _ => rfl⟩ hput.symm hlim htl hb0 hO rfl rfl rfl rfl rfl rfl
      · rw [if_neg hxe] at hput
        refine WC_loop ?_
        repeat' (first
 | (refine I_WS ?_; first
 | (refine W_app rfl rfl rfl hO (.inl rfl) (by simp; omega) htl rfl ?_ <;> intro k1 st1 b1 n1 l1 t1 t2 o1 o2)
 | (refine I_mov ?_; first
 | refine W_skip rfl ?_
 | refine W_mov (v := .int _ _) rfl rfl rfl ?_
 | refine W_mov (v := .bool _) rfl rfl rfl ?_
 | refine W_mov (v := .slice _ _ _) rfl rfl rfl ?_)
 | (refine I_bin ?_; first
 | refine W_skip rfl ?_
 | refine W_lssT rfl rfl rfl rfl (by omega) ?_
 | refine W_neqT rfl rfl rfl rfl (by omega) ?_
 | refine W_add rfl rfl rfl rfl (by first | exact w64 (by omega) | rfl) ?_)
 | (refine I_load ?_; first
 | refine W_skip rfl ?_
 | refine W_loadE (agg := false) (d := .int _ _) rfl rfl rfl hv rfl ?_
 | refine W_loadE (agg := true) (d := .agg [_, _, _, _]) rfl rfl rfl hv rfl ?_)
 | (refine I_pick ?_; first
 | refine W_pick (v := .bool _) rfl rfl rfl rfl ?_)
 | refine W_not rfl rfl rfl ?_
 | refine W_lenM rfl rfl rfl ?_
 | refine W_faddrE rfl rfl rfl ?_
 | refine W_skip rfl ?_
 | refine W_iaddr rfl rfl rfl rfl (by first | rfl | exact sz_of (by assumption) (by omega)) (by first | decide | (simp only [List.length_map]; omega)) ?_
 | refine W_bslice (ys := [_]) rfl rfl rfl (by decide) rfl ?_
 | refine WS_nil ?_)
 | refine WC_seq ?_
 | refine WC_opsS ?_
 | refine WC_skip ?_
 | refine WC_condT rfl ?_
 | refine WC_condF rfl ?_
 | refine WC_block ?_)
        exact hstep (out ++ [x]) true _ _ _ _ ⟨fun _ => hla2, fun _ => rfl⟩ hput.symm (by rw [l1]; exact hlim) t2 (by rw [b1]; exact hb0) (.inr ⟨_, rfl, o1, o2, rfl⟩) rfl rfl rfl (by rw [List.map_append]; rfl) rfl rfl
    | false =>
      simp only [Bool.false_eq_true, if_false] at hout
      subst hout
      have hnz : ¬ r.Z := fun h => by have := hla.mpr (.inl h); cases this
      have hlow : ∀ b ∈ out, b.id < r.id := fun b hb => by
        have : ¬ r.id ≤ b.id := fun h => by have := hla.mpr (.inr ⟨b, hb, h⟩); cases this
        omega
      clear hla
      have hput := putB_below (x := x) hlow
      have hmem : ∀ {c : Prop}, (r.Z ∨ ∃ b ∈ out ++ [x], r.id ≤ b.id) → (c → c) := fun _ h => h
      by_cases hxi : x.id < r.id
      · have h2 : putB [x] r = [x, r] := by rw [putB, if_pos hxi, putB, if_neg hnz]
        have hne : ¬ x.id = r.id := by omega
        refine WC_loop ?_
        repeat' (first
 | (refine I_WS ?_; first
 | (refine W_app rfl rfl rfl hO (.inl rfl) (by simp; omega) htl rfl ?_ <;> intro k1 st1 b1 n1 l1 t1 t2 o1 o2)
 | (refine I_mov ?_; first
 | refine W_mov (v := .int _ _) rfl rfl rfl ?_
 | refine W_mov (v := .bool _) rfl rfl rfl ?_
 | refine W_mov (v := .slice _ _ _) rfl rfl rfl ?_)
 | (refine I_bin ?_; first
 | refine W_lssT rfl rfl rfl rfl (by omega) ?_
 | refine W_geqF rfl rfl rfl rfl (by omega) ?_
 | refine W_neqT rfl rfl rfl rfl (by omega) ?_
 | refine W_add rfl rfl rfl rfl (by first | exact w64 (by omega) | rfl) ?_)
 | (refine I_load ?_; first
 | refine W_loadE (agg := false) (d := .int _ _) rfl rfl rfl hv rfl ?_
 | refine W_loadE (agg := true) (d := .agg [_, _, _, _]) rfl rfl rfl hv rfl ?_)
 | (refine I_pick ?_; first
 | refine W_pick (v := .bool _) rfl rfl rfl rfl ?_)
 | refine W_not rfl rfl rfl ?_
 | refine W_lenM rfl rfl rfl ?_
 | refine W_faddrE rfl rfl rfl ?_
 | refine W_iaddr rfl rfl rfl rfl (by first | rfl | exact sz_of (by assumption) (by omega)) (by first | decide | (simp only [List.length_map]; omega)) ?_
 | refine W_bslice (ys := [_]) rfl rfl rfl (by decide) rfl ?_
 | refine WS_nil ?_)
 | refine WC_seq ?_
 | refine WC_opsS ?_
 | refine WC_skip ?_
 | refine WC_condT rfl ?_
 | refine WC_condF rfl ?_
 | refine WC_block ?_)
        refine hstep (out ++ [x]) false _ _ _ _ ⟨fun h => (by cases h), fun h => ?_⟩ rfl (by rw [l1]; exact hlim) t2 (by rw [b1]; exact hb0) (.inr ⟨_, rfl, o1, o2, rfl⟩) rfl rfl rfl (by rw [List.map_append]; rfl) rfl rfl
        rcases h with h | ⟨b, hb, h⟩
        · exact absurd h hnz
        · rcases List.mem_append.mp hb with hb | hb
          · have := hlow b hb; omega
          · rw [List.mem_singleton.mp hb] at h; omega
      · have hla2 : r.Z ∨ ∃ b ∈ out ++ [x], r.id ≤ b.id := .inr ⟨x, by simp, by omega⟩
        by_cases hxe : x.id = r.id
        · have h2 : putB [x] r = [r] := by rw [putB, if_neg hxi, if_neg hnz, if_pos hxe]; rfl
          rw [h2] at hput
          refine WC_loop ?_
          repeat' (first
 | (refine I_WS ?_; first
 | (refine W_app rfl rfl rfl hO (.inl rfl) (by simp; omega) htl rfl ?_ <;> intro k1 st1 b1 n1 l1 t1 t2 o1 o2)
 | (refine I_mov ?_; first
 | refine W_mov (v := .int _ _) rfl rfl rfl ?_
 | refine W_mov (v := .bool _) rfl rfl rfl ?_
 | refine W_mov (v := .slice _ _ _) rfl rfl rfl ?_)
 | (refine I_bin ?_; first
 | refine W_lssT rfl rfl rfl rfl (by omega) ?_
 | refine W_geqT rfl rfl rfl rfl (by omega) ?_
 | refine W_neqF rfl rfl rfl rfl (by omega) ?_
 | refine W_add rfl rfl rfl rfl (by first | exact w64 (by omega) | rfl) ?_)
 | (refine I_load ?_; first
 | refine W_loadE (agg := false) (d := .int _ _) rfl rfl rfl hv rfl ?_
 | refine W_load (agg := true) (d := .agg [_, _, _]) rfl rfl rfl hb0 (Nat.le_trans hlim (Nat.zero_le _)) rfl ?_)
 | (refine I_pick ?_; first
 | refine W_pick (v := .bool _) rfl rfl rfl rfl ?_)
 | (refine I_build ?_; first
 | refine W_build (cs := [_, _, _, _]) rfl rfl rfl ?_)
 | refine W_not rfl rfl rfl ?_
 | refine W_lenM rfl rfl rfl ?_
 | refine W_faddrE rfl rfl rfl ?_
 | refine W_iaddr rfl rfl rfl rfl (by first | rfl | exact sz_of (by assumption) (by omega)) (by first | decide | (simp only [List.length_map]; omega)) ?_
 | refine W_bslice (ys := [_]) rfl rfl rfl (by decide) rfl ?_
 | refine WS_nil ?_)
 | refine WC_seq ?_
 | refine WC_opsS ?_
 | refine WC_skip ?_
 | refine WC_condT rfl ?_
 | refine WC_condF rfl ?_
 | refine WC_block ?_)
          exact hstep (out ++ [r]) true _ _ _ _ ⟨fun _ => hla2, fun _ => rfl⟩ hput.symm (by rw [l1]; exact hlim) t2 (by rw [b1]; exact hb0) (.inr ⟨_, rfl, o1, o2, rfl⟩) rfl rfl rfl (by rw [List.map_append]; rfl) rfl rfl
        · have h2 : putB [x] r = [r] ++ [x] := by rw [putB, if_neg hxi, if_neg hnz, if_neg hxe]
          rw [h2, ← List.append_assoc] at hput
          refine WC_loop ?_
          repeat' (first
 | (refine I_WS ?_; first
 | (refine W_app rfl rfl rfl (.inr ⟨_, rfl, o1, o2, rfl⟩) (.inl rfl) (by simp; omega) t2 rfl ?_ <;> intro k3 st3 b3 n3 l3 t3 t4 o3 o4)
 | (refine W_app rfl rfl rfl hO (.inl rfl) (by simp; omega) htl rfl ?_ <;> intro k1 st1 b1 n1 l1 t1 t2 o1 o2)
 | (refine I_mov ?_; first
 | refine W_mov (v := .int _ _) rfl rfl rfl ?_
 | refine W_mov (v := .bool _) rfl rfl rfl ?_
 | refine W_mov (v := .slice _ _ _) rfl rfl rfl ?_)
 | (refine I_bin ?_; first
 | refine W_lssT rfl rfl rfl rfl (by omega) ?_
 | refine W_geqT rfl rfl rfl rfl (by omega) ?_
 | refine W_neqT rfl rfl rfl rfl (by omega) ?_
 | refine W_add rfl rfl rfl rfl (by first | exact w64 (by omega) | rfl) ?_)
 | (refine I_load ?_; first
 | refine W_loadE (agg := false) (d := .int _ _) rfl rfl rfl hv rfl ?_
 | refine W_loadE (agg := true) (d := .agg [_, _, _, _]) rfl rfl rfl hv rfl ?_
 | refine W_load (agg := true) (d := .agg [_, _, _]) rfl rfl rfl hb0 (Nat.le_trans hlim (Nat.zero_le _)) rfl ?_)
 | (refine I_pick ?_; first
 | refine W_pick (v := .bool _) rfl rfl rfl rfl ?_)
 | (refine I_build ?_; first
 | refine W_build (cs := [_, _, _, _]) rfl rfl rfl ?_)
 | refine W_not rfl rfl rfl ?_
 | refine W_lenM rfl rfl rfl ?_
 | refine W_faddrE rfl rfl rfl ?_
 | refine W_iaddr rfl rfl rfl rfl (by first | rfl | exact sz_of (by assumption) (by omega)) (by first | decide | (simp only [List.length_map]; omega)) ?_
 | refine W_bslice (ys := [_]) rfl rfl rfl (by decide) rfl ?_
 | refine WS_nil ?_)
 | refine WC_seq ?_
 | refine WC_opsS ?_
 | refine WC_skip ?_
 | refine WC_condT rfl ?_
 | refine WC_block ?_)
          exact hstep (out ++ [r] ++ [x]) true _ _ _ _ ⟨fun _ => hla2, fun _ => rfl⟩ hput.symm (by rw [l3, l1]; exact hlim) t4 (by rw [b3, b1]; exact hb0) (.inr ⟨_, rfl, o3, o4, rfl⟩) rfl rfl rfl (by rw [List.map_append, List.map_append]; rfl) rfl rfl
end Go.Let

/-
  What the reference's functions come to: a ledger with a row, booking, releasing.
-/
namespace Go.Let
open Go.Ev
set_option linter.unusedVariables false
set_option linter.unusedSimpArgs false
theorem r_with (l : List Bk) (id u0 u1 u2 : Int) (hs : Srt l) (hl : l.length ≤ 1073741824) (t : Tok) (sz : Nat) (hsz : sz = 4 ∨ l = []) : EvX Γ 53 [.slice t sz (l.map Bk.e), .int .i64 id, .agg [.int .i64 u0, .int .i64 u1, .int .i64 u2]] (IsS Bk.e 4 (putB l ⟨id, u0, u1, u2⟩)) := by
  have fin : ∀ (ρ' : Nat → D) (st' : Store) (tk' : Tok) (so' : Nat) (out' : List Bk) (laid' : Bool), (laid' = true ↔ (⟨id, u0, u1, u2⟩ : Bk).Z ∨ ∃ b ∈ l, id ≤ b.id) → out' = (if laid' then putB l ⟨id, u0, u1, u2⟩ else l) → st'.lim ≤ 0 → st'.tlim ≤ st'.ntok → (st'.boxes 0).bind Box.cs = some [.int .i64 u0, .int .i64 u1, .int .i64 u2] → AppOK st' 4 tk' so' (out'.map Bk.e) → ρ' 1 = .int .i64 id → ρ' 5 = .ptr 0 0 → ρ' 7 = .slice tk' so' (out'.map Bk.e) → ρ' 8 = .bool laid' →
      WC Γ (.seq (.seq (.ops false [⟨some 50, none, false, .mov (.tmp 8)⟩, ⟨some 51, none, false, .not (.tmp 50)⟩]) (.cond (.tmp 51) (.ops false [⟨some 52, none, false, .mov (.tmp 7)⟩, ⟨some 53, none, false, .mov (.tmp 1)⟩, ⟨some 54, none, false, .load true 3 (.tmp 5)⟩, ⟨some 55, none, false, .build [.int .i64 0, .int .i64 0, .int .i64 0, .int .i64 0] [(0, 1, .tmp 53), (1, 3, .tmp 54)]⟩, ⟨some 56, none, false, .bslice 4 [.tmp 55]⟩, ⟨some 57, none, false, .append 4 32 (.tmp 52) (.tmp 56)⟩, ⟨some 7, none, false, .mov (.tmp 57)⟩]) .skip)) (.seq (.ops false [⟨some 58, none, false, .mov (.tmp 7)⟩, ⟨some 6, none, false, .mov (.tmp 58)⟩]) .ret)) ρ' st' (fun x ρ1 st1 => (x = .normal ∨ x = .ret) ∧ ∃ r, (resAll ρ1 st1 c_feluccaref09_with.res).bind (finP st1) = some r ∧ IsS Bk.e 4 (putB l ⟨id, u0, u1, u2⟩) r) := by
    intro ρ st tk so out laid hla hout hlim htl hb0 hO h1 h5 h7 h8
    have hso : so = 4 ∨ out = [] := by
      rcases hO with ⟨_, h | ⟨_, h⟩⟩ | ⟨_, _, _, _, h⟩
      · exact .inl h
      · exact .inr (by simpa using h)
      · exact .inl h
    rw [← upd_self h1, ← upd_self h5, ← upd_self h7, ← upd_self h8]
    cases laid with
    | true =>
      simp only [if_true] at hout
      repeat' (first
 | (refine I_WS ?_; first
 | (refine I_mov ?_; first
 | refine W_mov (v := .bool _) rfl rfl rfl ?_
 | refine W_mov (v := .slice _ _ _) rfl rfl rfl ?_)
 | refine W_not rfl rfl rfl ?_
 | refine WS_nil ?_)
 | refine WC_seq ?_
 | refine WC_opsS ?_
 | refine WC_skip ?_
 | refine WC_condF rfl ?_
 | refine WC_ret ?_)
      exact finX_S (sz := 4) (by simp) rfl hso hout
    | false =>
      simp only [Bool.false_eq_true, if_false] at hout
      subst hout
      have hnz : ¬ (⟨id, u0, u1, u2⟩ : Bk).Z := fun h => by have := hla.mpr (.inl h); cases this
      have hlow : ∀ b ∈ out, b.id < id := fun b hb => by
        have : ¬ id ≤ b.id := fun h => by have := hla.mpr (.inr ⟨b, hb, h⟩); cases this
        omega
      repeat' (first
 | (refine I_WS ?_; first
 | (refine W_app rfl rfl rfl hO (.inl rfl) (by simp; omega) htl rfl ?_ <;> intro k1 st1 b1 n1 l1 t1 t2 o1 o2)
 | (refine I_mov ?_; first
 | refine W_mov (v := .int _ _) rfl rfl rfl ?_
 | refine W_mov (v := .bool _) rfl rfl rfl ?_
 | refine W_mov (v := .slice _ _ _) rfl rfl rfl ?_)
 | (refine I_load ?_; first
 | refine W_load (agg := true) (d := .agg [_, _, _]) rfl rfl rfl hb0 (Nat.le_trans hlim (Nat.zero_le _)) rfl ?_)
 | (refine I_build ?_; first
 | refine W_build (cs := [_, _, _, _]) rfl rfl rfl ?_)
 | refine W_not rfl rfl rfl ?_
 | refine W_bslice (ys := [_]) rfl rfl rfl (by decide) rfl ?_
 | refine WS_nil ?_)
 | refine WC_seq ?_
 | refine WC_opsS ?_
 | refine WC_condT rfl ?_
 | refine WC_ret ?_)
      refine finX_S (t := .own k1) (sz := 4) (s := 4) (xs := out ++ [⟨id, u0, u1, u2⟩]) (by simp) ?_ (.inl rfl) (by rw [putB_all hlow, if_neg hnz])
      rw [List.map_append]
      rfl
  refine EvX_code rfl rfl ?_
  repeat' (first
 | (refine I_WS ?_; first
 | (refine I_mov ?_; first
 | refine W_mov (v := .int _ _) rfl rfl rfl ?_
 | refine W_mov (v := .bool _) rfl rfl rfl ?_
 | refine W_mov (v := .slice _ _ _) rfl rfl rfl ?_)
 | (refine I_load ?_; first
 | refine W_load (agg := true) (d := .agg [_, _, _]) rfl rfl rfl rfl (by first | exact Nat.zero_le _ | omega) rfl ?_)
 | (refine I_build ?_; first
 | refine W_build (cs := [_, _, _]) rfl rfl rfl ?_)
 | (refine I_box ?_; first
 | refine W_boxA rfl rfl rfl rfl rfl ?_)
 | (refine W_eqlP rfl rfl rfl rfl rfl rfl (eqAt3 _ _ _ _ _ _) ?_ ?_ <;> intro hq)
 | refine WS_nil ?_)
 | refine WC_seq ?_
 | refine WC_opsS ?_
 | refine WC_block ?_)
  · rw [decide_eq_true_eq] at hq
    exact rl_with l ⟨id, u0, u1, u2⟩ hs hl t sz hsz l [] [] true rfl (by simp [hq]) (by simp [putB, hq]) _ _ .isnil 0 (Nat.le_refl _) (Nat.le_refl _) rfl (.inl ⟨.inl rfl, .inr ⟨rfl, rfl⟩⟩) rfl rfl rfl rfl rfl rfl _ fin
  · rw [decide_eq_false_iff_not] at hq
    exact rl_with l ⟨id, u0, u1, u2⟩ hs hl t sz hsz l [] [] false rfl (by simpa using hq) (by simp) _ _ .isnil 0 (Nat.le_refl _) (Nat.le_refl _) rfl (.inl ⟨.inl rfl, .inr ⟨rfl, rfl⟩⟩) rfl rfl rfl rfl rfl rfl _ fin
end Go.Let

/-
  What the reference's functions come to: booking, releasing.
-/
namespace Go.Let
open Go.Ev
set_option linter.unusedVariables false
set_option linter.unusedSimpArgs false
theorem Bk.eta' (b : Bk) : (⟨b.id, b.u0, b.u1, b.u2⟩ : Bk) = b := rfl
set_option maxHeartbeats 4000000 in
theorem r_Book (l : List Bk) (c : Co) (k n : Int) (hI : Inv l) (hl : l.length ≤ 1073741824) (t : Tok) (sz : Nat) (hsz : sz = 4 ∨ l = []) :
    EvX Γ 33 [.slice t sz (l.map Bk.e), c.e, .int .i64 k, .int .i64 n] (IsT Bk.e 4 (bookM l c k n) [.bool (decide (bookC l c k n))]) := by
  refine EvX_code rfl rfl ?_
  have hC := r_Contact c.id c.fr c.to c.st c.en c.ra
  have hR := fun t sz hsz => r_Room l c k hl (hI.getU _) t sz hsz
  have hcl := fun t sz hsz => r_CopyS l hl t sz hsz
  have hbi := hI.at_in c.id k
  by_cases hb : bookC l c k n
  · have hU := fun t sz hsz => r_Used l c.id hl t sz hsz
    have hW := fun u0 u1 u2 t sz hsz => r_with l c.id u0 u1 u2 hI.1 hl t sz hsz
    have hbU := book_U hI hb
    rw [bookM_put hI, if_pos hb, decide_eq_true hb]
    have hid := getB_id l c.id
    obtain ⟨h1, h2, h3, h4⟩ := (bookC_B hI c k n).mp hb
    have h1' : okC c.id c.fr c.to c.st c.en c.ra := h1
    clear hb h1 hcl
    generalize roomB (getB l c.id) c k = rm at *
    generalize getB l c.id = r at *
    obtain ⟨ri, r0, r1, r2⟩ := r
    simp only at hid
    subst hid
    unfold Bk.U at hbU
    dsimp only at hU
    have hk' : k = 0 ∨ k = 1 ∨ k = 2 := by omega
    rcases hk' with rfl | rfl | rfl
    all_goals
      simp only [Bk.plus, Bk.at, if_true, if_false, show ¬ ((1 : Int) = 0) by decide, show ¬ ((2 : Int) = 0) by decide, show ¬ ((2 : Int) = 1) by decide] at hbU hbi ⊢
      repeat' (first
 | (refine I_WS ?_; first
 | (refine I_mov ?_; first
 | refine W_mov (v := .int _ _) rfl rfl rfl ?_
 | refine W_mov (v := .bool _) rfl rfl rfl ?_
 | refine W_mov (v := .slice _ _ _) rfl rfl rfl ?_)
 | (refine I_bin ?_; first
 | refine W_lssF rfl rfl rfl rfl (by omega) ?_
 | refine W_gtrF rfl rfl rfl rfl (by omega) ?_
 | refine W_add rfl rfl rfl rfl (by first | exact w64 (by omega) | rfl) ?_)
 | (refine I_load ?_; first
 | refine W_load (agg := false) (d := .int _ _) rfl rfl rfl rfl (by first | exact Nat.zero_le _ | omega) rfl ?_
 | refine W_load (agg := true) (d := .agg [_, _, _]) rfl rfl rfl rfl (by first | exact Nat.zero_le _ | omega) rfl ?_
 | refine W_load (agg := true) (d := .agg [_, _, _, _, _, _]) rfl rfl rfl rfl (by first | exact Nat.zero_le _ | omega) rfl ?_)
 | (refine I_call ?_; first
 | refine W_callBT rfl rfl rfl hC (decide_eq_true h1') rfl ?_
 | refine W_callBT rfl rfl rfl (r_class _) (by decide) rfl ?_
 | refine W_call rfl rfl rfl (hR _ _ hsz) rfl rfl ?_
 | refine W_call rfl rfl rfl (hU _ _ hsz) rfl rfl ?_
 | (refine W_callS rfl rfl rfl (hW _ _ _ _ _ hsz) rfl ?_ <;> intro _ _ s1 _ _))
 | (refine I_pick ?_; first
 | refine W_pick (v := .bool _) rfl rfl rfl rfl ?_)
 | (refine I_box ?_; first
 | refine W_boxA rfl rfl rfl rfl rfl ?_)
 | (refine I_store ?_; first
 | refine W_store (cs' := [_, _, _]) rfl rfl rfl rfl (by first | exact Nat.zero_le _ | omega) rfl rfl rfl ?_)
 | refine W_not rfl rfl rfl ?_
 | refine W_faddr rfl rfl rfl ?_
 | refine W_alloc rfl rfl ?_
 | refine W_iaddrA rfl rfl rfl rfl (by decide) ?_
 | refine WS_nil ?_)
 | refine WC_seq ?_
 | refine WC_opsS ?_
 | refine WC_skip ?_
 | refine WC_condF rfl ?_
 | refine WC_ret ?_)
    all_goals exact finX_T (us := [.bool true]) (by simp) rfl rfl s1 rfl rfl
  · have : bookM l c k n = l := by rw [bookM_put hI, if_neg hb]
    rw [this, decide_eq_false hb]
    rw [bookC_B hI] at hb
    repeat' (first
 | (refine I_WS ?_; first
 | (refine I_mov ?_; first
 | refine W_skip rfl ?_
 | refine W_mov (v := .int _ _) rfl rfl rfl ?_
 | refine W_mov (v := .bool _) rfl rfl rfl ?_
 | refine W_mov (v := .slice _ _ _) rfl rfl rfl ?_)
 | (refine I_bin ?_; first
 | refine W_skip rfl ?_
 | (refine W_lss rfl rfl rfl rfl ?_ ?_ <;> intro _)
 | (refine W_gtr rfl rfl rfl rfl ?_ ?_ <;> intro _))
 | (refine I_load ?_; first
 | refine W_skip rfl ?_
 | refine W_load (agg := false) (d := .int _ _) rfl rfl rfl rfl (by first | exact Nat.zero_le _ | omega) rfl ?_
 | refine W_load (agg := true) (d := .agg [_, _, _, _, _, _]) rfl rfl rfl rfl (by first | exact Nat.zero_le _ | omega) rfl ?_)
 | (refine I_call ?_; first
 | refine W_skip rfl ?_
 | refine W_callB rfl rfl rfl hC rfl ?_ ?_ <;> intro _
 | refine W_callB rfl rfl rfl (r_class _) rfl ?_ ?_ <;> intro _
 | refine W_call rfl rfl rfl (hR _ _ hsz) rfl rfl ?_
 | (refine W_callS rfl rfl rfl (hcl _ _ hsz) rfl ?_ <;> intro _ _ s1 _ _))
 | (refine I_pick ?_; first
 | refine W_pick (v := .bool _) rfl rfl rfl rfl ?_)
 | (refine I_box ?_; first
 | refine W_boxA rfl rfl rfl rfl rfl ?_)
 | refine W_not rfl rfl rfl ?_
 | refine W_faddr rfl rfl rfl ?_
 | refine W_skip rfl ?_
 | refine WS_nil ?_)
 | refine WC_seq ?_
 | refine WC_opsS ?_
 | refine WC_skip ?_
 | refine WC_condT rfl ?_
 | refine WC_condF rfl ?_
 | refine WC_ret ?_)
    all_goals first
      | (exfalso
         simp only [decide_eq_true_eq] at *
         exact hb ⟨by assumption, by assumption, by omega, by omega⟩)
      | exact finX_T (us := [.bool false]) (by simp) rfl rfl s1 rfl rfl
set_option maxHeartbeats 4000000 in
theorem r_Release (l : List Bk) (id k n : Int) (hI : Inv l) (hl : l.length ≤ 1073741824) (t : Tok) (sz : Nat) (hsz : sz = 4 ∨ l = []) :
    EvX Γ 31 [.slice t sz (l.map Bk.e), .int .i64 id, .int .i64 k, .int .i64 n] (IsT Bk.e 4 (relM l id k n) [.bool (decide (relC l id k n))]) := by
  refine EvX_code rfl rfl ?_
  have hcl := fun t sz hsz => r_CopyS l hl t sz hsz
  have hU := fun t sz hsz => r_Used l id hl t sz hsz
  have hW := fun u0 u1 u2 t sz hsz => r_with l id u0 u1 u2 hI.1 hl t sz hsz
  have hUU := hI.getU id
  have hC := relC_B hI id k n
  have hrel := relM_put hI id k n
  have hid := getB_id l id
  rw [hrel]
  generalize getB l id = r at *
  obtain ⟨ri, r0, r1, r2⟩ := r
  simp only at hid
  subst hid
  unfold Bk.U at hUU
  dsimp only at hU hUU
  by_cases hk : 0 ≤ k ∧ k < 3
  · have hk' : k = 0 ∨ k = 1 ∨ k = 2 := by omega
    by_cases hb : relC l ri k n
    · rw [if_pos hb, decide_eq_true hb]
      obtain ⟨_, h2, h3⟩ := hC.mp hb
      clear hcl hC hrel hb
      rcases hk' with rfl | rfl | rfl
      all_goals
        simp only [Bk.plus, Bk.at, if_true, if_false, show ¬ ((1 : Int) = 0) by decide, show ¬ ((2 : Int) = 0) by decide, show ¬ ((2 : Int) = 1) by decide] at h3 ⊢
        repeat' (first
 | (refine I_WS ?_; first
 | refine W_sub (s := r0 + (0 - n)) rfl rfl rfl rfl (by rw [w64 (by omega)]; omega) ?_
 | refine W_sub (s := r1 + (0 - n)) rfl rfl rfl rfl (by rw [w64 (by omega)]; omega) ?_
 | refine W_sub (s := r2 + (0 - n)) rfl rfl rfl rfl (by rw [w64 (by omega)]; omega) ?_
 | (refine I_mov ?_; first
 | refine W_mov (v := .int _ _) rfl rfl rfl ?_
 | refine W_mov (v := .bool _) rfl rfl rfl ?_
 | refine W_mov (v := .slice _ _ _) rfl rfl rfl ?_)
 | (refine I_bin ?_; first
 | refine W_lssF rfl rfl rfl rfl (by omega) ?_
 | refine W_gtrF rfl rfl rfl rfl (by omega) ?_)
 | (refine I_load ?_; first
 | refine W_load (agg := false) (d := .int _ _) rfl rfl rfl rfl (by first | exact Nat.zero_le _ | omega) rfl ?_
 | refine W_load (agg := true) (d := .agg [_, _, _]) rfl rfl rfl rfl (by first | exact Nat.zero_le _ | omega) rfl ?_)
 | (refine I_call ?_; first
 | refine W_callBT rfl rfl rfl (r_class _) (by decide) rfl ?_
 | refine W_call rfl rfl rfl (hU _ _ hsz) rfl rfl ?_
 | (refine W_callS rfl rfl rfl (hW _ _ _ _ _ hsz) rfl ?_ <;> intro _ _ s1 _ _))
 | (refine I_pick ?_; first
 | refine W_pick (v := .bool _) rfl rfl rfl rfl ?_)
 | (refine I_store ?_; first
 | refine W_store (cs' := [_, _, _]) rfl rfl rfl rfl (by first | exact Nat.zero_le _ | omega) rfl rfl rfl ?_)
 | refine W_not rfl rfl rfl ?_
 | refine W_alloc rfl rfl ?_
 | refine W_iaddrA rfl rfl rfl rfl (by decide) ?_
 | refine WS_nil ?_)
 | refine WC_seq ?_
 | refine WC_opsS ?_
 | refine WC_skip ?_
 | refine WC_condF rfl ?_
 | refine WC_ret ?_)
      all_goals exact finX_T (us := [.bool true]) (by simp) rfl rfl s1 rfl rfl
    · rw [if_neg hb, decide_eq_false hb]
      rw [hC] at hb
      unfold Bk.at at hb
      rcases hk' with rfl | rfl | rfl
      all_goals
        simp only [if_true, if_false, show ¬ ((1 : Int) = 0) by decide, show ¬ ((2 : Int) = 0) by decide, show ¬ ((2 : Int) = 1) by decide] at hb
        repeat' (first
 | (refine I_WS ?_; first
 | (refine I_mov ?_; first
 | refine W_skip rfl ?_
 | refine W_mov (v := .int _ _) rfl rfl rfl ?_
 | refine W_mov (v := .bool _) rfl rfl rfl ?_
 | refine W_mov (v := .slice _ _ _) rfl rfl rfl ?_)
 | (refine I_bin ?_; first
 | refine W_skip rfl ?_
 | (refine W_lss rfl rfl rfl rfl ?_ ?_ <;> intro _)
 | refine W_gtrT rfl rfl rfl rfl (by omega) ?_)
 | (refine I_load ?_; first
 | refine W_skip rfl ?_
 | refine W_load (agg := false) (d := .int _ _) rfl rfl rfl rfl (by first | exact Nat.zero_le _ | omega) rfl ?_)
 | (refine I_call ?_; first
 | refine W_callBT rfl rfl rfl (r_class _) (by decide) rfl ?_
 | refine W_call rfl rfl rfl (hU _ _ hsz) rfl rfl ?_
 | (refine W_callS rfl rfl rfl (hcl _ _ hsz) rfl ?_ <;> intro _ _ s1 _ _))
 | (refine I_pick ?_; first
 | refine W_pick (v := .bool _) rfl rfl rfl rfl ?_)
 | (refine I_store ?_; first
 | refine W_store (cs' := [_, _, _]) rfl rfl rfl rfl (by first | exact Nat.zero_le _ | omega) rfl rfl rfl ?_)
 | refine W_not rfl rfl rfl ?_
 | refine W_alloc rfl rfl ?_
 | refine W_iaddrA rfl rfl rfl rfl (by decide) ?_
 | refine W_skip rfl ?_
 | refine WS_nil ?_)
 | refine WC_seq ?_
 | refine WC_opsS ?_
 | refine WC_condT rfl ?_
 | refine WC_ret ?_)
      all_goals
        first
        | (exfalso; omega)
        | exact finX_T (us := [.bool false]) (by simp) rfl rfl s1 rfl rfl
  · have hb : ¬ relC l ri k n := fun h => hk h.1
    rw [if_neg hb, decide_eq_false hb]
    repeat' (first
 | (refine I_WS ?_; first
 | (refine I_mov ?_; first
 | refine W_skip rfl ?_
 | refine W_mov (v := .int _ _) rfl rfl rfl ?_
 | refine W_mov (v := .bool _) rfl rfl rfl ?_
 | refine W_mov (v := .slice _ _ _) rfl rfl rfl ?_)
 | (refine I_bin ?_; first
 | refine W_skip rfl ?_)
 | (refine I_load ?_; first
 | refine W_skip rfl ?_)
 | (refine I_call ?_; first
 | refine W_callBF rfl rfl rfl (r_class _) (decide_eq_false hk) rfl ?_
 | refine W_call rfl rfl rfl (hU _ _ hsz) rfl rfl ?_
 | (refine W_callS rfl rfl rfl (hcl _ _ hsz) rfl ?_ <;> intro _ _ s1 _ _))
 | (refine I_pick ?_; first
 | refine W_pick (v := .bool _) rfl rfl rfl rfl ?_)
 | (refine I_store ?_; first
 | refine W_store (cs' := [_, _, _]) rfl rfl rfl rfl (by first | exact Nat.zero_le _ | omega) rfl rfl rfl ?_)
 | refine W_not rfl rfl rfl ?_
 | refine W_alloc rfl rfl ?_
 | refine W_skip rfl ?_
 | refine WS_nil ?_)
 | refine WC_seq ?_
 | refine WC_opsS ?_
 | refine WC_condT rfl ?_
 | refine WC_ret ?_)
    exact finX_T (us := [.bool false]) (by simp) rfl rfl s1 rfl rfl
end Go.Let

/-
  What the reference's functions come to: dropping.
-/
namespace Go.Let
open Go.Ev
set_option linter.unusedVariables false
set_option linter.unusedSimpArgs false
/-- Is it among the IDs? -/
theorem rl_gone (ids : List Int) (l : List Bk) (x : Bk) (i : Nat) (hv : l[i]? = some x) (hl : l.length ≤ 1073741824) (hli : ids.length ≤ 1073741824) (t t' : Tok) (sz si : Nat) (hsz : sz = 4 ∨ l = []) (hsi : si = 1 ∨ ids = []) (d5 : D) (st : Store) : ∀ (post pre : List Int) (g : Bool), ids = pre ++ post → (g = true ↔ x.id ∈ pre) →
    ∀ (ρ : Nat → D) (h0 : ρ 0 = .slice t sz (l.map Bk.e)) (h1 : ρ 1 = .slice t' si (ids.map (D.int .i64))) (h5 : ρ 5 = d5) (h6 : ρ 6 = .int .i64 i) (h7 : ρ 7 = .bool g) (h8 : ρ 8 = .int .i64 pre.length) (Q : X → (Nat → D) → Store → Prop),
    (∀ ρ', ρ' 0 = .slice t sz (l.map Bk.e) → ρ' 1 = .slice t' si (ids.map (D.int .i64)) → ρ' 5 = d5 → ρ' 6 = .int .i64 i → ρ' 7 = .bool (decide (x.id ∈ ids)) → Q (.exit 2) ρ' st) → WC Γ (.loop c_feluccaref09_Drop_l0) ρ st Q := by
  have hi : i < l.length := (List.getElem?_eq_some_iff.mp hv).1
  intro post
  induction post with
  | nil =>
    intro pre g hp hg ρ h0 h1 h5 h6 h7 h8 Q hQ
    rw [List.append_nil] at hp
    subst hp
    have hge : g = decide (x.id ∈ ids) := by rw [Bool.eq_iff_iff, decide_eq_true_eq]; exact hg
    subst hge
    rw [← upd_self h0, ← upd_self h1, ← upd_self h5, ← upd_self h6, ← upd_self h7, ← upd_self h8]
    refine WC_loop ?_
    repeat' (first
 | (refine I_WS ?_; first
 | (refine I_mov ?_; first
 | refine W_mov (v := .int _ _) rfl rfl rfl ?_
 | refine W_mov (v := .slice _ _ _) rfl rfl rfl ?_)
 | (refine I_bin ?_; first
 | refine W_lssF rfl rfl rfl rfl (by omega) ?_)
 | refine W_lenM rfl rfl rfl ?_
 | refine WS_nil ?_)
 | refine WC_seq ?_
 | refine WC_opsS ?_
 | refine WC_condF rfl ?_
 | refine WC_exit ?_)
    exact hQ _ rfl rfl rfl rfl rfl
  | cons y post ih =>
    intro pre g hp hg ρ h0 h1 h5 h6 h7 h8 Q hQ
    have hy := at_mid hp
    have hlen : ids.length = pre.length + (post.length + 1) := by rw [hp]; simp
    rw [← upd_self h0, ← upd_self h1, ← upd_self h5, ← upd_self h6, ← upd_self h7, ← upd_self h8]
    have hstep := fun (g' : Bool) (hg' : g' = true ↔ x.id ∈ pre ++ [y]) (ρ' : Nat → D) a0 a1 a5 a6 a7 (a8 : ρ' 8 = .int .i64 (pre.length + 1 : Nat)) => ih (pre ++ [y]) g' (by simp [hp]) hg' ρ' a0 a1 a5 a6 a7 (by rw [a8]; simp) Q hQ
    clear ih hQ
    cases g with
    | true =>
      refine WC_loop ?_
      repeat' (first
 | (refine I_WS ?_; first
 | (refine I_mov ?_; first
 | refine W_skip rfl ?_
 | refine W_mov (v := .int _ _) rfl rfl rfl ?_
 | refine W_mov (v := .bool _) rfl rfl rfl ?_
 | refine W_mov (v := .slice _ _ _) rfl rfl rfl ?_)
 | (refine I_bin ?_; first
 | refine W_skip rfl ?_
 | refine W_lssT rfl rfl rfl rfl (by omega) ?_
 | refine W_add rfl rfl rfl rfl (by first | exact w64 (by omega) | rfl) ?_)
 | (refine I_load ?_; first
 | refine W_skip rfl ?_)
 | (refine I_pick ?_; first
 | refine W_pick (v := .bool _) rfl rfl rfl rfl ?_)
 | refine W_lenM rfl rfl rfl ?_
 | refine W_skip rfl ?_
 | refine WS_nil ?_)
 | refine WC_seq ?_
 | refine WC_opsS ?_
 | refine WC_drawS ?_
 | refine WC_skip ?_
 | refine WC_condT rfl ?_
 | refine WC_block ?_
 | refine okF_intro rfl ?_)
      refine hstep true ⟨fun _ => by simp [hg.mp rfl], fun _ => rfl⟩ _ rfl rfl rfl rfl rfl rfl
    | false =>
      have hn : x.id ∉ pre := fun h => by have := hg.mpr h; cases this
      refine WC_loop ?_
      repeat' (first
 | (refine I_WS ?_; first
 | (refine I_mov ?_; first
 | refine W_mov (v := .int _ _) rfl rfl rfl ?_
 | refine W_mov (v := .bool _) rfl rfl rfl ?_
 | refine W_mov (v := .slice _ _ _) rfl rfl rfl ?_)
 | (refine I_bin ?_; first
 | refine W_lssT rfl rfl rfl rfl (by omega) ?_
 | (refine W_eql rfl rfl rfl rfl ?_ ?_ <;> intro _)
 | refine W_add rfl rfl rfl rfl (by first | exact w64 (by omega) | rfl) ?_)
 | (refine I_load ?_; first
 | refine W_loadE (agg := false) (d := .int _ _) rfl rfl rfl hy rfl ?_
 | refine W_loadE (agg := false) (d := .int _ _) rfl rfl rfl hv rfl ?_)
 | (refine I_pick ?_; first
 | refine W_pick (v := .bool _) rfl rfl rfl rfl ?_)
 | refine W_lenM rfl rfl rfl ?_
 | refine W_faddrE rfl rfl rfl ?_
 | refine W_iaddr rfl rfl rfl rfl (by first | rfl | exact sz_of (by assumption) (by omega)) (by first | decide | (simp only [List.length_map]; omega)) ?_
 | refine WS_nil ?_)
 | refine WC_seq ?_
 | refine WC_opsS ?_
 | refine WC_drawS ?_
 | refine WC_skip ?_
 | refine WC_condT rfl ?_
 | refine WC_block ?_
 | refine okF_intro rfl ?_)
      · rename_i he
        refine hstep true ⟨fun _ => by simp [he], fun _ => rfl⟩ _ rfl rfl rfl rfl rfl rfl
      · rename_i he
        refine hstep false ⟨fun h => (by cases h), fun h => ?_⟩ _ rfl rfl rfl rfl rfl rfl
        rcases List.mem_append.mp h with h | h
        · exact absurd h hn
        · exact absurd (List.mem_singleton.mp h).symm he
set_option maxHeartbeats 4000000 in
theorem rl_Drop (ids : List Int) (l : List Bk) (hl : l.length ≤ 1073741824) (hli : ids.length ≤ 1073741824) (t t' : Tok) (sz si : Nat) (hsz : sz = 4 ∨ l = []) (hsi : si = 1 ∨ ids = []) : ∀ (post pre : List Bk), l = pre ++ post →
    ∀ (ρ : Nat → D) (st : Store) (tk : Tok) (so : Nat) (hlim : st.lim ≤ 0) (htl : st.tlim ≤ st.ntok) (hO : AppOK st 4 tk so ((keepL ids pre).map Bk.e)) (h0 : ρ 0 = .slice t sz (l.map Bk.e)) (h1 : ρ 1 = .slice t' si (ids.map (D.int .i64))) (h5 : ρ 5 = .slice tk so ((keepL ids pre).map Bk.e)) (h6 : ρ 6 = .int .i64 pre.length) (Q : X → (Nat → D) → Store → Prop),
    (∀ ρ' st' tk' so', st'.lim ≤ 0 → AppOK st' 4 tk' so' ((keepL ids l).map Bk.e) → ρ' 5 = .slice tk' so' ((keepL ids l).map Bk.e) → Q (.exit 0) ρ' st') → WC Γ (.loop c_feluccaref09_Drop_l1) ρ st Q := by
  intro post
  induction post with
  | nil =>
    intro pre hp ρ st tk so hlim htl hO h0 h1 h5 h6 Q hQ
    rw [List.append_nil] at hp
    subst hp
    rw [← upd_self h0, ← upd_self h1, ← upd_self h5, ← upd_self h6]
    refine WC_loop ?_
    repeat' (first
 | (refine I_WS ?_; first
 | (refine I_mov ?_; first
 | refine W_mov (v := .int _ _) rfl rfl rfl ?_
 | refine W_mov (v := .slice _ _ _) rfl rfl rfl ?_)
 | (refine I_bin ?_; first
 | refine W_lssF rfl rfl rfl rfl (by omega) ?_)
 | refine W_lenM rfl rfl rfl ?_
 | refine WS_nil ?_)
 | refine WC_seq ?_
 | refine WC_opsS ?_
 | refine WC_condF rfl ?_
 | refine WC_exit ?_)
    exact hQ _ _ _ _ hlim hO rfl
  | cons x post ih =>
    intro pre hp ρ st tk so hlim htl hO h0 h1 h5 h6 Q hQ
    have hv := at_mid hp
    have hlen : l.length = pre.length + (post.length + 1) := by rw [hp]; simp
    have hkl := keepL_le ids pre
    have hinner : ∀ (ρ : Nat → D) (Q : X → (Nat → D) → Store → Prop), ρ 0 = .slice t sz (l.map Bk.e) → ρ 1 = .slice t' si (ids.map (D.int .i64)) → ρ 5 = .slice tk so ((keepL ids pre).map Bk.e) → ρ 6 = .int .i64 pre.length → ρ 7 = .bool false → ρ 8 = .int .i64 (0 : Nat) →
        (∀ ρ', ρ' 0 = .slice t sz (l.map Bk.e) → ρ' 1 = .slice t' si (ids.map (D.int .i64)) → ρ' 5 = .slice tk so ((keepL ids pre).map Bk.e) → ρ' 6 = .int .i64 pre.length → ρ' 7 = .bool (decide (x.id ∈ ids)) → Q (.exit 2) ρ' st) → WC Γ (.loop c_feluccaref09_Drop_l0) ρ st Q :=
      fun ρ Q a0 a1 a5 a6 a7 a8 hQ => rl_gone ids l x pre.length hv hl hli t t' sz si hsz hsi _ st ids [] false rfl (by simp) ρ a0 a1 a5 a6 a7 a8 Q hQ
    have hstep := fun (ρ' : Nat → D) (st' : Store) (tk' : Tok) (so' : Nat) a1 a2 a3 b0 b1 b5 (b6 : ρ' 6 = .int .i64 (pre.length + 1 : Nat)) => ih (pre ++ [x]) (by simp [hp]) ρ' st' tk' so' a1 a2 a3 b0 b1 b5 (by rw [b6]; simp) Q hQ
    rw [keepL_snoc] at hstep
    clear ih hQ
    rw [← upd_self h0, ← upd_self h1, ← upd_self h5, ← upd_self h6]
    refine WC_loop ?_
    repeat' (first
 | (refine I_WS ?_; first
 | (refine I_mov ?_; first
 | refine W_mov (v := .int _ _) rfl rfl rfl ?_
 | refine W_mov (v := .bool _) rfl rfl rfl ?_
 | refine W_mov (v := .slice _ _ _) rfl rfl rfl ?_)
 | (refine I_bin ?_; first
 | refine W_lssT rfl rfl rfl rfl (by omega) ?_)
 | refine W_lenM rfl rfl rfl ?_
 | refine WS_nil ?_)
 | refine WC_seq ?_
 | refine WC_opsS ?_
 | refine WC_skip ?_
 | refine WC_condT rfl ?_
 | refine WC_block ?_)
    refine hinner _ _ rfl rfl rfl rfl rfl rfl ?_
    intro ρ1 k0 k1 k5 k6 k7
    by_cases hx : x.id ∈ ids
    · rw [decide_eq_true hx] at k7
      rw [if_pos hx] at hstep
      rw [← upd_self k0, ← upd_self k1, ← upd_self k5, ← upd_self k6, ← upd_self k7]
      repeat' (first
 | (refine I_WS ?_; first
 | (refine I_mov ?_; first
 | refine W_mov (v := .int _ _) rfl rfl rfl ?_
 | refine W_mov (v := .bool _) rfl rfl rfl ?_)
 | (refine I_bin ?_; first
 | refine W_add rfl rfl rfl rfl (by first | exact w64 (by omega) | rfl) ?_)
 | refine W_not rfl rfl rfl ?_
 | refine WS_nil ?_)
 | refine WC_seq ?_
 | refine WC_opsS ?_
 | refine WC_skip ?_
 | refine WC_condF rfl ?_)
      exact hstep _ _ _ _ hlim htl hO rfl rfl rfl rfl
    · rw [decide_eq_false hx] at k7
      rw [if_neg hx] at hstep
      rw [← upd_self k0, ← upd_self k1, ← upd_self k5, ← upd_self k6, ← upd_self k7]
      repeat' (first
 | (refine I_WS ?_; first
 | (refine W_app rfl rfl rfl hO (.inl rfl) (by simp; omega) htl rfl ?_ <;> intro k1' st1 b1 n1 l1 t1 t2 o1 o2)
 | (refine I_mov ?_; first
 | refine W_mov (v := .int _ _) rfl rfl rfl ?_
 | refine W_mov (v := .bool _) rfl rfl rfl ?_
 | refine W_mov (v := .slice _ _ _) rfl rfl rfl ?_)
 | (refine I_bin ?_; first
 | refine W_add rfl rfl rfl rfl (by first | exact w64 (by omega) | rfl) ?_)
 | (refine I_load ?_; first
 | refine W_loadE (agg := true) (d := .agg [_, _, _, _]) rfl rfl rfl hv rfl ?_)
 | refine W_not rfl rfl rfl ?_
 | refine W_iaddr rfl rfl rfl rfl (by first | rfl | exact sz_of (by assumption) (by omega)) (by first | decide | (simp only [List.length_map]; omega)) ?_
 | refine W_bslice (ys := [_]) rfl rfl rfl (by decide) rfl ?_
 | refine WS_nil ?_)
 | refine WC_seq ?_
 | refine WC_opsS ?_
 | refine WC_condT rfl ?_)
      refine hstep _ _ (.own k1') 4 (by rw [l1]; exact hlim) t2 (.inr ⟨_, rfl, o1, o2, rfl⟩) rfl rfl ?_ rfl
      rw [List.map_append]
      rfl
theorem r_Drop (ids : List Int) (l : List Bk) (hl : l.length ≤ 1073741824) (hli : ids.length ≤ 1073741824) (t t' : Tok) (sz si : Nat) (hsz : sz = 4 ∨ l = []) (hsi : si = 1 ∨ ids = []) : EvX Γ 35 [.slice t sz (l.map Bk.e), .slice t' si (ids.map (D.int .i64))] (IsS Bk.e 4 (keepL ids l)) := by
  refine EvX_code rfl rfl ?_
  repeat' (first
 | (refine I_WS ?_; first
 | (refine I_mov ?_; first
 | refine W_mov (v := .int _ _) rfl rfl rfl ?_
 | refine W_mov (v := .slice _ _ _) rfl rfl rfl ?_)
 | refine WS_nil ?_)
 | refine WC_seq ?_
 | refine WC_opsS ?_
 | refine WC_block ?_)
  refine rl_Drop ids l hl hli t t' sz si hsz hsi l [] rfl _ _ .isnil 0 (Nat.le_refl _) (Nat.le_refl _) (.inl ⟨.inl rfl, .inr ⟨rfl, rfl⟩⟩) rfl rfl rfl rfl _ ?_
  intro ρ st tk so hlim hO h5
  have hso : so = 4 ∨ keepL ids l = [] := by
    rcases hO with ⟨_, h | ⟨_, h⟩⟩ | ⟨_, _, _, _, h⟩
    · exact .inl h
    · exact .inr (by simpa using h)
    · exact .inl h
  rw [← upd_self h5]
  repeat' (first
 | (refine I_WS ?_; first
 | (refine I_mov ?_; first
 | refine W_mov (v := .slice _ _ _) rfl rfl rfl ?_)
 | refine WS_nil ?_)
 | refine WC_seq ?_
 | refine WC_opsS ?_
 | refine WC_ret ?_)
  exact finX_S (sz := 4) (by simp) rfl hso rfl
end Go.Let

/-
  What the reference's functions come to: what is right.
-/
namespace Go.Let
open Go.Ev
set_option linter.unusedVariables false
set_option linter.unusedSimpArgs false
set_option maxHeartbeats 4000000 in
theorem rl_right (l : List Bk) (hl : l.length ≤ 1073741824) (t : Tok) (sz : Nat) (hsz : sz = 4 ∨ l = []) : ∀ (post pre : List Bk) (p : Int), l = pre ++ post → ((pre = [] ∧ p = 0) ∨ (∃ pre' a, pre = pre' ++ [a] ∧ a.id = p ∧ 1 ≤ p)) →
    ∀ (ρ : Nat → D) (st : Store) (hlim : st.lim ≤ st.next) (h0 : ρ 0 = .slice t sz (l.map Bk.e)) (h3 : ρ 3 = .int .i64 pre.length) (Q : X → (Nat → D) → Store → Prop),
    (rt p post = true → ∀ ρ' st', Q (.exit 0) ρ' st') → (rt p post = false → ∀ ρ' st', ρ' 2 = .bool false → Q .ret ρ' st') → WC Γ (.loop c_feluccaref09_Right_l1) ρ st Q := by
  intro post
  induction post with
  | nil =>
    intro pre p hp hpp ρ st hlim h0 h3 Q hQ hQ2
    rw [List.append_nil] at hp
    subst hp
    rw [← upd_self h0, ← upd_self h3]
    refine WC_loop ?_
    repeat' (first
 | (refine I_WS ?_; first
 | (refine I_mov ?_; first
 | refine W_mov (v := .int _ _) rfl rfl rfl ?_
 | refine W_mov (v := .slice _ _ _) rfl rfl rfl ?_)
 | (refine I_bin ?_; first
 | refine W_lssF rfl rfl rfl rfl (by omega) ?_)
 | refine W_lenM rfl rfl rfl ?_
 | refine WS_nil ?_)
 | refine WC_seq ?_
 | refine WC_opsS ?_
 | refine WC_condF rfl ?_
 | refine WC_exit ?_)
    exact hQ rfl _ _
  | cons b post ih =>
    intro pre p hp hpp ρ st hlim h0 h3 Q hQ hQ2
    have hv := at_mid hp
    have hlen : l.length = pre.length + (post.length + 1) := by rw [hp]; simp
    rw [← upd_self h0, ← upd_self h3]
    have hstep : ∀ (ρ' : Nat → D) (st' : Store), st'.lim ≤ st'.next → ρ' 0 = .slice t sz (l.map Bk.e) → ρ' 3 = .int .i64 (pre.length + 1 : Nat) → p < b.id ∧ b.id ≤ 1048576 ∧ ¬ (b.u0 = 0 ∧ b.u1 = 0 ∧ b.u2 = 0) ∧ b.U → 1 ≤ b.id → WC Γ (.loop c_feluccaref09_Right_l1) ρ' st' Q := fun ρ' st' hlim' h0 h3 hok h1 =>
      ih (pre ++ [b]) b.id (by simp [hp]) (.inr ⟨pre, b, rfl, rfl, h1⟩) ρ' st' hlim' h0 (by rw [h3]; simp) Q (fun h => hQ (by simp only [rt, hok, h, Bool.and_true]; simp)) (fun h => hQ2 (by simp only [rt, h, Bool.and_false]))
    have hbad : ¬ (p < b.id ∧ b.id ≤ 1048576 ∧ ¬ (b.u0 = 0 ∧ b.u1 = 0 ∧ b.u2 = 0) ∧ b.U) → ∀ (ρ' : Nat → D) (st' : Store), ρ' 2 = .bool false → Q .ret ρ' st' := fun h ρ' st' h2 => hQ2 (by simp only [rt, decide_eq_false h, Bool.false_and]) ρ' st' h2
    clear hQ hQ2 ih
    unfold Bk.U at hstep hbad
    rcases hpp with ⟨rfl, rfl⟩ | ⟨pre', a, rfl, ha, hp1⟩
    · have hz0 : ([] : List Bk).length = 0 := rfl
      refine WC_loop ?_
      repeat' (first
 | (refine I_WS ?_; first
 | refine W_add (s := 1) rfl rfl rfl rfl rfl ?_
 | refine W_add (s := 2) rfl rfl rfl rfl rfl ?_
 | refine W_add (s := 3) rfl rfl rfl rfl rfl ?_
 | (refine I_mov ?_; first
 | refine W_skip rfl ?_
 | refine W_mov (v := .int _ _) rfl rfl rfl ?_
 | refine W_mov (v := .bool _) rfl rfl rfl ?_
 | refine W_mov (v := .slice _ _ _) rfl rfl rfl ?_)
 | (refine I_bin ?_; first
 | refine W_skip rfl ?_
 | refine W_lssT rfl rfl rfl rfl (by omega) ?_
 | refine W_lssF rfl rfl rfl rfl (by omega) ?_
 | (refine W_lss rfl rfl rfl rfl ?_ ?_ <;> intro _)
 | refine W_gtrF rfl rfl rfl rfl (by omega) ?_
 | (refine W_gtr rfl rfl rfl rfl ?_ ?_ <;> intro _))
 | (refine I_load ?_; first
 | refine W_skip rfl ?_
 | refine W_loadE (agg := true) (d := .agg [_, _, _, _]) rfl rfl rfl hv rfl ?_
 | refine W_load (agg := false) (d := .int _ _) rfl rfl rfl (bxc rfl) (by first | exact Nat.zero_le _ | assumption | exact Nat.le_trans hlim (Nat.zero_le _) | omega) rfl ?_)
 | (refine I_pick ?_; first
 | refine W_pick (v := .bool _) rfl rfl rfl rfl ?_
 | refine W_skip rfl ?_)
 | (refine I_store ?_; first
 | refine W_store (cs' := [_, _, _, _]) rfl rfl (upd_same _ _ _) rfl (by first | exact Nat.zero_le _ | assumption | exact Nat.le_trans hlim (Nat.zero_le _) | omega) rfl rfl rfl ?_)
 | refine W_not rfl rfl rfl ?_
 | refine W_lenM rfl rfl rfl ?_
 | refine W_faddr rfl rfl rfl ?_
 | refine W_alloc rfl rfl ?_
 | refine W_iaddrA rfl rfl rfl rfl (by decide) ?_
 | refine W_skip rfl ?_
 | refine W_iaddr rfl rfl rfl rfl (by first | rfl | exact sz_of (by assumption) (by omega)) (by first | decide | (simp only [List.length_map]; omega)) ?_
 | refine WS_nil ?_)
 | refine WC_loop (b := c_feluccaref09_Right_l0) ?_
 | refine WC_seq ?_
 | refine WC_opsS ?_
 | refine WC_drawS ?_
 | refine WC_skip ?_
 | refine WC_condT rfl ?_
 | refine WC_condF rfl ?_
 | refine WC_block ?_
 | refine WC_exit ?_
 | refine WC_ret ?_
 | refine okF_intro rfl ?_)
      all_goals first
        | (refine hbad ?_ _ _ rfl; omega)
        | (refine hstep _ _ (by first | assumption | exact Nat.le_succ_of_le hlim) rfl rfl ?_ ?_ <;> omega)
    · have hva : l[pre'.length]? = some a := by simp [hp]
      have hlp : (pre' ++ [a]).length = pre'.length + 1 := by simp
      refine WC_loop ?_
      repeat' (first
 | (refine I_WS ?_; first
 | refine W_add (s := 1) rfl rfl rfl rfl rfl ?_
 | refine W_add (s := 2) rfl rfl rfl rfl rfl ?_
 | refine W_add (s := 3) rfl rfl rfl rfl rfl ?_
 | refine W_sub (s := ((pre'.length : Nat) : Int)) rfl rfl rfl rfl (by rw [w64 (by omega)]; omega) ?_
 | (refine I_mov ?_; first
 | refine W_skip rfl ?_
 | refine W_mov (v := .int _ _) rfl rfl rfl ?_
 | refine W_mov (v := .bool _) rfl rfl rfl ?_
 | refine W_mov (v := .slice _ _ _) rfl rfl rfl ?_)
 | (refine I_bin ?_; first
 | refine W_skip rfl ?_
 | refine W_lssT rfl rfl rfl rfl (by omega) ?_
 | refine W_lssF rfl rfl rfl rfl (by omega) ?_
 | (refine W_lss rfl rfl rfl rfl ?_ ?_ <;> intro _)
 | (refine W_leq rfl rfl rfl rfl ?_ ?_ <;> intro _)
 | refine W_gtrT rfl rfl rfl rfl (by omega) ?_
 | (refine W_gtr rfl rfl rfl rfl ?_ ?_ <;> intro _)
 | refine W_add rfl rfl rfl rfl (by first | exact w64 (by omega) | rfl) ?_)
 | (refine I_load ?_; first
 | refine W_skip rfl ?_
 | refine W_loadE (agg := true) (d := .agg [_, _, _, _]) rfl rfl rfl hv rfl ?_
 | refine W_loadE (agg := false) (d := .int _ _) rfl rfl rfl hva rfl ?_
 | refine W_load (agg := false) (d := .int _ _) rfl rfl rfl (bxc rfl) (by first | exact Nat.zero_le _ | assumption | exact Nat.le_trans hlim (Nat.zero_le _) | omega) rfl ?_)
 | (refine I_pick ?_; first
 | refine W_pick (v := .bool _) rfl rfl rfl rfl ?_
 | refine W_skip rfl ?_)
 | (refine I_store ?_; first
 | refine W_store (cs' := [_, _, _, _]) rfl rfl (upd_same _ _ _) rfl (by first | exact Nat.zero_le _ | assumption | exact Nat.le_trans hlim (Nat.zero_le _) | omega) rfl rfl rfl ?_)
 | refine W_not rfl rfl rfl ?_
 | refine W_lenM rfl rfl rfl ?_
 | refine W_faddr rfl rfl rfl ?_
 | refine W_faddrE rfl rfl rfl ?_
 | refine W_alloc rfl rfl ?_
 | refine W_iaddrA rfl rfl rfl rfl (by decide) ?_
 | refine W_skip rfl ?_
 | refine W_iaddr rfl rfl rfl rfl (by first | rfl | exact sz_of (by assumption) (by omega)) (by first | decide | (simp only [List.length_map]; omega)) ?_
 | refine WS_nil ?_)
 | refine WC_loop (b := c_feluccaref09_Right_l0) ?_
 | refine WC_seq ?_
 | refine WC_opsS ?_
 | refine WC_drawS ?_
 | refine WC_skip ?_
 | refine WC_condT rfl ?_
 | refine WC_condF rfl ?_
 | refine WC_block ?_
 | refine WC_exit ?_
 | refine WC_ret ?_
 | refine okF_intro rfl ?_)
      all_goals first
        | (refine hbad ?_ _ _ rfl; omega)
        | (refine hstep _ _ (by first | assumption | exact Nat.le_succ_of_le hlim) rfl rfl ?_ ?_ <;> omega)
theorem r_Right (l : List Bk) (hl : l.length ≤ 1073741824) (t : Tok) (sz : Nat) (hsz : sz = 4 ∨ l = []) : EvP Γ 26 [.slice t sz (l.map Bk.e)] (.bool (rt 0 l)) := by
  refine EvP_code rfl rfl ?_
  repeat' (first
 | (refine I_WS ?_; first
 | (refine I_mov ?_; first
 | refine W_mov (v := .int _ _) rfl rfl rfl ?_
 | refine W_mov (v := .bool _) rfl rfl rfl ?_)
 | refine WS_nil ?_)
 | refine WC_seq ?_
 | refine WC_opsS ?_
 | refine WC_block ?_)
  refine rl_right l hl t sz hsz l [] 0 rfl (.inl ⟨rfl, rfl⟩) _ _ (Nat.le_refl _) rfl rfl _ (fun he ρ st => ?_) (fun he ρ st h2 => ?_)
  · repeat' (first
 | (refine I_WS ?_; first
 | (refine I_mov ?_; first
 | refine W_mov (v := .bool _) rfl rfl rfl ?_)
 | refine WS_nil ?_)
 | refine WC_seq ?_
 | refine WC_opsS ?_
 | refine WC_ret ?_)
    exact fin_bool (by simp) rfl he.symm
  · rw [← upd_self h2]
    exact fin_bool (by simp) rfl he.symm
end Go.Let

/-
  LedgerTells, as the evaluator runs it: one act.
-/
namespace Go.Let
open Go.Ev
set_option linter.unusedVariables false
set_option linter.unusedSimpArgs false
def t_feluccalaw09_LedgerTells_s0 : C := (.seq (.block 3 (.ops .false [⟨(.some 196), .none, .false, (.mov (.tmp 14))⟩, ⟨(.some 197), .none, .false, (.mov (.tmp 18))⟩, ⟨(.some 198), .none, .false, (.iaddrS 4 (.tmp 196) (.tmp 197))⟩, ⟨(.some 199), .none, .false, (.faddr 0 (.tmp 198))⟩, ⟨.none, .none, .false, (.store 1 (.tmp 199) (.lit (.int .i64 (-7))))⟩])) (.ops .false [⟨(.some 194), .none, .false, (.mov (.tmp 18))⟩, ⟨(.some 195), .none, .false, (.bin .add (.tmp 194) (.lit (.int .i64 1)))⟩, ⟨(.some 18), .none, .false, (.mov (.tmp 195))⟩]))
def t_feluccalaw09_LedgerTells_s1 : C := (.seq (.ops .false [⟨(.some 188), .none, .false, (.mov (.tmp 14))⟩, ⟨(.some 189), .none, .false, (.call (.lit (.func 29 [])) [(.tmp 188)])⟩, ⟨(.some 10), .none, .false, (.mov (.tmp 189))⟩]) (.seq (.ops .false [⟨(.some 18), .none, .false, (.mov (.lit (.int .i64 0)))⟩]) (.block 2 (.loop (.seq (.seq (.ops .false [⟨(.some 190), .none, .false, (.mov (.tmp 18))⟩, ⟨(.some 191), .none, .false, (.mov (.tmp 14))⟩, ⟨(.some 192), .none, .false, (.lenS (.tmp 191))⟩, ⟨(.some 193), .none, .false, (.bin .lss (.tmp 190) (.tmp 192))⟩]) (.cond (.tmp 193) .skip (.exit 2))) t_feluccalaw09_LedgerTells_s0)))))
def t_feluccalaw09_LedgerTells_s2 : C := (.seq (.seq (.draw [[], [], [0, 1], [2, 0, 1], [3, 2, 0, 1], [3, 2, 0, 1], [4, 3, 2, 0, 1, 5], [6, 4, 3, 2, 0, 1, 5], [3, 2, 0, 1, 7, 6, 4, 5], [8, 3, 2, 0, 1, 7, 6, 4, 5], [9, 8, 3, 2, 0, 1, 7, 6, 4, 5], [9, 8, 3, 2, 0, 1, 7, 6, 4, 5], [10, 9, 8, 3, 2, 0, 1, 7, 6, 4, 5, 11], [12, 10, 9, 8, 3, 2, 0, 1, 7, 6, 4, 5, 11], [9, 8, 3, 2, 0, 1, 7, 6, 4, 5, 13, 12, 10, 11], [14, 9, 8, 3, 2, 0, 1, 7, 6, 4, 5, 13, 12, 10, 11], [15, 14, 9, 8, 3, 2, 0, 1, 7, 6, 4, 5, 13, 12, 10, 11], [15, 14, 9, 8, 3, 2, 0, 1, 7, 6, 4, 5, 13, 12, 10, 11], [17, 15, 14, 9, 8, 3, 2, 0, 1, 7, 6, 4, 5, 13, 12, 10, 11], [18, 17, 15, 14, 9, 8, 3, 2, 0, 1, 7, 6, 4, 5, 13, 12, 10, 11], [16, 15, 14, 9, 8, 3, 2, 0, 1, 7, 6, 4, 5, 13, 12, 10, 11, 19, 18, 17], [15, 14, 9, 8, 3, 2, 0, 1, 7, 6, 4, 5, 13, 12, 10, 11], [15, 14, 9, 8, 3, 2, 0, 1, 7, 6, 4, 5, 13, 12, 10, 11], [22, 15, 14, 9, 8, 3, 2, 0, 1, 7, 6, 4, 5, 13, 12, 10, 11], [23, 22, 15, 14, 9, 8, 3, 2, 0, 1, 7, 6, 4, 5, 13, 12, 10, 11], [21, 15, 14, 9, 8, 3, 2, 0, 1, 7, 6, 4, 5, 13, 12, 10, 11, 24, 23, 22, 20, 16, 19, 18, 17], [20, 16, 15, 14, 9, 8, 3, 2, 0, 1, 7, 6, 4, 5, 13, 12, 10, 11, 19, 18, 17, 25, 21, 24, 23, 22], [15, 14, 9, 8, 3, 2, 0, 1, 7, 6, 4, 5, 13, 12, 10, 11, 26, 20, 16, 19, 18, 17, 25, 21, 24, 23, 22], [27, 15, 14, 9, 8, 3, 2, 0, 1, 7, 6, 4, 5, 13, 12, 10, 11, 26, 20, 16, 19, 18, 17, 25, 21, 24, 23, 22], [28, 27, 15, 14, 9, 8, 3, 2, 0, 1, 7, 6, 4, 5, 13, 12, 10, 11, 26, 20, 16, 19, 18, 17, 25, 21, 24, 23, 22], [28, 27, 15, 14, 9, 8, 3, 2, 0, 1, 7, 6, 4, 5, 13, 12, 10, 11, 26, 20, 16, 19, 18, 17, 25, 21, 24, 23, 22], [30, 28, 27, 15, 14, 9, 8, 3, 2, 0, 1, 7, 6, 4, 5, 13, 12, 10, 11, 26, 20, 16, 19, 18, 17, 25, 21, 24, 23, 22], [31, 30, 28, 27, 15, 14, 9, 8, 3, 2, 0, 1, 7, 6, 4, 5, 13, 12, 10, 11, 26, 20, 16, 19, 18, 17, 25, 21, 24, 23, 22], [28, 27, 15, 14, 9, 8, 3, 2, 0, 1, 7, 6, 4, 5, 13, 12, 10, 11, 26, 20, 16, 19, 18, 17, 25, 21, 24, 23, 22], [33, 28, 27, 15, 14, 9, 8, 3, 2, 0, 1, 7, 6, 4, 5, 13, 12, 10, 11, 26, 20, 16, 19, 18, 17, 25, 21, 24, 23, 22], [29, 28, 27, 15, 14, 9, 8, 3, 2, 0, 1, 7, 6, 4, 5, 13, 12, 10, 11, 26, 20, 16, 19, 18, 17, 25, 21, 24, 23, 22, 32, 31, 30, 34, 33], [28, 27, 15, 14, 9, 8, 3, 2, 0, 1, 7, 6, 4, 5, 13, 12, 10, 11, 26, 20, 16, 19, 18, 17, 25, 21, 24, 23, 22], [28, 27, 15, 14, 9, 8, 3, 2, 0, 1, 7, 6, 4, 5, 13, 12, 10, 11, 26, 20, 16, 19, 18, 17, 25, 21, 24, 23, 22], [37, 28, 27, 15, 14, 9, 8, 3, 2, 0, 1, 7, 6, 4, 5, 13, 12, 10, 11, 26, 20, 16, 19, 18, 17, 25, 21, 24, 23, 22], [38, 37, 28, 27, 15, 14, 9, 8, 3, 2, 0, 1, 7, 6, 4, 5, 13, 12, 10, 11, 26, 20, 16, 19, 18, 17, 25, 21, 24, 23, 22], [28, 27, 15, 14, 9, 8, 3, 2, 0, 1, 7, 6, 4, 5, 13, 12, 10, 11, 26, 20, 16, 19, 18, 17, 25, 21, 24, 23, 22], [40, 28, 27, 15, 14, 9, 8, 3, 2, 0, 1, 7, 6, 4, 5, 13, 12, 10, 11, 26, 20, 16, 19, 18, 17, 25, 21, 24, 23, 22], [36, 28, 27, 15, 14, 9, 8, 3, 2, 0, 1, 7, 6, 4, 5, 13, 12, 10, 11, 26, 20, 16, 19, 18, 17, 25, 21, 24, 23, 22, 39, 38, 37, 41, 40, 35, 29, 32, 31, 30, 34, 33], [35, 29, 28, 27, 15, 14, 9, 8, 3, 2, 0, 1, 7, 6, 4, 5, 13, 12, 10, 11, 26, 20, 16, 19, 18, 17, 25, 21, 24, 23, 22, 32, 31, 30, 34, 33, 42, 36, 39, 38, 37, 41, 40], [28, 27, 15, 14, 9, 8, 3, 2, 0, 1, 7, 6, 4, 5, 13, 12, 10, 11, 26, 20, 16, 19, 18, 17, 25, 21, 24, 23, 22, 43, 35, 29, 32, 31, 30, 34, 33, 42, 36, 39, 38, 37, 41, 40], [44, 28, 27, 15, 14, 9, 8, 3, 2, 0, 1, 7, 6, 4, 5, 13, 12, 10, 11, 26, 20, 16, 19, 18, 17, 25, 21, 24, 23, 22, 43, 35, 29, 32, 31, 30, 34, 33, 42, 36, 39, 38, 37, 41, 40], [45, 44, 28, 27, 15, 14, 9, 8, 3, 2, 0, 1, 7, 6, 4, 5, 13, 12, 10, 11, 26, 20, 16, 19, 18, 17, 25, 21, 24, 23, 22, 43, 35, 29, 32, 31, 30, 34, 33, 42, 36, 39, 38, 37, 41, 40], [45, 44, 28, 27, 15, 14, 9, 8, 3, 2, 0, 1, 7, 6, 4, 5, 13, 12, 10, 11, 26, 20, 16, 19, 18, 17, 25, 21, 24, 23, 22, 43, 35, 29, 32, 31, 30, 34, 33, 42, 36, 39, 38, 37, 41, 40], [47, 45, 44, 28, 27, 15, 14, 9, 8, 3, 2, 0, 1, 7, 6, 4, 5, 13, 12, 10, 11, 26, 20, 16, 19, 18, 17, 25, 21, 24, 23, 22, 43, 35, 29, 32, 31, 30, 34, 33, 42, 36, 39, 38, 37, 41, 40], [45, 44, 28, 27, 15, 14, 9, 8, 3, 2, 0, 1, 7, 6, 4, 5, 13, 12, 10, 11, 26, 20, 16, 19, 18, 17, 25, 21, 24, 23, 22, 43, 35, 29, 32, 31, 30, 34, 33, 42, 36, 39, 38, 37, 41, 40], [49, 45, 44, 28, 27, 15, 14, 9, 8, 3, 2, 0, 1, 7, 6, 4, 5, 13, 12, 10, 11, 26, 20, 16, 19, 18, 17, 25, 21, 24, 23, 22, 43, 35, 29, 32, 31, 30, 34, 33, 42, 36, 39, 38, 37, 41, 40], [46, 45, 44, 28, 27, 15, 14, 9, 8, 3, 2, 0, 1, 7, 6, 4, 5, 13, 12, 10, 11, 26, 20, 16, 19, 18, 17, 25, 21, 24, 23, 22, 43, 35, 29, 32, 31, 30, 34, 33, 42, 36, 39, 38, 37, 41, 40, 48, 47, 50, 49], [45, 44, 28, 27, 15, 14, 9, 8, 3, 2, 0, 1, 7, 6, 4, 5, 13, 12, 10, 11, 26, 20, 16, 19, 18, 17, 25, 21, 24, 23, 22, 43, 35, 29, 32, 31, 30, 34, 33, 42, 36, 39, 38, 37, 41, 40], [45, 44, 28, 27, 15, 14, 9, 8, 3, 2, 0, 1, 7, 6, 4, 5, 13, 12, 10, 11, 26, 20, 16, 19, 18, 17, 25, 21, 24, 23, 22, 43, 35, 29, 32, 31, 30, 34, 33, 42, 36, 39, 38, 37, 41, 40], [53, 45, 44, 28, 27, 15, 14, 9, 8, 3, 2, 0, 1, 7, 6, 4, 5, 13, 12, 10, 11, 26, 20, 16, 19, 18, 17, 25, 21, 24, 23, 22, 43, 35, 29, 32, 31, 30, 34, 33, 42, 36, 39, 38, 37, 41, 40], [45, 44, 28, 27, 15, 14, 9, 8, 3, 2, 0, 1, 7, 6, 4, 5, 13, 12, 10, 11, 26, 20, 16, 19, 18, 17, 25, 21, 24, 23, 22, 43, 35, 29, 32, 31, 30, 34, 33, 42, 36, 39, 38, 37, 41, 40], [55, 45, 44, 28, 27, 15, 14, 9, 8, 3, 2, 0, 1, 7, 6, 4, 5, 13, 12, 10, 11, 26, 20, 16, 19, 18, 17, 25, 21, 24, 23, 22, 43, 35, 29, 32, 31, 30, 34, 33, 42, 36, 39, 38, 37, 41, 40], [52, 45, 44, 28, 27, 15, 14, 9, 8, 3, 2, 0, 1, 7, 6, 4, 5, 13, 12, 10, 11, 26, 20, 16, 19, 18, 17, 25, 21, 24, 23, 22, 43, 35, 29, 32, 31, 30, 34, 33, 42, 36, 39, 38, 37, 41, 40, 54, 53, 56, 55, 51, 46, 48, 47, 50, 49], [51, 46, 45, 44, 28, 27, 15, 14, 9, 8, 3, 2, 0, 1, 7, 6, 4, 5, 13, 12, 10, 11, 26, 20, 16, 19, 18, 17, 25, 21, 24, 23, 22, 43, 35, 29, 32, 31, 30, 34, 33, 42, 36, 39, 38, 37, 41, 40, 48, 47, 50, 49, 57, 52, 54, 53, 56, 55], [45, 44, 28, 27, 15, 14, 9, 8, 3, 2, 0, 1, 7, 6, 4, 5, 13, 12, 10, 11, 26, 20, 16, 19, 18, 17, 25, 21, 24, 23, 22, 43, 35, 29, 32, 31, 30, 34, 33, 42, 36, 39, 38, 37, 41, 40, 58, 51, 46, 48, 47, 50, 49, 57, 52, 54, 53, 56, 55]] [⟨(.some 128), .none, .false, (.mov (.tmp 15))⟩, ⟨(.some 129), .none, .false, (.mov (.tmp 17))⟩, ⟨(.some 130), .none, .false, (.eqlB .true (.tmp 128) (.tmp 129))⟩, ⟨(.some 131), .none, .false, (.mov (.tmp 130))⟩, ⟨(.some 132), (.some (131, .false)), .false, (.mov (.tmp 14))⟩, ⟨(.some 133), (.some (131, .false)), .false, (.mov (.tmp 16))⟩, ⟨(.some 134), (.some (131, .false)), .false, (.call (.lit (.func 28 [])) [(.tmp 132), (.tmp 133)])⟩, ⟨(.some 135), (.some (131, .false)), .false, (.not (.tmp 134))⟩, ⟨(.some 136), .none, .false, (.pick (.tmp 131) (.lit (.bool .true)) (.tmp 135))⟩, ⟨(.some 137), .none, .false, (.mov (.tmp 136))⟩, ⟨(.some 138), (.some (137, .false)), .false, (.mov (.tmp 10))⟩, ⟨(.some 139), (.some (137, .false)), .false, (.mov (.tmp 13))⟩, ⟨(.some 140), (.some (137, .false)), .false, (.call (.lit (.func 28 [])) [(.tmp 138), (.tmp 139)])⟩, ⟨(.some 141), (.some (137, .false)), .false, (.not (.tmp 140))⟩, ⟨(.some 142), .none, .false, (.pick (.tmp 137) (.lit (.bool .true)) (.tmp 141))⟩, ⟨(.some 143), .none, .false, (.mov (.tmp 142))⟩, ⟨(.some 144), (.some (143, .false)), .false, (.mov (.tmp 14))⟩, ⟨(.some 145), (.some (143, .false)), .false, (.faddr 1 (.tmp 12))⟩, ⟨(.some 146), (.some (143, .false)), .false, (.faddr 0 (.tmp 145))⟩, ⟨(.some 147), (.some (143, .false)), .false, (.load .false 1 (.tmp 146))⟩, ⟨(.some 148), (.some (143, .false)), .false, (.call (.lit (.func 36 [])) [(.tmp 144), (.tmp 147)])⟩, ⟨(.some 149), (.some (143, .false)), .false, (.mov (.tmp 16))⟩, ⟨(.some 150), (.some (143, .false)), .false, (.faddr 1 (.tmp 12))⟩, ⟨(.some 151), (.some (143, .false)), .false, (.faddr 0 (.tmp 150))⟩, ⟨(.some 152), (.some (143, .false)), .false, (.load .false 1 (.tmp 151))⟩, ⟨(.some 153), (.some (143, .false)), .false, (.call (.lit (.func 37 [])) [(.tmp 149), (.tmp 152)])⟩, ⟨(.some 154), (.some (143, .false)), .false, (.eqlP .true 3 [0, 1, 2] (.tmp 148) (.tmp 153))⟩, ⟨(.some 155), .none, .false, (.pick (.tmp 143) (.lit (.bool .true)) (.tmp 154))⟩, ⟨(.some 156), .none, .false, (.mov (.tmp 155))⟩, ⟨(.some 157), (.some (156, .false)), .false, (.mov (.tmp 14))⟩, ⟨(.some 158), (.some (156, .false)), .false, (.faddr 1 (.tmp 12))⟩, ⟨(.some 159), (.some (156, .false)), .false, (.faddr 0 (.tmp 158))⟩, ⟨(.some 160), (.some (156, .false)), .false, (.load .false 1 (.tmp 159))⟩, ⟨(.some 161), (.some (156, .false)), .false, (.faddr 7 (.tmp 12))⟩, ⟨(.some 162), (.some (156, .false)), .false, (.load .false 1 (.tmp 161))⟩, ⟨(.some 163), (.some (156, .false)), .false, (.call (.lit (.func 38 [])) [(.tmp 157), (.tmp 160), (.tmp 162)])⟩, ⟨(.some 164), (.some (156, .false)), .false, (.mov (.tmp 16))⟩, ⟨(.some 165), (.some (156, .false)), .false, (.faddr 1 (.tmp 12))⟩, ⟨(.some 166), (.some (156, .false)), .false, (.faddr 0 (.tmp 165))⟩, ⟨(.some 167), (.some (156, .false)), .false, (.load .false 1 (.tmp 166))⟩, ⟨(.some 168), (.some (156, .false)), .false, (.faddr 7 (.tmp 12))⟩, ⟨(.some 169), (.some (156, .false)), .false, (.load .false 1 (.tmp 168))⟩, ⟨(.some 170), (.some (156, .false)), .false, (.call (.lit (.func 39 [])) [(.tmp 164), (.tmp 167), (.tmp 169)])⟩, ⟨(.some 171), (.some (156, .false)), .false, (.bin .neq (.tmp 163) (.tmp 170))⟩, ⟨(.some 172), .none, .false, (.pick (.tmp 156) (.lit (.bool .true)) (.tmp 171))⟩, ⟨(.some 173), .none, .false, (.mov (.tmp 172))⟩, ⟨(.some 174), (.some (173, .false)), .false, (.mov (.tmp 14))⟩, ⟨(.some 175), (.some (173, .false)), .false, (.faddr 1 (.tmp 12))⟩, ⟨(.some 176), (.some (173, .false)), .false, (.load .true 6 (.tmp 175))⟩, ⟨(.some 177), (.some (173, .false)), .false, (.faddr 7 (.tmp 12))⟩, ⟨(.some 178), (.some (173, .false)), .false, (.load .false 1 (.tmp 177))⟩, ⟨(.some 179), (.some (173, .false)), .false, (.call (.lit (.func 40 [])) [(.tmp 174), (.tmp 176), (.tmp 178)])⟩, ⟨(.some 180), (.some (173, .false)), .false, (.mov (.tmp 16))⟩, ⟨(.some 181), (.some (173, .false)), .false, (.faddr 1 (.tmp 12))⟩, ⟨(.some 182), (.some (173, .false)), .false, (.load .true 6 (.tmp 181))⟩, ⟨(.some 183), (.some (173, .false)), .false, (.faddr 7 (.tmp 12))⟩, ⟨(.some 184), (.some (173, .false)), .false, (.load .false 1 (.tmp 183))⟩, ⟨(.some 185), (.some (173, .false)), .false, (.call (.lit (.func 41 [])) [(.tmp 180), (.tmp 182), (.tmp 184)])⟩, ⟨(.some 186), (.some (173, .false)), .false, (.bin .neq (.tmp 179) (.tmp 185))⟩, ⟨(.some 187), .none, .false, (.pick (.tmp 173) (.lit (.bool .true)) (.tmp 186))⟩]) (.cond (.tmp 187) (.seq (.ops .false [⟨(.some 8), .none, .false, (.mov (.lit (.bool .false)))⟩]) .ret) .skip)) t_feluccalaw09_LedgerTells_s1)
def t_feluccalaw09_LedgerTells_s3 : C := (.seq (.seq (.ops .false [⟨(.some 119), .none, .false, (.faddr 0 (.tmp 12))⟩, ⟨(.some 120), .none, .false, (.load .false 1 (.tmp 119))⟩, ⟨(.some 121), .none, .false, (.bin .eql (.tmp 120) (.lit (.int .i64 3)))⟩]) (.cond (.tmp 121) (.seq (.ops .false [⟨(.some 122), .none, .false, (.mov (.tmp 10))⟩, ⟨(.some 123), .none, .false, (.mov (.tmp 2))⟩, ⟨(.some 124), .none, .true, (.call (.lit (.func 34 [])) [(.tmp 122), (.tmp 123)])⟩, ⟨(.some 14), .none, .false, (.mov (.tmp 124))⟩]) (.ops .false [⟨(.some 125), .none, .false, (.mov (.tmp 10))⟩, ⟨(.some 126), .none, .false, (.mov (.tmp 2))⟩, ⟨(.some 127), .none, .false, (.call (.lit (.func 35 [])) [(.tmp 125), (.tmp 126)])⟩, ⟨(.some 16), .none, .false, (.mov (.tmp 127))⟩])) .skip)) t_feluccalaw09_LedgerTells_s2)
def t_feluccalaw09_LedgerTells_s4 : C := (.seq (.block 1 (.seq (.ops .false [⟨(.some 64), .none, .false, (.mov (.tmp 1))⟩, ⟨(.some 65), .none, .false, (.mov (.tmp 11))⟩, ⟨(.some 66), .none, .false, (.iaddrS 9 (.tmp 64) (.tmp 65))⟩, ⟨(.some 67), .none, .false, (.load .true 9 (.tmp 66))⟩, ⟨(.some 12), .none, .false, (.alloc [(.int .i64 0), (.int .i64 0), (.int .i64 0), (.int .i64 0), (.int .i64 0), (.int .i64 0), (.int .i64 0), (.int .i64 0), (.int .i64 0)])⟩, ⟨.none, .none, .false, (.store 9 (.tmp 12) (.tmp 67))⟩]) (.seq (.ops .false [⟨(.some 68), .none, .false, (.mov (.tmp 10))⟩, ⟨(.some 69), .none, .false, (.call (.lit (.func 29 [])) [(.tmp 68)])⟩, ⟨(.some 13), .none, .false, (.mov (.tmp 69))⟩]) (.seq (.ops .false [⟨(.some 71), .none, .false, (.mov (.tmp 10))⟩, ⟨(.some 72), .none, .false, (.faddr 1 (.tmp 12))⟩, ⟨(.some 73), .none, .false, (.faddr 0 (.tmp 72))⟩, ⟨(.some 74), .none, .false, (.load .false 1 (.tmp 73))⟩, ⟨(.some 75), .none, .false, (.faddr 7 (.tmp 12))⟩, ⟨(.some 76), .none, .false, (.load .false 1 (.tmp 75))⟩, ⟨(.some 77), .none, .false, (.faddr 8 (.tmp 12))⟩, ⟨(.some 78), .none, .false, (.load .false 1 (.tmp 77))⟩, ⟨(.some 79), .none, .true, (.call (.lit (.func 30 [])) [(.tmp 71), (.tmp 74), (.tmp 76), (.tmp 78)])⟩, ⟨(.some 70), .none, .false, (.mov (.tmp 79))⟩, ⟨(.some 80), .none, .false, (.extract (.tmp 70) 0)⟩, ⟨(.some 81), .none, .false, (.extract (.tmp 70) 1)⟩, ⟨(.some 14), .none, .false, (.mov (.tmp 80))⟩, ⟨(.some 15), .none, .false, (.mov (.tmp 81))⟩]) (.seq (.ops .false [⟨(.some 83), .none, .false, (.mov (.tmp 10))⟩, ⟨(.some 84), .none, .false, (.faddr 1 (.tmp 12))⟩, ⟨(.some 85), .none, .false, (.faddr 0 (.tmp 84))⟩, ⟨(.some 86), .none, .false, (.load .false 1 (.tmp 85))⟩, ⟨(.some 87), .none, .false, (.faddr 7 (.tmp 12))⟩, ⟨(.some 88), .none, .false, (.load .false 1 (.tmp 87))⟩, ⟨(.some 89), .none, .false, (.faddr 8 (.tmp 12))⟩, ⟨(.some 90), .none, .false, (.load .false 1 (.tmp 89))⟩, ⟨(.some 91), .none, .false, (.call (.lit (.func 31 [])) [(.tmp 83), (.tmp 86), (.tmp 88), (.tmp 90)])⟩, ⟨(.some 82), .none, .false, (.mov (.tmp 91))⟩, ⟨(.some 92), .none, .false, (.extract (.tmp 82) 0)⟩, ⟨(.some 93), .none, .false, (.extract (.tmp 82) 1)⟩, ⟨(.some 16), .none, .false, (.mov (.tmp 92))⟩, ⟨(.some 17), .none, .false, (.mov (.tmp 93))⟩]) (.seq (.seq (.ops .false [⟨(.some 94), .none, .false, (.faddr 0 (.tmp 12))⟩, ⟨(.some 95), .none, .false, (.load .false 1 (.tmp 94))⟩, ⟨(.some 96), .none, .false, (.bin .eql (.tmp 95) (.lit (.int .i64 1)))⟩]) (.cond (.tmp 96) (.seq (.ops .false [⟨(.some 98), .none, .false, (.mov (.tmp 10))⟩, ⟨(.some 99), .none, .false, (.faddr 1 (.tmp 12))⟩, ⟨(.some 100), .none, .false, (.load .true 6 (.tmp 99))⟩, ⟨(.some 101), .none, .false, (.faddr 7 (.tmp 12))⟩, ⟨(.some 102), .none, .false, (.load .false 1 (.tmp 101))⟩, ⟨(.some 103), .none, .false, (.faddr 8 (.tmp 12))⟩, ⟨(.some 104), .none, .false, (.load .false 1 (.tmp 103))⟩, ⟨(.some 105), .none, .true, (.call (.lit (.func 32 [])) [(.tmp 98), (.tmp 100), (.tmp 102), (.tmp 104)])⟩, ⟨(.some 97), .none, .false, (.mov (.tmp 105))⟩, ⟨(.some 106), .none, .false, (.extract (.tmp 97) 0)⟩, ⟨(.some 107), .none, .false, (.extract (.tmp 97) 1)⟩, ⟨(.some 14), .none, .false, (.mov (.tmp 106))⟩, ⟨(.some 15), .none, .false, (.mov (.tmp 107))⟩]) (.ops .false [⟨(.some 109), .none, .false, (.mov (.tmp 10))⟩, ⟨(.some 110), .none, .false, (.faddr 1 (.tmp 12))⟩, ⟨(.some 111), .none, .false, (.load .true 6 (.tmp 110))⟩, ⟨(.some 112), .none, .false, (.faddr 7 (.tmp 12))⟩, ⟨(.some 113), .none, .false, (.load .false 1 (.tmp 112))⟩, ⟨(.some 114), .none, .false, (.faddr 8 (.tmp 12))⟩, ⟨(.some 115), .none, .false, (.load .false 1 (.tmp 114))⟩, ⟨(.some 116), .none, .false, (.call (.lit (.func 33 [])) [(.tmp 109), (.tmp 111), (.tmp 113), (.tmp 115)])⟩, ⟨(.some 108), .none, .false, (.mov (.tmp 116))⟩, ⟨(.some 117), .none, .false, (.extract (.tmp 108) 0)⟩, ⟨(.some 118), .none, .false, (.extract (.tmp 108) 1)⟩, ⟨(.some 16), .none, .false, (.mov (.tmp 117))⟩, ⟨(.some 17), .none, .false, (.mov (.tmp 118))⟩])) .skip)) t_feluccalaw09_LedgerTells_s3)))))) (.ops .false [⟨(.some 62), .none, .false, (.mov (.tmp 11))⟩, ⟨(.some 63), .none, .false, (.bin .add (.tmp 62) (.lit (.int .i64 1)))⟩, ⟨(.some 11), .none, .false, (.mov (.tmp 63))⟩]))
def t_feluccalaw09_LedgerTells_s5 : C := (.seq (.ops .false [⟨(.some 200), .none, .false, (.mov (.tmp 9))⟩, ⟨(.some 8), .none, .false, (.mov (.tmp 200))⟩]) .ret)
def t_feluccalaw09_LedgerTells_s6 : C := (.seq (.ops .false [⟨(.some 57), .none, .false, (.mov (.tmp 0))⟩, ⟨(.some 10), .none, .false, (.mov (.tmp 57))⟩]) (.seq (.seq (.ops .false [⟨(.some 11), .none, .false, (.mov (.lit (.int .i64 0)))⟩]) (.block 0 (.loop (.seq (.seq (.ops .false [⟨(.some 58), .none, .false, (.mov (.tmp 11))⟩, ⟨(.some 59), .none, .false, (.mov (.tmp 1))⟩, ⟨(.some 60), .none, .false, (.lenS (.tmp 59))⟩, ⟨(.some 61), .none, .false, (.bin .lss (.tmp 58) (.tmp 60))⟩]) (.cond (.tmp 61) .skip (.exit 0))) t_feluccalaw09_LedgerTells_s4)))) t_feluccalaw09_LedgerTells_s5))
def t_feluccalaw09_LedgerTells_s7 : C := (.seq (.seq (.ops .false [⟨(.some 53), .none, .false, (.mov (.tmp 0))⟩, ⟨(.some 54), .none, .false, (.call (.lit (.func 26 [])) [(.tmp 53)])⟩, ⟨(.some 55), .none, .false, (.not (.tmp 54))⟩]) (.cond (.tmp 55) (.seq (.ops .false [⟨(.some 56), .none, .false, (.mov (.tmp 9))⟩, ⟨(.some 8), .none, .false, (.mov (.tmp 56))⟩]) .ret) .skip)) t_feluccalaw09_LedgerTells_s6)
def t_feluccalaw09_LedgerTells_s8 : C := (.seq (.seq (.ops .false [⟨(.some 39), .none, .false, (.mov (.tmp 0))⟩, ⟨(.some 40), .none, .false, (.call (.lit (.func 25 [])) [(.tmp 39)])⟩, ⟨(.some 41), .none, .false, (.mov (.tmp 0))⟩, ⟨(.some 42), .none, .false, (.call (.lit (.func 26 [])) [(.tmp 41)])⟩, ⟨(.some 43), .none, .false, (.eqlB .true (.tmp 40) (.tmp 42))⟩, ⟨(.some 44), .none, .false, (.mov (.tmp 43))⟩, ⟨(.some 45), (.some (44, .false)), .false, (.mov (.tmp 0))⟩, ⟨(.some 46), (.some (44, .false)), .false, (.mov (.tmp 3))⟩, ⟨(.some 47), (.some (44, .false)), .false, (.call (.lit (.func 27 [])) [(.tmp 45), (.tmp 46)])⟩, ⟨(.some 48), (.some (44, .false)), .false, (.mov (.tmp 0))⟩, ⟨(.some 49), (.some (44, .false)), .false, (.mov (.tmp 3))⟩, ⟨(.some 50), (.some (44, .false)), .false, (.call (.lit (.func 28 [])) [(.tmp 48), (.tmp 49)])⟩, ⟨(.some 51), (.some (44, .false)), .false, (.eqlB .true (.tmp 47) (.tmp 50))⟩, ⟨(.some 52), .none, .false, (.pick (.tmp 44) (.lit (.bool .true)) (.tmp 51))⟩]) (.cond (.tmp 52) (.seq (.ops .false [⟨(.some 8), .none, .false, (.mov (.lit (.bool .false)))⟩]) .ret) .skip)) t_feluccalaw09_LedgerTells_s7)
section
variable {Γ : Nat → Option FD} {ρ : Nat → D} {st : Store} {dr : Bool} {R : (Nat → D) → Store → List Fl → Prop} {l : List Op1} {g : Option (Nat × Bool)} {mv : Bool} {k : Nat} {x y : A}
theorem W_neqBc (hg : guardV ρ g = some true) (hm : mv = false) {t u v : Bool} (hx : x.ev ρ = .bool t) (hy : y.ev ρ = .bool u) (hv : (t != u) = v) (h : WS Γ dr l (upd ρ k (.bool v)) st (nx .n R)) : WS Γ dr (⟨some k, g, mv, .eqlB true x y⟩ :: l) ρ st R := by
  subst hv
  exact W_neqB hg hm hx hy h
end
theorem bne_same (e : Bool) : (e != e) = false := by cases e <;> rfl
theorem eleB (b : Bk) : Ele 4 b.e := ⟨rfl, rfl, rfl⟩
theorem eqAt3t (a b c : Int) : eqAt [.int .i64 a, .int .i64 b, .int .i64 c] [.int .i64 a, .int .i64 b, .int .i64 c] [0, 1, 2] = some true := by
  rw [eqAt3]
  simp
theorem r_Same1 (a : List Bk) (hl : a.length ≤ 1073741824) (t t' : Tok) (sa sb : Nat) (ha : sa = 4 ∨ a = []) (hb : sb = 4 ∨ a = []) : EvP Γ 28 [.slice t sa (a.map Bk.e), .slice t' sb (a.map Bk.e)] (.bool true) := by
  have h := r_Same a a hl t t' sa sb ha hb
  rwa [decide_eq_true rfl] at h
/-- What is written at the end of an act: the row that was handed back. -/
theorem l_wr (q n c : Nat) (hn : n ≤ 1073741824) : ∀ (m i : Nat), n - i = m → i ≤ n → ∀ (ρ : Nat → D) (st : Store) (cs : List D), st.boxes q = some (.row cs) → st.lim ≤ q → n * 4 ≤ cs.length →
    ρ 14 = .rs q 0 4 n c → ρ 18 = .int .i64 i → ∀ (v1 v2 v9 v10 v11 : D), ρ 1 = v1 → ρ 2 = v2 → ρ 9 = v9 → ρ 10 = v10 → ρ 11 = v11 → ∀ (Q : X → (Nat → D) → Store → Prop),
    (∀ ρ' st', st'.lim = st.lim → st'.tlim = st.tlim → st'.ntok = st.ntok → ρ' 1 = v1 → ρ' 2 = v2 → ρ' 9 = v9 → ρ' 10 = v10 → ρ' 11 = v11 → Q (.exit 2) ρ' st') → WC Γ (.loop c_feluccalaw09_LedgerTells_l0) ρ st Q := by
  intro m
  induction m with
  | zero =>
    intro i hm hi ρ st cs hb hl hlen h14 h18 v1 v2 v9 v10 v11 h1 h2 h9 h10 h11 Q hQ
    rw [← upd_self h1, ← upd_self h2, ← upd_self h9, ← upd_self h10, ← upd_self h11, ← upd_self h14, ← upd_self h18]
    refine WC_loop ?_
    repeat' (first
 | (refine I_WS ?_; first
 | (refine I_mov ?_; first
 | refine W_mov (v := .int _ _) rfl rfl rfl ?_
 | refine W_mov (v := .rs _ _ _ _ _) rfl rfl rfl ?_)
 | (refine I_bin ?_; first
 | refine W_lssF rfl rfl rfl rfl (by omega) ?_)
 | refine W_lenR rfl rfl rfl ?_
 | refine WS_nil ?_)
 | refine WC_seq ?_
 | refine WC_opsS ?_
 | refine WC_condF rfl ?_
 | refine WC_exit ?_)
    exact hQ _ _ rfl rfl rfl rfl rfl rfl rfl rfl
  | succ m ih =>
    intro i hm hi ρ st cs hb hl hlen h14 h18 v1 v2 v9 v10 v11 h1 h2 h9 h10 h11 Q hQ
    have hlt : (i : Int) < n := by omega
    have hoff : 0 + i * 4 + 0 + 1 ≤ cs.length := by omega
    have hnext : ∀ (ρ' : Nat → D) (st' : Store) (cs' : List D), st'.boxes q = some (.row cs') → st'.lim = st.lim → st'.tlim = st.tlim → st'.ntok = st.ntok → cs'.length = cs.length → ρ' 14 = .rs q 0 4 n c → ρ' 18 = .int .i64 ((i : Int) + 1) → ρ' 1 = v1 → ρ' 2 = v2 → ρ' 9 = v9 → ρ' 10 = v10 → ρ' 11 = v11 → WC Γ (.loop c_feluccalaw09_LedgerTells_l0) ρ' st' Q := fun ρ' st' cs' e1 e2 e3 e4 e5 e14 e18 k1 k2 k9 k10 k11 =>
      ih (i + 1) (by omega) (by omega) ρ' st' cs' e1 (by omega) (by omega) e14 e18 v1 v2 v9 v10 v11 k1 k2 k9 k10 k11 Q (fun ρ'' st'' f1 f2 f3 => hQ ρ'' st'' (f1.trans e2) (f2.trans e3) (f3.trans e4))
    clear ih hQ
    rw [← upd_self h1, ← upd_self h2, ← upd_self h9, ← upd_self h10, ← upd_self h11, ← upd_self h14, ← upd_self h18]
    refine WC_loop ?_
    repeat' (first
 | (refine I_WS ?_; first
 | (refine W_storeCell rfl rfl rfl hb hl hoff rfl rfl rfl ?_ <;> intro cs' hcs')
 | (refine I_mov ?_; first
 | refine W_mov (v := .int _ _) rfl rfl rfl ?_
 | refine W_mov (v := .rs _ _ _ _ _) rfl rfl rfl ?_)
 | (refine I_bin ?_; first
 | refine W_lssT rfl rfl rfl rfl (by omega) ?_
 | refine W_add rfl rfl rfl rfl (by first | exact w64 (by omega) | rfl) ?_)
 | refine W_lenR rfl rfl rfl ?_
 | refine W_faddr rfl rfl rfl ?_
 | refine W_iaddrR rfl rfl rfl rfl (by first | decide | omega) ?_
 | refine WS_nil ?_)
 | refine WC_seq ?_
 | refine WC_opsS ?_
 | refine WC_skip ?_
 | refine WC_condT rfl ?_
 | refine WC_block ?_)
    exact hnext _ _ cs' (upd_same _ _ _) rfl rfl rfl hcs' rfl rfl rfl rfl rfl rfl rfl
set_option maxHeartbeats 16000000 in
/-- What is held against the reference, and what is written. -/
theorem l_s2 (pm x : List Bk) (a : Ac) (hI : Inv pm) (hpl : pm.length ≤ 1000) (hxl : x.length ≤ 1000) (e : Bool) (hen : -9223372036854775808 ≤ a.c.en ∧ a.c.en ≤ 9223372036854775807)
    (ρ : Nat → D) (st : Store) (b : Nat) (tx tq tw : Tok) (sx sq sw : Nat) (d : D) (hx : sx = 4 ∨ x = []) (hq : sq = 4 ∨ pm = []) (hw : sw = 4 ∨ x = []) (hlim : st.lim ≤ 0)
    (hbb : (st.boxes b).bind Box.cs = some [.int .i64 a.do', .int .i64 a.c.id, .int .i64 a.c.fr, .int .i64 a.c.to, .int .i64 a.c.st, .int .i64 a.c.en, .int .i64 a.c.ra, .int .i64 a.k, .int .i64 a.n]) (hP : PK Bk.e 4 st d pm)
    (v1 v2 v9 v11 : D) (h1 : ρ 1 = v1) (h2 : ρ 2 = v2) (h9 : ρ 9 = v9) (h10 : ρ 10 = .slice tx sx (x.map Bk.e)) (h11 : ρ 11 = v11) (h12 : ρ 12 = .ptr b 0) (h13 : ρ 13 = .slice tw sw (x.map Bk.e)) (h14 : ρ 14 = d) (h15 : ρ 15 = .bool e) (h16 : ρ 16 = .slice tq sq (pm.map Bk.e)) (h17 : ρ 17 = .bool e)
    (Q : X → (Nat → D) → Store → Prop)
    (hQ : ∀ ρ' st' t s, (s = 4 ∨ pm = []) → st'.lim ≤ 0 → ρ' 1 = v1 → ρ' 2 = v2 → ρ' 9 = v9 → ρ' 10 = .slice t s (pm.map Bk.e) → ρ' 11 = v11 → Q .normal ρ' st') : WC Γ t_feluccalaw09_LedgerTells_s2 ρ st Q := by
  have hlb : st.lim ≤ b := Nat.le_trans hlim (Nat.zero_le _)
  have hSP := fun t t' s s' h h' => r_Same1 pm (by omega) t t' s s' h h'
  have hSX := fun t t' s s' h h' => r_Same1 x (by omega) t t' s s' h h'
  have hU := fun t s h => s_Used pm a.c.id hI.1 (by omega) t s h
  have hU' := fun t s h => r_Used pm a.c.id (by omega) t s h
  have hB := fun t s h => s_Backlog pm a.c.id a.k hI.1 (by omega) (by rw [row_get hI.1]; exact hI.getU _) t s h
  have hB' := fun t s h => r_Backlog pm a.c.id a.k (by omega) (hI.getU _) t s h
  have hR := fun t s h => s_Room pm a.c.id a.c.fr a.c.to a.c.st a.c.en a.c.ra a.k hen hI.1 (by omega) (by rw [row_get hI.1]; exact hI.getU _) t s h
  have hR' := fun t s h => r_Room pm a.c a.k (by omega) (hI.getU _) t s h
  have hCp := fun t s h => r_Copy pm (by omega) t s h
  have hrm : room pm a.c.id a.c.fr a.c.to a.c.st a.c.en a.c.ra a.k = roomB (getB pm a.c.id) a.c a.k := roomM_B hI a.c a.k
  rw [row_get hI.1] at hU hB
  rw [hrm] at hR
  clear hrm hI
  generalize roomB (getB pm a.c.id) a.c a.k = rm at *
  generalize bkl (getB pm a.c.id) a.k = bk at *
  generalize getB pm a.c.id = r at *
  rcases hP with ⟨rfl, t0, s0, rfl, ht0⟩ | ⟨q, n, c, rfl, rfl, hRI⟩
  · rw [← upd_self h1, ← upd_self h2, ← upd_self h9, ← upd_self h10, ← upd_self h11, ← upd_self h12, ← upd_self h13, ← upd_self h14, ← upd_self h15, ← upd_self h16, ← upd_self h17]
    have hlen0 : ([] : List D).length = 0 := rfl
    repeat' (first
 | (refine I_WS ?_; first
 | refine W_neqBc rfl rfl rfl rfl (bne_same _) ?_
 | refine W_neqP rfl rfl rfl rfl rfl rfl (eqAt3t _ _ _) (fun _ => ?_) (fun h => by cases h)
 | refine W_neqF rfl rfl rfl rfl rfl ?_
 | (refine I_mov ?_; first
 | refine W_mov (v := .int _ _) rfl rfl rfl ?_
 | refine W_mov (v := .bool _) rfl rfl rfl ?_
 | refine W_mov (v := .slice _ _ _) rfl rfl rfl ?_)
 | (refine I_bin ?_; first
 | refine W_lssF rfl rfl rfl rfl (by omega) ?_)
 | (refine I_load ?_; first
 | refine W_load (agg := false) (d := .int _ _) rfl rfl rfl hbb hlb rfl ?_
 | refine W_load (agg := true) (d := .agg [_, _, _, _, _, _]) rfl rfl rfl hbb hlb rfl ?_)
 | (refine I_call ?_; first
 | refine W_call rfl rfl rfl (hSP _ _ _ _ (.inr rfl) (.inr rfl)) rfl rfl ?_
 | refine W_call rfl rfl rfl (hSX _ _ _ _ hx hw) rfl rfl ?_
 | refine W_call rfl rfl rfl (hU _ _ (.inr rfl)) rfl rfl ?_
 | refine W_call rfl rfl rfl (hU' _ _ (.inr rfl)) rfl rfl ?_
 | refine W_call rfl rfl rfl (hB _ _ (.inr rfl)) rfl rfl ?_
 | refine W_call rfl rfl rfl (hB' _ _ (.inr rfl)) rfl rfl ?_
 | refine W_call rfl rfl rfl (hR _ _ (.inr rfl)) rfl rfl ?_
 | refine W_call rfl rfl rfl (hR' _ _ (.inr rfl)) rfl rfl ?_
 | (refine W_callN rfl rfl rfl ((hCp _ _ (.inr rfl)).mono fun _ h => h.n) rfl ?_ <;> intro tc sc hc1 hc2))
 | (refine I_pick ?_; first
 | refine W_pick (v := .bool _) rfl rfl rfl rfl ?_)
 | refine W_not rfl rfl rfl ?_
 | refine W_lenS rfl rfl rfl ?_
 | refine W_faddr rfl rfl rfl ?_
 | refine WS_nil ?_)
 | refine okF_intro (okFlags_onlyR rfl) ?_
 | refine WC_loop (b := c_feluccalaw09_LedgerTells_l0) ?_
 | refine WC_seq ?_
 | refine WC_opsS ?_
 | refine WC_drawS ?_
 | refine WC_skip ?_
 | refine WC_condF rfl ?_
 | refine WC_block ?_
 | refine WC_exit ?_)
    exact hQ _ _ _ _ hc1 hlim rfl rfl rfl rfl rfl
  · have hRA := hRI.at
    rw [← upd_self h1, ← upd_self h2, ← upd_self h9, ← upd_self h10, ← upd_self h11, ← upd_self h12, ← upd_self h13, ← upd_self h14, ← upd_self h15, ← upd_self h16, ← upd_self h17]
    repeat' (first
 | (refine I_WS ?_; first
 | refine W_neqBc rfl rfl rfl rfl (bne_same _) ?_
 | refine W_neqP rfl rfl rfl rfl rfl rfl (eqAt3t _ _ _) (fun _ => ?_) (fun h => by cases h)
 | refine W_neqF rfl rfl rfl rfl rfl ?_
 | (refine I_mov ?_; first
 | refine W_mov (v := .int _ _) rfl rfl rfl ?_
 | refine W_mov (v := .bool _) rfl rfl rfl ?_
 | refine W_mov (v := .slice _ _ _) rfl rfl rfl ?_
 | refine W_mov (v := .rs _ _ _ _ _) rfl rfl rfl ?_)
 | (refine I_load ?_; first
 | refine W_load (agg := false) (d := .int _ _) rfl rfl rfl hbb hlb rfl ?_
 | refine W_load (agg := true) (d := .agg [_, _, _, _, _, _]) rfl rfl rfl hbb hlb rfl ?_)
 | (refine I_call ?_; first
 | refine W_call rfl rfl rfl (hSX _ _ _ _ hx hw) rfl rfl ?_
 | refine W_call rfl rfl rfl (hU' _ _ hq) rfl rfl ?_
 | refine W_call rfl rfl rfl (hB' _ _ hq) rfl rfl ?_
 | refine W_call rfl rfl rfl (hR' _ _ hq) rfl rfl ?_
 | refine W_callU rfl rfl rfl hRA rfl (by decide) eleB rfl rfl (hSP _ _ _ _ (.inl rfl) hq) rfl rfl rfl ?_
 | refine W_callU rfl rfl rfl hRA rfl (by decide) eleB rfl rfl (hU _ _ (.inl rfl)) rfl rfl rfl ?_
 | refine W_callU rfl rfl rfl hRA rfl (by decide) eleB rfl rfl (hB _ _ (.inl rfl)) rfl rfl rfl ?_
 | refine W_callU rfl rfl rfl hRA rfl (by decide) eleB rfl rfl (hR _ _ (.inl rfl)) rfl rfl rfl ?_
 | (refine W_callUN rfl rfl rfl hRA rfl (by decide) eleB rfl rfl (hCp _ _ (.inl rfl)) rfl ?_ <;> intro tc sc hc1 hc2))
 | (refine I_pick ?_; first
 | refine W_pick (v := .bool _) rfl rfl rfl rfl ?_)
 | refine W_not rfl rfl rfl ?_
 | refine W_faddr rfl rfl rfl ?_
 | refine WS_nil ?_)
 | refine okF_intro (okFlags_onlyR rfl) ?_
 | refine WC_seq ?_
 | refine WC_opsS ?_
 | refine WC_drawS ?_
 | refine WC_skip ?_
 | refine WC_condF rfl ?_
 | refine WC_block ?_)
    obtain ⟨hl1, hl2, cs, hcs1, hcs2, _⟩ := hRI
    refine l_wr q pm.length c (by omega) pm.length 0 (by omega) (by omega) _ _ cs hcs1 hl1 (by simpa using hcs2) ?_ ?_ v1 v2 v9 (.slice tc sc (pm.map Bk.e)) v11 ?_ ?_ ?_ ?_ ?_ _ (fun ρ' st' e1 e2 e3 k1 k2 k9 k10 k11 => ?_)
    all_goals first
      | exact hQ _ _ _ _ hc1 (by rw [e1]; exact hlim) k1 k2 k9 k10 k11
      | rfl
end Go.Let

/-
  LedgerTells, as the evaluator runs it: the acts, and the whole.
-/
namespace Go.Let
open Go.Ev
set_option linter.unusedVariables false
set_option linter.unusedSimpArgs false
theorem rel_len' {l : List Bk} (h : Inv l) (id k n : Int) : (relM l id k n).length ≤ l.length + 1 := rel_len h id k n
set_option maxHeartbeats 16000000 in
theorem l_tells (acts : List Ac) (ha : ∀ a ∈ acts, -9223372036854775808 ≤ a.c.en ∧ a.c.en ≤ 9223372036854775807) (h50 : acts.length ≤ 50) (ids : List Int) (hid : ids.length ≤ 50) : ∀ (post pre : List Ac) (x : List Bk), acts = pre ++ post → Inv x → x.length ≤ 50 + pre.length →
    ∀ (ρ : Nat → D) (st : Store) (tx : Tok) (sx : Nat), st.lim ≤ 0 → (sx = 4 ∨ x = []) → ρ 1 = .slice .no 9 (acts.map Ac.e) → ρ 2 = .slice .no 1 (ids.map (D.int .i64)) → ρ 9 = .bool true → ρ 10 = .slice tx sx (x.map Bk.e) → ρ 11 = .int .i64 pre.length → ∀ (Q : X → (Nat → D) → Store → Prop),
    (∀ ρ' st', ρ' 9 = .bool true → Q (.exit 0) ρ' st') → WC Γ (.loop c_feluccalaw09_LedgerTells_l1) ρ st Q := by
  intro post
  induction post with
  | nil =>
    intro pre x hp hI hxl ρ st tx sx hlim hsx h1 h2 h9 h10 h11 Q hQ
    rw [List.append_nil] at hp
    subst hp
    rw [← upd_self h1, ← upd_self h2, ← upd_self h9, ← upd_self h10, ← upd_self h11]
    refine WC_loop ?_
    repeat' (first
 | (refine I_WS ?_; first
 | (refine I_mov ?_; first
 | refine W_mov (v := .int _ _) rfl rfl rfl ?_
 | refine W_mov (v := .slice _ _ _) rfl rfl rfl ?_)
 | (refine I_bin ?_; first
 | refine W_lssF rfl rfl rfl rfl (by omega) ?_)
 | refine W_lenM rfl rfl rfl ?_
 | refine WS_nil ?_)
 | refine WC_seq ?_
 | refine WC_opsS ?_
 | refine WC_condF rfl ?_
 | refine WC_exit ?_)
    exact hQ _ _ rfl
  | cons a post ih =>
    intro pre x hp hI hxl ρ st tx sx hlim hsx h1 h2 h9 h10 h11 Q hQ
    have hv := at_mid hp
    have hlen : acts.length = pre.length + (post.length + 1) := by rw [hp]; simp
    have hpl : pre.length < (acts.map Ac.e).length := by simp; omega
    have hltl : (pre.length : Int) < acts.length := by omega
    have hen := ha a (by rw [hp]; simp)
    have hlim2 : st.lim ≤ st.next := by omega
    have hx1 : x.length ≤ 1000 := by omega
    have hCp := fun t s h => r_Copy x (by omega) t s h
    have hRl := fun t s h => s_Release x a.c.id a.k a.n hI.1 (by omega) (hI.rowU _) t s h
    have hRl' := fun t s h => r_Release x a.c.id a.k a.n hI (by omega) t s h
    have hBk := fun t s h => s_Book x a.c a.k a.n hen hI.1 (by omega) (hI.rowU _) t s h
    have hBk' := fun t s h => r_Book x a.c a.k a.n hI (by omega) t s h
    have hDr := fun t s h => s_Drop ids (by omega) .no 1 (.inl rfl) x (by omega) t s h
    have hDr' := fun t s h => r_Drop ids x (by omega) (by omega) t .no s 1 h (.inl rfl)
    have hIr := hI.rel a.c.id a.k a.n
    have hLr := rel_len' hI a.c.id a.k a.n
    have hIb := hI.book a.c a.k a.n
    have hLb := book_len hI a.c a.k a.n
    have hIk := hI.keep ids
    have hLk := keepL_le ids x
    have hnext : ∀ (y : List Bk), Inv y → y.length ≤ x.length + 1 → ∀ (ρ' : Nat → D) (st' : Store) (t : Tok) (s : Nat), st'.lim ≤ 0 → (s = 4 ∨ y = []) → ρ' 1 = .slice .no 9 (acts.map Ac.e) → ρ' 2 = .slice .no 1 (ids.map (D.int .i64)) → ρ' 9 = .bool true → ρ' 10 = .slice t s (y.map Bk.e) → ρ' 11 = .int .i64 ((pre.length : Int) + 1) → WC Γ (.loop c_feluccalaw09_LedgerTells_l1) ρ' st' Q := fun y q1 q2 ρ' st' t s e1 e2 k1 k2 k9 k10 k11 =>
      ih (pre ++ [a]) y (by simp [hp]) q1 (by simp; omega) ρ' st' t s e1 e2 k1 k2 k9 k10 (by rw [List.length_append]; exact k11) Q hQ
    clear ih hQ ha hI hp
    generalize relM x a.c.id a.k a.n = yr at *
    generalize bookM x a.c a.k a.n = yb at *
    generalize keepL ids x = yk at *
    generalize decide (relC x a.c.id a.k a.n) = er at *
    generalize decide (bookC x a.c a.k a.n) = eb at *
    have hr1 : yr.length ≤ 1000 := by omega
    have hb1 : yb.length ≤ 1000 := by omega
    have hk1 : yk.length ≤ 1000 := by omega
    have hk2 : yk.length ≤ x.length + 1 := by omega
    rw [← upd_self h1, ← upd_self h2, ← upd_self h9, ← upd_self h10, ← upd_self h11]
    refine WC_loop ?_
    by_cases hd1 : a.do' = 1
    · have hd3 : ¬ a.do' = 3 := by omega
      repeat' (first
 | (refine I_WS ?_; first
 | refine W_iaddr (j := pre.length) rfl rfl rfl rfl rfl hpl ?_
 | refine W_store (cs' := [_, _, _, _, _, _, _, _, _]) rfl rfl (upd_same _ _ _) rfl hlim2 rfl rfl rfl ?_
 | refine W_extract (d := d3) rfl rfl rfl rfl ?_
 | refine W_mov (v := d3) rfl rfl rfl ?_
 | refine W_extract (d := d2) rfl rfl rfl rfl ?_
 | refine W_mov (v := d2) rfl rfl rfl ?_
 | (refine I_mov ?_; first
 | refine W_mov (v := .int _ _) rfl rfl rfl ?_
 | refine W_mov (v := .bool _) rfl rfl rfl ?_
 | refine W_mov (v := .slice _ _ _) rfl rfl rfl ?_
 | refine W_mov (v := .tuple _) rfl rfl rfl ?_)
 | (refine I_bin ?_; first
 | refine W_lssT rfl rfl rfl rfl (by omega) ?_
 | refine W_eqlT rfl rfl rfl rfl (by omega) ?_
 | refine W_eqlF rfl rfl rfl rfl (by omega) ?_
 | refine W_add rfl rfl rfl rfl (by first | exact w64 (by omega) | rfl) ?_)
 | (refine I_load ?_; first
 | refine W_loadE (agg := true) (d := .agg [_, _, _, _, _, _, _, _, _]) rfl rfl rfl hv rfl ?_
 | refine W_load (agg := false) (d := .int _ _) rfl rfl rfl hbb3 hlb3 rfl ?_
 | refine W_load (agg := true) (d := .agg [_, _, _, _, _, _]) rfl rfl rfl hbb3 hlb3 rfl ?_
 | refine W_load (agg := false) (d := .int _ _) rfl rfl rfl hbb2 hlb2 rfl ?_
 | refine W_load (agg := true) (d := .agg [_, _, _, _, _, _]) rfl rfl rfl hbb2 hlb2 rfl ?_
 | refine W_load (agg := false) (d := .int _ _) rfl rfl rfl (bxc rfl) (by first | exact Nat.zero_le _ | assumption | exact Nat.le_trans hlim (Nat.zero_le _) | omega) rfl ?_)
 | (refine I_call ?_; first
 | (refine W_callN rfl rfl rfl ((hCp _ _ hsx).mono fun _ h => h.n) rfl ?_ <;> intro tw sw hw1 hw2)
 | (refine W_callTR rfl rfl rfl (hRl _ _ hsx) rfl rfl elemB (Nat.le_succ_of_le hlim2) ?_; intro st2 d2 e1 _ _ _ hP2 hoth2 hnx2; have hbb2 : (st2.boxes st.next).bind Box.cs = some [.int .i64 a.do', .int .i64 a.c.id, .int .i64 a.c.fr, .int .i64 a.c.to, .int .i64 a.c.st, .int .i64 a.c.en, .int .i64 a.c.ra, .int .i64 a.k, .int .i64 a.n] := (congrArg (fun b => Option.bind b Box.cs) (hoth2 st.next (Nat.lt_succ_self _))).trans (bxc rfl); have hlb2 : st2.lim ≤ st.next := Nat.le_trans (Nat.le_of_eq e1) hlim2; have hll2 : st2.lim ≤ st2.next := Nat.le_trans hlb2 (Nat.le_trans (Nat.le_succ _) hnx2); have hbn2 : st.next < st2.next := hnx2; have hl2 : st2.lim ≤ 0 := Nat.le_trans (Nat.le_of_eq e1) hlim)
 | (refine W_callT rfl rfl rfl (hRl' _ _ hsx) rfl ?_; intro tq sq hq1 tk2 nt2)
 | (refine W_callTR rfl rfl rfl (hBk _ _ hsx) rfl rfl elemB hll2 ?_; intro st3 d3 e2 _ _ _ hP3 hoth3 hnx3; have hbb3 : (st3.boxes st.next).bind Box.cs = some [.int .i64 a.do', .int .i64 a.c.id, .int .i64 a.c.fr, .int .i64 a.c.to, .int .i64 a.c.st, .int .i64 a.c.en, .int .i64 a.c.ra, .int .i64 a.k, .int .i64 a.n] := (congrArg (fun b => Option.bind b Box.cs) (hoth3 st.next hbn2)).trans hbb2; have hlb3 : st3.lim ≤ st.next := Nat.le_trans (Nat.le_of_eq e2) hlb2; have hl3 : st3.lim ≤ 0 := Nat.le_trans (Nat.le_of_eq e2) hl2)
 | (refine W_callT rfl rfl rfl (hBk' _ _ hsx) rfl ?_; intro tq2 sq2 hq2 tk3 nt3))
 | (refine I_extract ?_; first
 | refine W_extract (d := .bool _) rfl rfl rfl rfl ?_
 | refine W_extract (d := .slice _ _ _) rfl rfl rfl rfl ?_)
 | refine W_lenM rfl rfl rfl ?_
 | refine W_faddr rfl rfl rfl ?_
 | refine W_alloc rfl rfl ?_
 | refine WS_nil ?_)
 | (refine l_s2 yb x a hIb hb1 hx1 eb hen _ { st3 with toks := tk3, ntok := nt3 } st.next tx tq2 tw sx sq2 sw d3 hsx hq2 hw1 hl3 hbb3 hP3 (.slice .no 9 (acts.map Ac.e)) (.slice .no 1 (ids.map (D.int .i64))) (.bool true) (.int .i64 pre.length) ?_ ?_ ?_ ?_ ?_ ?_ ?_ ?_ ?_ ?_ ?_ _ ?_ <;> first | rfl | (intro ρ' st' t' s' hs' e1' k1 k2 k9 k10 k11; rw [← upd_self k1, ← upd_self k2, ← upd_self k9, ← upd_self k10, ← upd_self k11]))
 | refine WC_seq ?_
 | refine WC_opsS ?_
 | refine WC_skip ?_
 | refine WC_condT rfl ?_
 | refine WC_condF rfl ?_
 | refine WC_block ?_)
      exact hnext yb hIb hLb _ _ _ _ e1' hs' rfl rfl rfl rfl rfl
    · by_cases hd3 : a.do' = 3
      · repeat' (first
 | (refine I_WS ?_; first
 | refine W_iaddr (j := pre.length) rfl rfl rfl rfl rfl hpl ?_
 | refine W_store (cs' := [_, _, _, _, _, _, _, _, _]) rfl rfl (upd_same _ _ _) rfl hlim2 rfl rfl rfl ?_
 | refine W_mov (v := d3) rfl rfl rfl ?_
 | refine W_extract (d := d2) rfl rfl rfl rfl ?_
 | refine W_mov (v := d2) rfl rfl rfl ?_
 | (refine I_mov ?_; first
 | refine W_mov (v := .int _ _) rfl rfl rfl ?_
 | refine W_mov (v := .bool _) rfl rfl rfl ?_
 | refine W_mov (v := .slice _ _ _) rfl rfl rfl ?_
 | refine W_mov (v := .tuple _) rfl rfl rfl ?_)
 | (refine I_bin ?_; first
 | refine W_lssT rfl rfl rfl rfl (by omega) ?_
 | refine W_eqlT rfl rfl rfl rfl (by omega) ?_
 | refine W_eqlF rfl rfl rfl rfl (by omega) ?_
 | refine W_add rfl rfl rfl rfl (by first | exact w64 (by omega) | rfl) ?_)
 | (refine I_load ?_; first
 | refine W_loadE (agg := true) (d := .agg [_, _, _, _, _, _, _, _, _]) rfl rfl rfl hv rfl ?_
 | refine W_load (agg := false) (d := .int _ _) rfl rfl rfl hbb2 hlb2 rfl ?_
 | refine W_load (agg := false) (d := .int _ _) rfl rfl rfl (bxc rfl) (by first | exact Nat.zero_le _ | assumption | exact Nat.le_trans hlim (Nat.zero_le _) | omega) rfl ?_)
 | (refine I_call ?_; first
 | (refine W_callN rfl rfl rfl ((hCp _ _ hsx).mono fun _ h => h.n) rfl ?_ <;> intro tw sw hw1 hw2)
 | (refine W_callTR rfl rfl rfl (hRl _ _ hsx) rfl rfl elemB (Nat.le_succ_of_le hlim2) ?_; intro st2 d2 e1 _ _ _ hP2 hoth2 hnx2; have hbb2 : (st2.boxes st.next).bind Box.cs = some [.int .i64 a.do', .int .i64 a.c.id, .int .i64 a.c.fr, .int .i64 a.c.to, .int .i64 a.c.st, .int .i64 a.c.en, .int .i64 a.c.ra, .int .i64 a.k, .int .i64 a.n] := (congrArg (fun b => Option.bind b Box.cs) (hoth2 st.next (Nat.lt_succ_self _))).trans (bxc rfl); have hlb2 : st2.lim ≤ st.next := Nat.le_trans (Nat.le_of_eq e1) hlim2; have hll2 : st2.lim ≤ st2.next := Nat.le_trans hlb2 (Nat.le_trans (Nat.le_succ _) hnx2); have hbn2 : st.next < st2.next := hnx2; have hl2 : st2.lim ≤ 0 := Nat.le_trans (Nat.le_of_eq e1) hlim)
 | (refine W_callT rfl rfl rfl (hRl' _ _ hsx) rfl ?_; intro tq sq hq1 tk2 nt2)
 | (refine W_callR rfl rfl rfl (hDr _ _ hsx) rfl rfl elemB hll2 ?_; intro st3 d3 e2 _ _ _ hP3 hoth3 hnx3; have hbb3 : (st3.boxes st.next).bind Box.cs = some [.int .i64 a.do', .int .i64 a.c.id, .int .i64 a.c.fr, .int .i64 a.c.to, .int .i64 a.c.st, .int .i64 a.c.en, .int .i64 a.c.ra, .int .i64 a.k, .int .i64 a.n] := (congrArg (fun b => Option.bind b Box.cs) (hoth3 st.next hbn2)).trans hbb2; have hl3 : st3.lim ≤ 0 := Nat.le_trans (Nat.le_of_eq e2) hl2)
 | (refine W_callS rfl rfl rfl (hDr' _ _ hsx) rfl ?_; intro tq2 sq2 hq2 tk3 nt3))
 | (refine I_extract ?_; first
 | refine W_extract (d := .bool _) rfl rfl rfl rfl ?_
 | refine W_extract (d := .slice _ _ _) rfl rfl rfl rfl ?_)
 | refine W_lenM rfl rfl rfl ?_
 | refine W_faddr rfl rfl rfl ?_
 | refine W_alloc rfl rfl ?_
 | refine WS_nil ?_)
 | (refine l_s2 yk x a hIk hk1 hx1 er hen _ { st3 with toks := tk3, ntok := nt3 } st.next tx tq2 tw sx sq2 sw d3 hsx hq2 hw1 hl3 hbb3 hP3 (.slice .no 9 (acts.map Ac.e)) (.slice .no 1 (ids.map (D.int .i64))) (.bool true) (.int .i64 pre.length) ?_ ?_ ?_ ?_ ?_ ?_ ?_ ?_ ?_ ?_ ?_ _ ?_ <;> first | rfl | (intro ρ' st' t' s' hs' e1' k1 k2 k9 k10 k11; rw [← upd_self k1, ← upd_self k2, ← upd_self k9, ← upd_self k10, ← upd_self k11]))
 | refine WC_seq ?_
 | refine WC_opsS ?_
 | refine WC_skip ?_
 | refine WC_condT rfl ?_
 | refine WC_condF rfl ?_
 | refine WC_block ?_)
        exact hnext yk hIk hk2 _ _ _ _ e1' hs' rfl rfl rfl rfl rfl
      · repeat' (first
 | (refine I_WS ?_; first
 | refine W_iaddr (j := pre.length) rfl rfl rfl rfl rfl hpl ?_
 | refine W_store (cs' := [_, _, _, _, _, _, _, _, _]) rfl rfl (upd_same _ _ _) rfl hlim2 rfl rfl rfl ?_
 | refine W_extract (d := d2) rfl rfl rfl rfl ?_
 | refine W_mov (v := d2) rfl rfl rfl ?_
 | (refine I_mov ?_; first
 | refine W_mov (v := .int _ _) rfl rfl rfl ?_
 | refine W_mov (v := .bool _) rfl rfl rfl ?_
 | refine W_mov (v := .slice _ _ _) rfl rfl rfl ?_
 | refine W_mov (v := .tuple _) rfl rfl rfl ?_)
 | (refine I_bin ?_; first
 | refine W_lssT rfl rfl rfl rfl (by omega) ?_
 | refine W_eqlF rfl rfl rfl rfl (by omega) ?_
 | refine W_add rfl rfl rfl rfl (by first | exact w64 (by omega) | rfl) ?_)
 | (refine I_load ?_; first
 | refine W_loadE (agg := true) (d := .agg [_, _, _, _, _, _, _, _, _]) rfl rfl rfl hv rfl ?_
 | refine W_load (agg := false) (d := .int _ _) rfl rfl rfl hbb2 hlb2 rfl ?_
 | refine W_load (agg := false) (d := .int _ _) rfl rfl rfl (bxc rfl) (by first | exact Nat.zero_le _ | assumption | exact Nat.le_trans hlim (Nat.zero_le _) | omega) rfl ?_)
 | (refine I_call ?_; first
 | (refine W_callN rfl rfl rfl ((hCp _ _ hsx).mono fun _ h => h.n) rfl ?_ <;> intro tw sw hw1 hw2)
 | (refine W_callTR rfl rfl rfl (hRl _ _ hsx) rfl rfl elemB (Nat.le_succ_of_le hlim2) ?_; intro st2 d2 e1 _ _ _ hP2 hoth2 hnx2; have hbb2 : (st2.boxes st.next).bind Box.cs = some [.int .i64 a.do', .int .i64 a.c.id, .int .i64 a.c.fr, .int .i64 a.c.to, .int .i64 a.c.st, .int .i64 a.c.en, .int .i64 a.c.ra, .int .i64 a.k, .int .i64 a.n] := (congrArg (fun b => Option.bind b Box.cs) (hoth2 st.next (Nat.lt_succ_self _))).trans (bxc rfl); have hlb2 : st2.lim ≤ st.next := Nat.le_trans (Nat.le_of_eq e1) hlim2; have hl2 : st2.lim ≤ 0 := Nat.le_trans (Nat.le_of_eq e1) hlim)
 | (refine W_callT rfl rfl rfl (hRl' _ _ hsx) rfl ?_; intro tq sq hq1 tk2 nt2))
 | (refine I_extract ?_; first
 | refine W_extract (d := .bool _) rfl rfl rfl rfl ?_
 | refine W_extract (d := .slice _ _ _) rfl rfl rfl rfl ?_)
 | refine W_lenM rfl rfl rfl ?_
 | refine W_faddr rfl rfl rfl ?_
 | refine W_alloc rfl rfl ?_
 | refine WS_nil ?_)
 | (refine l_s2 yr x a hIr hr1 hx1 er hen _ { st2 with toks := tk2, ntok := nt2 } st.next tx tq tw sx sq sw d2 hsx hq1 hw1 hl2 hbb2 hP2 (.slice .no 9 (acts.map Ac.e)) (.slice .no 1 (ids.map (D.int .i64))) (.bool true) (.int .i64 pre.length) ?_ ?_ ?_ ?_ ?_ ?_ ?_ ?_ ?_ ?_ ?_ _ ?_ <;> first | rfl | (intro ρ' st' t' s' hs' e1' k1 k2 k9 k10 k11; rw [← upd_self k1, ← upd_self k2, ← upd_self k9, ← upd_self k10, ← upd_self k11]))
 | refine WC_seq ?_
 | refine WC_opsS ?_
 | refine WC_skip ?_
 | refine WC_condT rfl ?_
 | refine WC_condF rfl ?_
 | refine WC_block ?_)
        exact hnext yr hIr hLr _ _ _ _ e1' hs' rfl rfl rfl rfl rfl
set_option maxHeartbeats 8000000 in
theorem run_Tells (l : List Bk) (acts : List Ac) (ids : List Int) (o : List Bk) (ha : ∀ a ∈ acts, -9223372036854775808 ≤ a.c.en ∧ a.c.en ≤ 9223372036854775807) : EvP Γ 7 [.slice .no 4 (l.map Bk.e), .slice .no 9 (acts.map Ac.e), .slice .no 1 (ids.map (D.int .i64)), .slice .no 4 (o.map Bk.e)] (.bool true) := by
  refine EvP_code rfl rfl ?_
  by_cases hf : l.length ≤ 50 ∧ acts.length ≤ 50 ∧ ids.length ≤ 50 ∧ o.length ≤ 50
  · obtain ⟨f1, f2, f3, f4⟩ := hf
    have hR := s_Right l (by omega) .no 4 (.inl rfl)
    have hR' := r_Right l (by omega) .no 4 (.inl rfl)
    have hS := s_Same l o (by omega) .no .no 4 4 (.inl rfl) (.inl rfl)
    have hS' := r_Same l o (by omega) .no .no 4 4 (.inl rfl) (.inl rfl)
    generalize decide (l = o) = q at hS hS'
    have hI := rt_inv l
    cases hrt : rt 0 l with
    | false =>
      rw [hrt] at hR hR'
      repeat' (first
 | (refine I_WS ?_; first
 | refine W_lenM rfl rfl rfl ?_
 | refine W_neqBc rfl rfl rfl rfl (bne_same _) ?_
 | (refine I_mov ?_; first
 | refine W_mov (v := .bool _) rfl rfl rfl ?_
 | refine W_mov (v := .slice _ _ _) rfl rfl rfl ?_)
 | (refine I_bin ?_; first
 | refine W_gtrF rfl rfl rfl rfl (by omega) ?_)
 | (refine I_call ?_; first
 | refine W_call rfl rfl rfl s_small rfl rfl ?_
 | refine W_call rfl rfl rfl hR rfl rfl ?_
 | refine W_call rfl rfl rfl hR' rfl rfl ?_
 | refine W_call rfl rfl rfl hS rfl rfl ?_
 | refine W_call rfl rfl rfl hS' rfl rfl ?_)
 | (refine I_pick ?_; first
 | refine W_pick (v := .bool _) rfl rfl rfl rfl ?_)
 | refine W_not rfl rfl rfl ?_
 | refine WS_nil ?_)
 | refine WC_seq ?_
 | refine WC_opsS ?_
 | refine WC_skip ?_
 | refine WC_condT rfl ?_
 | refine WC_condF rfl ?_
 | refine WC_ret ?_)
      all_goals exact fin_bool (.inr rfl) rfl rfl
    | true =>
      rw [hrt] at hR hR'
      have hInv := hI.mp hrt
      repeat' (first
 | (refine I_WS ?_; first
 | refine W_lenM rfl rfl rfl ?_
 | refine W_neqBc rfl rfl rfl rfl (bne_same _) ?_
 | (refine I_mov ?_; first
 | refine W_mov (v := .int _ _) rfl rfl rfl ?_
 | refine W_mov (v := .bool _) rfl rfl rfl ?_
 | refine W_mov (v := .slice _ _ _) rfl rfl rfl ?_)
 | (refine I_bin ?_; first
 | refine W_gtrF rfl rfl rfl rfl (by omega) ?_)
 | (refine I_call ?_; first
 | refine W_call rfl rfl rfl s_small rfl rfl ?_
 | refine W_call rfl rfl rfl hR rfl rfl ?_
 | refine W_call rfl rfl rfl hR' rfl rfl ?_
 | refine W_call rfl rfl rfl hS rfl rfl ?_
 | refine W_call rfl rfl rfl hS' rfl rfl ?_)
 | (refine I_pick ?_; first
 | refine W_pick (v := .bool _) rfl rfl rfl rfl ?_)
 | refine W_not rfl rfl rfl ?_
 | refine WS_nil ?_)
 | refine WC_seq ?_
 | refine WC_opsS ?_
 | refine WC_skip ?_
 | refine WC_condF rfl ?_
 | refine WC_block ?_)
      refine l_tells acts ha f2 ids f3 acts [] l rfl hInv (by simpa using f1) _ _ .no 4 (Nat.le_refl _) (.inl rfl) ?_ ?_ ?_ ?_ ?_ _ (fun ρ' st' h9 => ?_)
      · rfl
      · rfl
      · rfl
      · rfl
      · rfl
      rw [← upd_self h9]
      repeat' (first
 | (refine I_WS ?_; first
 | (refine I_mov ?_; first
 | refine W_mov (v := .bool _) rfl rfl rfl ?_)
 | refine WS_nil ?_)
 | refine WC_seq ?_
 | refine WC_opsS ?_
 | refine WC_ret ?_)
      exact fin_bool (.inr rfl) rfl rfl
  · by_cases f1 : l.length ≤ 50
    · by_cases f2 : acts.length ≤ 50
      · by_cases f3 : ids.length ≤ 50
        · have f4 : ¬ o.length ≤ 50 := fun h => hf ⟨f1, f2, f3, h⟩
          repeat' (first
 | (refine I_WS ?_; first
 | refine W_lenM rfl rfl rfl ?_
 | (refine I_mov ?_; first
 | refine W_mov (v := .bool _) rfl rfl rfl ?_
 | refine W_mov (v := .slice _ _ _) rfl rfl rfl ?_)
 | (refine I_bin ?_; first
 | refine W_gtrT rfl rfl rfl rfl (by omega) ?_
 | refine W_gtrF rfl rfl rfl rfl (by omega) ?_)
 | (refine I_call ?_; first
 | refine W_call rfl rfl rfl s_small rfl rfl ?_)
 | (refine I_pick ?_; first
 | refine W_pick (v := .bool _) rfl rfl rfl rfl ?_)
 | refine WS_nil ?_)
 | refine WC_seq ?_
 | refine WC_opsS ?_
 | refine WC_condT rfl ?_
 | refine WC_ret ?_)
          all_goals exact fin_bool (.inr rfl) rfl rfl
        · repeat' (first
 | (refine I_WS ?_; first
 | refine W_lenM rfl rfl rfl ?_
 | (refine I_mov ?_; first
 | refine W_skip rfl ?_
 | refine W_mov (v := .bool _) rfl rfl rfl ?_
 | refine W_mov (v := .slice _ _ _) rfl rfl rfl ?_)
 | (refine I_bin ?_; first
 | refine W_skip rfl ?_
 | refine W_gtrT rfl rfl rfl rfl (by omega) ?_
 | refine W_gtrF rfl rfl rfl rfl (by omega) ?_)
 | (refine I_call ?_; first
 | refine W_call rfl rfl rfl s_small rfl rfl ?_)
 | (refine I_pick ?_; first
 | refine W_pick (v := .bool _) rfl rfl rfl rfl ?_)
 | refine W_skip rfl ?_
 | refine WS_nil ?_)
 | refine WC_seq ?_
 | refine WC_opsS ?_
 | refine WC_condT rfl ?_
 | refine WC_ret ?_)
          all_goals exact fin_bool (.inr rfl) rfl rfl
      · repeat' (first
 | (refine I_WS ?_; first
 | refine W_lenM rfl rfl rfl ?_
 | (refine I_mov ?_; first
 | refine W_skip rfl ?_
 | refine W_mov (v := .bool _) rfl rfl rfl ?_
 | refine W_mov (v := .slice _ _ _) rfl rfl rfl ?_)
 | (refine I_bin ?_; first
 | refine W_skip rfl ?_
 | refine W_gtrT rfl rfl rfl rfl (by omega) ?_
 | refine W_gtrF rfl rfl rfl rfl (by omega) ?_)
 | (refine I_call ?_; first
 | refine W_call rfl rfl rfl s_small rfl rfl ?_)
 | (refine I_pick ?_; first
 | refine W_pick (v := .bool _) rfl rfl rfl rfl ?_)
 | refine W_skip rfl ?_
 | refine WS_nil ?_)
 | refine WC_seq ?_
 | refine WC_opsS ?_
 | refine WC_condT rfl ?_
 | refine WC_ret ?_)
        all_goals exact fin_bool (.inr rfl) rfl rfl
    · repeat' (first
 | (refine I_WS ?_; first
 | refine W_lenM rfl rfl rfl ?_
 | (refine I_mov ?_; first
 | refine W_skip rfl ?_
 | refine W_mov (v := .bool _) rfl rfl rfl ?_
 | refine W_mov (v := .slice _ _ _) rfl rfl rfl ?_)
 | (refine I_bin ?_; first
 | refine W_skip rfl ?_
 | refine W_gtrT rfl rfl rfl rfl (by omega) ?_)
 | (refine I_call ?_; first
 | refine W_call rfl rfl rfl s_small rfl rfl ?_)
 | (refine I_pick ?_; first
 | refine W_pick (v := .bool _) rfl rfl rfl rfl ?_)
 | refine W_skip rfl ?_
 | refine WS_nil ?_)
 | refine WC_seq ?_
 | refine WC_opsS ?_
 | refine WC_condT rfl ?_
 | refine WC_ret ?_)
      all_goals exact fin_bool (.inr rfl) rfl rfl
end Go.Let
