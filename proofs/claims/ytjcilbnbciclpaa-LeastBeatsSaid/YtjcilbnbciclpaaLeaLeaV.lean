/-
  The best route, as the code finds it.
-/
import Derived.Test.YtjcilbnbciclpaaLeaLeaE
import Derived.Test.YtjcilbnbciclpaaLeaLeaE
import Derived.Test.YtjcilbnbciclpaaEvEvX4
set_option linter.unusedVariables false
set_option linter.unusedSimpArgs false
set_option linter.unnecessarySimpa false

namespace Go.Lea
open Go.Ev
set_option linter.unusedVariables false
set_option linter.unusedSimpArgs false
theorem few_len {l : List Eg} {fr to now a sz : Int} {shut : List Int} {n : Nat} (h : fewM l fr to now a sz shut = some n) : n ≤ l.length := by
  unfold fewM at h
  split at h
  · have := (few_some _ _ _ h).2.1
    omega
  · cases h
set_option maxHeartbeats 16000000 in
theorem l_go (l : List Eg) (hll : l.length ≤ 900) (to sz by' : Int) (shut : List Int) (hsl : shut.length ≤ 1000000) (t t' : Tok) (s s' : Nat) (hs : s = 8 ∨ l = []) (hs' : s' = 1 ∨ shut = []) (arr : Int) (z : List D) : ∀ (k : Nat), k ≤ 1000 → ∀ (node now : Int) (out : List Hp) (tk : Tok) (so : Nat) (ρ : Nat → D) (st : Store), out.length + k ≤ 1000 → st.lim ≤ 0 → 3 ≤ st.next → st.tlim ≤ st.ntok → AppOK st 3 tk so (out.map Hp.e) → st.boxes 0 = some (.cells z) → st.boxes 1 = some (.cells [.slice t s (l.map Eg.e), .int .i64 to, .int .i64 sz, .int .i64 by', .slice t' s' (shut.map (D.int .i64))]) → st.boxes 2 = some (.cells [.slice tk so (out.map Hp.e), .int .i64 arr]) →
    ρ 14 = .ptr 0 0 → ρ 17 = .bool true → ρ 18 = .int .i64 k → ρ 19 = .ptr 1 0 → ρ 20 = .ptr 2 0 → ρ 21 = .int .i64 node → ρ 22 = .int .i64 now → ∀ (Q : X → (Nat → D) → Store → Prop),
    (∀ es, goM l to by' sz shut k node now = some es → ∀ ρ' st' tk' so', st'.lim = st.lim → st'.boxes 0 = some (.cells z) → (so' = 3 ∨ out ++ hopsW sz es now = []) → st'.boxes 2 = some (.cells [.slice tk' so' ((out ++ hopsW sz es now).map Hp.e), .int .i64 arr]) → ρ' 14 = .ptr 0 0 → ρ' 17 = .bool true → ρ' 20 = .ptr 2 0 → Q (.exit 0) ρ' st') → (goM l to by' sz shut k node now = none → ∀ ρ' st', st'.lim = st.lim → st'.boxes 0 = some (.cells z) → ρ' 14 = .ptr 0 0 → ρ' 17 = .bool false → Q (.exit 0) ρ' st') → WC Γ2 (.loop c_least_Route_l0) ρ st Q := by
  intro k
  induction k with
  | zero =>
    intro hk node now out tk so ρ st hol hlim hnx htl hO hb0 hb1 hb2 h14 h17 h18 h19 h20 h21 h22 Q hQ hQ2
    rw [← upd_self h14, ← upd_self h17, ← upd_self h18, ← upd_self h19, ← upd_self h20, ← upd_self h21, ← upd_self h22]
    refine WC_loop ?_
    repeat' (first
 | (refine I_WS ?_; first
 | (refine I_mov ?_; first
 | refine W_mov (v := .int _ _) rfl rfl rfl ?_
 | refine W_mov (v := .bool _) rfl rfl rfl ?_)
 | (refine I_bin ?_; first
 | refine W_gtrF rfl rfl rfl rfl (by omega) ?_)
 | (refine I_pick ?_; first
 | refine W_pick (v := .bool _) rfl rfl rfl rfl ?_)
 | refine WS_nil ?_)
 | refine WC_seq ?_
 | refine WC_opsS ?_
 | refine WC_condF rfl ?_
 | refine WC_exit ?_)
    refine hQ [] rfl _ _ tk so rfl hb0 ?_ (by simpa [hopsW] using hb2) rfl rfl rfl
    rcases hO with ⟨_, h | ⟨_, h⟩⟩ | ⟨_, _, _, _, h⟩
    · exact .inl h
    · exact .inr (by simpa [hopsW] using h)
    · exact .inl h
  | succ k ih =>
    intro hk node now out tk so ρ st hol hlim hnx htl hO hb0 hb1 hb2 h14 h17 h18 h19 h20 h21 h22 Q hQ hQ2
    have hgt : (0 : Int) < ((k + 1 : Nat) : Int) := by omega
    have hw : IntKind.i64.wrap (((k + 1 : Nat) : Int) - 1) = (k : Int) := by rw [w64 (by omega)]; omega
    have hN := fun t t' => s_next l hll to sz by' shut hsl node now k t t' s s' hs hs'
    have hlim2 : st.lim ≤ st.next := by omega
    have hl1 : st.lim ≤ 1 := by omega
    have hl2 : st.lim ≤ 2 := by omega
    have hn0 : 0 ≠ st.next := by omega
    have hn1 : 1 ≠ st.next := by omega
    have hn2 : 2 ≠ st.next := by omega
    have hN1 : (st.next == 2) = false := by simp; omega
    have hN2 : (2 == st.next) = false := by simp; omega
    have q1 : ∀ {x : Option Box}, ((upd st.boxes st.next x) 1).bind Box.cs = some [.slice t s (l.map Eg.e), .int .i64 to, .int .i64 sz, .int .i64 by', .slice t' s' (shut.map (D.int .i64))] := fun {x} => by rw [upd_ne _ _ hn1, hb1]; rfl
    have q1' : ∀ {x y : Option Box}, upd (upd st.boxes st.next x) st.next y 1 = some (.cells [.slice t s (l.map Eg.e), .int .i64 to, .int .i64 sz, .int .i64 by', .slice t' s' (shut.map (D.int .i64))]) := fun {x y} => (upd_ne _ _ hn1).trans ((upd_ne _ _ hn1).trans hb1)
    have q0' : ∀ {x y : Option Box}, upd (upd st.boxes st.next x) st.next y 0 = some (.cells z) := fun {x y} => (upd_ne _ _ hn0).trans ((upd_ne _ _ hn0).trans hb0)
    have q2 : ∀ {x y : Option Box}, ((upd (upd st.boxes st.next x) st.next y) 2).bind Box.cs = some [.slice tk so (out.map Hp.e), .int .i64 arr] := fun {x y} => by rw [upd_ne _ _ hn2, upd_ne _ _ hn2, hb2]; rfl
    have q2' : ∀ {x y : Option Box}, upd (upd st.boxes st.next x) st.next y 2 = some (.cells [.slice tk so (out.map Hp.e), .int .i64 arr]) := fun {x y} => (upd_ne _ _ hn2).trans ((upd_ne _ _ hn2).trans hb2)
    have qh : ∀ {x : Option Box} {a b c : Int}, ((upd (upd st.boxes st.next x) st.next (some (.cells [.int .i64 a, .int .i64 b, .int .i64 c]))) st.next).bind Box.cs = some [.int .i64 a, .int .i64 b, .int .i64 c] := fun {x a b c} => by rw [upd_same]; rfl
    have hbd : ∀ a b c : Int, ((out.map Hp.e).length + [D.agg [.int .i64 a, .int .i64 b, .int .i64 c]].length) * 24 ≤ 140737488355328 := fun a b c => by simp; omega
    have hgo : goM l to by' sz shut (k + 1) node now = match nextM l to by' sz shut node now k with
      | none => none
      | some e => (goM l to by' sz shut k e.to (thereE e now sz)).map (e :: ·) := rfl
    rw [hgo] at hQ hQ2
    clear hgo
    unfold nextD at hN
    cases hn : nextM l to by' sz shut node now k with
    | none =>
      rw [hn] at hN hQ2
      have hQ2 := hQ2 rfl
      clear ih hQ hn
      rw [← upd_self h14, ← upd_self h17, ← upd_self h18, ← upd_self h19, ← upd_self h20, ← upd_self h21, ← upd_self h22]
      refine WC_loop ?_
      repeat' (first
 | (refine I_WS ?_; first
 | refine W_sub (s := (k : Int)) rfl rfl rfl rfl hw ?_
 | refine W_store (cs' := [_, _, _]) rfl rfl (upd_same _ _ _) rfl hlim2 rfl rfl rfl ?_
 | (refine W_app rfl rfl rfl hO (.inl rfl) (hbd _ _ _) htl rfl ?_; intro k' st' c1 c2 c3 c4 c5 c6 c7)
 | refine W_store (cs' := [_, _]) rfl rfl ((congrFun c1 2).trans q2') rfl (c3 ▸ hl2) rfl rfl rfl ?_
 | (refine I_mov ?_; first
 | refine W_mov (v := .int _ _) rfl rfl rfl ?_
 | refine W_mov (v := .bool _) rfl rfl rfl ?_
 | refine W_mov (v := .tuple _) rfl rfl rfl ?_)
 | (refine I_bin ?_; first
 | refine W_gtrT rfl rfl rfl rfl (by omega) ?_)
 | (refine I_load ?_; first
 | refine W_load (agg := true) (d := .agg [_, _, _, _, _]) rfl rfl rfl q1 hl1 rfl ?_
 | refine W_load (agg := false) (d := .slice _ _ _) rfl rfl rfl q2 hl2 rfl ?_
 | refine W_load (agg := true) (d := .agg [_, _, _]) rfl rfl rfl qh hlim2 rfl ?_
 | refine W_load (agg := false) (d := .int _ _) rfl rfl rfl ((congrArg (Option.bind · Box.cs) (congrFun c1 _)).trans qh) (c3 ▸ hlim2) rfl ?_)
 | (refine I_call ?_; first
 | refine W_call rfl rfl rfl (hN _ _) rfl rfl ?_)
 | (refine I_pick ?_; first
 | refine W_pick (v := .bool _) rfl rfl rfl rfl ?_)
 | (refine I_extract ?_; first
 | refine W_extract (d := .int _ _) rfl rfl rfl rfl ?_
 | refine W_extract (d := .bool _) rfl rfl rfl rfl ?_
 | refine W_extract (d := .agg _) rfl rfl rfl rfl ?_)
 | refine W_faddr rfl rfl rfl ?_
 | refine W_alloc rfl rfl ?_
 | refine W_bslice (ys := [_]) rfl rfl rfl (by decide) rfl ?_
 | refine WS_nil ?_)
 | refine okF_intro (by simp [okFlags, List.range, List.range.loop, Fl.clash, hN1, hN2]) ?_
 | refine WC_seq ?_
 | refine WC_opsS ?_
 | refine WC_drawS ?_
 | refine WC_skip ?_
 | refine WC_condT rfl ?_
 | refine WC_block ?_)
      refine WC_loop ?_
      repeat' (first
 | (refine I_WS ?_; first
 | (refine I_mov ?_; first
 | refine W_skip rfl ?_
 | refine W_mov (v := .bool _) rfl rfl rfl ?_)
 | (refine I_bin ?_; first
 | refine W_skip rfl ?_)
 | (refine I_pick ?_; first
 | refine W_pick (v := .bool _) rfl rfl rfl rfl ?_)
 | refine WS_nil ?_)
 | refine WC_seq ?_
 | refine WC_opsS ?_
 | refine WC_condF rfl ?_
 | refine WC_exit ?_)
      refine hQ2 _ _ ?_ ?_ ?_ ?_
      · exact c3
      · exact (congrFun c1 0).trans q0'
      all_goals rfl
    | some e =>
      rw [hn] at hN hQ hQ2
      simp only at hN hQ hQ2
      have hnext : ∀ (tk' : Tok) (so' : Nat) (ρ' : Nat → D) (st' : Store), st'.lim = st.lim → 3 ≤ st'.next → st'.tlim ≤ st'.ntok → AppOK st' 3 tk' so' (out.map Hp.e ++ [.agg [.int .i64 e.id, .int .i64 (mx now e.op), .int .i64 (thereE e now sz)]]) → st'.boxes 0 = some (.cells z) → st'.boxes 1 = some (.cells [.slice t s (l.map Eg.e), .int .i64 to, .int .i64 sz, .int .i64 by', .slice t' s' (shut.map (D.int .i64))]) → st'.boxes 2 = some (.cells [.slice tk' so' (out.map Hp.e ++ [.agg [.int .i64 e.id, .int .i64 (mx now e.op), .int .i64 (thereE e now sz)]]), .int .i64 arr]) →
          ρ' 14 = .ptr 0 0 → ρ' 17 = .bool true → ρ' 18 = .int .i64 k → ρ' 19 = .ptr 1 0 → ρ' 20 = .ptr 2 0 → ρ' 21 = .int .i64 e.to → ρ' 22 = .int .i64 (thereE e now sz) → WC Γ2 (.loop c_least_Route_l0) ρ' st' Q := fun tk' so' ρ' st' g1 g2 g3 g4 g5 g6 g7 k14 k17 k18 k19 k20 k21 k22 => by
        have hm : (out ++ [hop1 e now sz]).map Hp.e = out.map Hp.e ++ [.agg [.int .i64 e.id, .int .i64 (mx now e.op), .int .i64 (thereE e now sz)]] := by rw [List.map_append]; rfl
        have hh : ∀ es, out ++ [hop1 e now sz] ++ hopsW sz es (thereE e now sz) = out ++ hopsW sz (e :: es) now := fun es => by rw [hopsW, List.append_assoc]; rfl
        refine ih (by omega) e.to (thereE e now sz) (out ++ [hop1 e now sz]) tk' so' ρ' st' (by simp; omega) (by omega) g2 g3 (by rw [hm]; exact g4) g5 g6 (by rw [hm]; exact g7) k14 k17 k18 k19 k20 k21 k22 Q (fun es he ρ2 st2 tk2 so2 f1 f2 f3 f4 => ?_) (fun he ρ2 st2 f1 => hQ2 (by rw [he]; rfl) ρ2 st2 (f1.trans g1))
        rw [hh] at f3 f4
        exact hQ (e :: es) (by rw [he]; rfl) ρ2 st2 tk2 so2 (f1.trans g1) f2 f3 f4
      clear ih hn hQ hQ2
      rw [← upd_self h14, ← upd_self h17, ← upd_self h18, ← upd_self h19, ← upd_self h20, ← upd_self h21, ← upd_self h22]
      generalize thereE e now sz = th at *
      generalize mx now e.op = sd at *
      refine WC_loop ?_
      repeat' (first
 | (refine I_WS ?_; first
 | refine W_sub (s := (k : Int)) rfl rfl rfl rfl hw ?_
 | refine W_store (cs' := [_, _, _]) rfl rfl (upd_same _ _ _) rfl hlim2 rfl rfl rfl ?_
 | (refine W_app rfl rfl rfl hO (.inl rfl) (hbd _ _ _) htl rfl ?_; intro k' st' c1 c2 c3 c4 c5 c6 c7)
 | refine W_store (cs' := [_, _]) rfl rfl ((congrFun c1 2).trans q2') rfl (c3 ▸ hl2) rfl rfl rfl ?_
 | (refine I_mov ?_; first
 | refine W_mov (v := .int _ _) rfl rfl rfl ?_
 | refine W_mov (v := .bool _) rfl rfl rfl ?_
 | refine W_mov (v := .tuple _) rfl rfl rfl ?_)
 | (refine I_bin ?_; first
 | refine W_gtrT rfl rfl rfl rfl (by omega) ?_)
 | (refine I_load ?_; first
 | refine W_load (agg := true) (d := .agg [_, _, _, _, _]) rfl rfl rfl q1 hl1 rfl ?_
 | refine W_load (agg := false) (d := .slice _ _ _) rfl rfl rfl q2 hl2 rfl ?_
 | refine W_load (agg := true) (d := .agg [_, _, _]) rfl rfl rfl qh hlim2 rfl ?_
 | refine W_load (agg := false) (d := .int _ _) rfl rfl rfl ((congrArg (Option.bind · Box.cs) (congrFun c1 _)).trans qh) (c3 ▸ hlim2) rfl ?_)
 | (refine I_call ?_; first
 | refine W_call rfl rfl rfl (hN _ _) rfl rfl ?_)
 | (refine I_pick ?_; first
 | refine W_pick (v := .bool _) rfl rfl rfl rfl ?_)
 | (refine I_extract ?_; first
 | refine W_extract (d := .int _ _) rfl rfl rfl rfl ?_
 | refine W_extract (d := .bool _) rfl rfl rfl rfl ?_
 | refine W_extract (d := .agg _) rfl rfl rfl rfl ?_)
 | refine W_faddr rfl rfl rfl ?_
 | refine W_alloc rfl rfl ?_
 | refine W_bslice (ys := [_]) rfl rfl rfl (by decide) rfl ?_
 | refine WS_nil ?_)
 | refine okF_intro (by simp [okFlags, List.range, List.range.loop, Fl.clash, hN1, hN2]) ?_
 | refine WC_seq ?_
 | refine WC_opsS ?_
 | refine WC_drawS ?_
 | refine WC_skip ?_
 | refine WC_condT rfl ?_
 | refine WC_block ?_)
      refine hnext (.own k') 3 _ _ ?_ ?_ ?_ ?_ ?_ ?_ ?_ ?_ ?_ ?_ ?_ ?_ ?_ ?_
      · exact c3
      · show 3 ≤ st'.next
        rw [show st'.next = st.next + 1 from c2]
        exact Nat.le_succ_of_le hnx
      · exact c5
      · exact .inr ⟨k', rfl, c6, c7, rfl⟩
      · exact (congrFun c1 0).trans q0'
      · exact (congrFun c1 1).trans q1'
      all_goals rfl
set_option maxHeartbeats 16000000 in
theorem s_Best (l : List Eg) (hll : l.length ≤ 900) (fr to now sz by' : Int) (shut : List Int) (hsl : shut.length ≤ 1000000) (t t' : Tok) (s s' : Nat) (hs : s = 8 ∨ l = []) (hs' : s' = 1 ∨ shut = []) (es : List Eg) (a : Int) (hB : bestM l fr to now sz by' shut = some (es, a)) :
    EvX Γ2 13 [.slice t s (l.map Eg.e), .int .i64 fr, .int .i64 to, .int .i64 now, .int .i64 sz, .int .i64 by', .slice t' s' (shut.map (D.int .i64))] (IsA Hp.e 3 (hopsW sz es now) [.int .i64 a] [.bool true]) := by
  refine EvX_code rfl rfl ?_
  have hT := fun t t' => (s_Times l (by omega) fr now sz shut (by omega) t t' s s' hs hs').grow hx2
  have hTl := times_len l fr now sz shut
  unfold bestM at hB
  generalize timesM l fr now sz shut = T at *
  cases ha : atN to T with
  | none => rw [ha] at hB; cases hB
  | some a' =>
    rw [ha] at hB
    simp only at hB
    have hA := fun t s h => s_At1 to T (by omega) a' ha t s h
    by_cases hle : by' < a'
    · rw [if_pos hle] at hB; cases hB
    · rw [if_neg hle] at hB
      have hle' : a' ≤ by' := by omega
      have hF := fun t t' => s_Fewest l hll fr to now a' sz shut hsl t t' s s' hs hs'
      cases hf : fewM l fr to now a' sz shut with
      | none => rw [hf] at hB; cases hB
      | some n =>
        rw [hf] at hB hF
        simp only at hB
        obtain ⟨es', hg, he⟩ := Option.map_eq_some_iff.1 hB
        cases he
        have hn := few_len hf
        repeat' (first
 | (refine I_WS ?_; first
 | refine W_store (cs' := [_, _]) rfl rfl rfl rfl (Nat.zero_le _) rfl rfl rfl ?_
 | refine W_store (cs' := [_, _, _, _, _]) rfl rfl rfl rfl (Nat.zero_le _) rfl rfl rfl ?_
 | (refine I_mov ?_; first
 | refine W_mov (v := .int _ _) rfl rfl rfl ?_
 | refine W_mov (v := .bool _) rfl rfl rfl ?_
 | refine W_mov (v := .slice _ _ _) rfl rfl rfl ?_
 | refine W_mov (v := .tuple _) rfl rfl rfl ?_)
 | (refine I_bin ?_; first
 | refine W_gtrF rfl rfl rfl rfl (by omega) ?_)
 | (refine I_call ?_; first
 | refine W_call rfl rfl rfl (hA _ _ hsa) rfl rfl ?_
 | refine W_call rfl rfl rfl (hF _ _) rfl rfl ?_
 | (refine W_callN rfl rfl rfl (hT _ _) rfl ?_; intro ta sa hsa hta))
 | (refine I_pick ?_; first
 | refine W_pick (v := .bool _) rfl rfl rfl rfl ?_)
 | (refine I_extract ?_; first
 | refine W_extract (d := .int _ _) rfl rfl rfl rfl ?_
 | refine W_extract (d := .bool _) rfl rfl rfl rfl ?_)
 | (refine I_build ?_; first
 | refine W_build (cs := [_, _]) rfl rfl rfl ?_
 | refine W_build (cs := [_, _, _, _, _]) rfl rfl rfl ?_)
 | refine W_not rfl rfl rfl ?_
 | refine W_alloc rfl rfl ?_
 | refine WS_nil ?_)
 | refine WC_seq ?_
 | refine WC_opsS ?_
 | refine WC_skip ?_
 | refine WC_condF rfl ?_
 | refine WC_block ?_)
        refine l_go l hll to sz a shut hsl t t' s s' hs hs' a [.slice .isnil 0 [], .int .i64 0] n (by omega) fr now [] .isnil 0 _ _ (by simp; omega) ?_ ?_ ?_ (.inl ⟨.inl rfl, .inr ⟨rfl, rfl⟩⟩) ?_ ?_ ?_ ?_ ?_ ?_ ?_ ?_ ?_ ?_ _ (fun es2 he ρ' st' tk so e1 e2 e3 e4 k14 k17 k20 => ?_) (fun he => by rw [hg] at he; cases he)
        all_goals first | rfl | exact Nat.le_refl _ | exact Nat.zero_le _ | skip
        rw [hg] at he
        cases he
        rw [List.nil_append] at e3 e4
        have e1' : st'.lim = 0 := e1
        have hl0 : st'.lim ≤ 0 := by omega
        have hl2 : st'.lim ≤ 2 := by omega
        have hbx : (st'.boxes 2).bind Box.cs = some [.slice tk so ((hopsW sz es now).map Hp.e), .int .i64 a] := by rw [e4]; rfl
        rw [← upd_self k14, ← upd_self k17, ← upd_self k20]
        repeat' (first
 | (refine I_WS ?_; first
 | refine W_store (cs' := [_, _]) rfl rfl e2 rfl hl0 rfl rfl rfl ?_
 | (refine I_mov ?_; first
 | refine W_mov (v := .bool _) rfl rfl rfl ?_)
 | (refine I_load ?_; first
 | refine W_load (agg := true) (d := .agg [_, _]) rfl rfl rfl hbx hl2 rfl ?_)
 | refine W_not rfl rfl rfl ?_
 | refine WS_nil ?_)
 | refine WC_seq ?_
 | refine WC_opsS ?_
 | refine WC_skip ?_
 | refine WC_condF rfl ?_
 | refine WC_ret ?_)
        exact finX_A (.inr rfl) (res_A (q := 0) rfl rfl hl0 rfl) rfl rfl e3 rfl rfl rfl
set_option maxHeartbeats 16000000 in
theorem s_Best0 (l : List Eg) (hll : l.length ≤ 900) (fr to now sz by' : Int) (shut : List Int) (hsl : shut.length ≤ 1000000) (t t' : Tok) (s s' : Nat) (hs : s = 8 ∨ l = []) (hs' : s' = 1 ∨ shut = []) (hB : bestM l fr to now sz by' shut = none) :
    EvP Γ2 13 [.slice t s (l.map Eg.e), .int .i64 fr, .int .i64 to, .int .i64 now, .int .i64 sz, .int .i64 by', .slice t' s' (shut.map (D.int .i64))] (.tuple [.agg [.slice .isnil 0 [], .int .i64 0], .bool false]) := by
  refine EvP_code rfl rfl ?_
  have hT := fun t t' => (s_Times l (by omega) fr now sz shut (by omega) t t' s s' hs hs').grow hx2
  have hTl := times_len l fr now sz shut
  have hi := best_iff (l := l) (fr := fr) (to := to) (now := now) (sz := sz) (by' := by') (shut := shut)
  rw [hB] at hi
  generalize timesM l fr now sz shut = T at *
  cases ha : atN to T with
  | none =>
    have hA := fun t s h => s_At0 to T (by omega) ha t s h
    repeat' (first
 | (refine I_WS ?_; first
 | refine W_store (cs' := [_, _]) rfl rfl rfl rfl (Nat.zero_le _) rfl rfl rfl ?_
 | (refine I_mov ?_; first
 | refine W_skip rfl ?_
 | refine W_mov (v := .int _ _) rfl rfl rfl ?_
 | refine W_mov (v := .bool _) rfl rfl rfl ?_
 | refine W_mov (v := .slice _ _ _) rfl rfl rfl ?_
 | refine W_mov (v := .tuple _) rfl rfl rfl ?_)
 | (refine I_bin ?_; first
 | refine W_skip rfl ?_)
 | (refine I_call ?_; first
 | refine W_call rfl rfl rfl (hA _ _ hsa) rfl rfl ?_
 | (refine W_callN rfl rfl rfl (hT _ _) rfl ?_; intro ta sa hsa hta))
 | (refine I_pick ?_; first
 | refine W_pick (v := .bool _) rfl rfl rfl rfl ?_)
 | (refine I_extract ?_; first
 | refine W_extract (d := .int _ _) rfl rfl rfl rfl ?_
 | refine W_extract (d := .bool _) rfl rfl rfl rfl ?_)
 | (refine I_build ?_; first
 | refine W_build (cs := [_, _]) rfl rfl rfl ?_)
 | refine W_not rfl rfl rfl ?_
 | refine W_alloc rfl rfl ?_
 | refine WS_nil ?_)
 | refine WC_seq ?_
 | refine WC_opsS ?_
 | refine WC_condT rfl ?_
 | refine WC_ret ?_)
    exact ⟨.inr rfl, rfl⟩
  | some a' =>
    rw [ha] at hi
    have hle : by' < a' := by simpa using hi
    have hA := fun t s h => s_At1 to T (by omega) a' ha t s h
    repeat' (first
 | (refine I_WS ?_; first
 | refine W_store (cs' := [_, _]) rfl rfl rfl rfl (Nat.zero_le _) rfl rfl rfl ?_
 | (refine I_mov ?_; first
 | refine W_mov (v := .int _ _) rfl rfl rfl ?_
 | refine W_mov (v := .bool _) rfl rfl rfl ?_
 | refine W_mov (v := .slice _ _ _) rfl rfl rfl ?_
 | refine W_mov (v := .tuple _) rfl rfl rfl ?_)
 | (refine I_bin ?_; first
 | refine W_gtrT rfl rfl rfl rfl (by omega) ?_)
 | (refine I_call ?_; first
 | refine W_call rfl rfl rfl (hA _ _ hsa) rfl rfl ?_
 | (refine W_callN rfl rfl rfl (hT _ _) rfl ?_; intro ta sa hsa hta))
 | (refine I_pick ?_; first
 | refine W_pick (v := .bool _) rfl rfl rfl rfl ?_)
 | (refine I_extract ?_; first
 | refine W_extract (d := .int _ _) rfl rfl rfl rfl ?_
 | refine W_extract (d := .bool _) rfl rfl rfl rfl ?_)
 | (refine I_build ?_; first
 | refine W_build (cs := [_, _]) rfl rfl rfl ?_)
 | refine W_not rfl rfl rfl ?_
 | refine W_alloc rfl rfl ?_
 | refine WS_nil ?_)
 | refine WC_seq ?_
 | refine WC_opsS ?_
 | refine WC_condT rfl ?_
 | refine WC_ret ?_)
    exact ⟨.inr rfl, rfl⟩
end Go.Lea

/-
  Plain laws of the best route, for the statements.
-/
namespace Go.Lea
open Go.Ev
set_option linter.unusedVariables false
set_option linter.unusedSimpArgs false
variable {l : List Eg} {fr to now by' sz : Int} {shut : List Int}
theorem BestR.route {es : List Eg} {a : Int} (h : BestR l fr to now sz by' shut es a) : IsRoute l fr to now sz es a := ⟨(ask_to h.at_).1, h.way, h.nd⟩
theorem BestR.routeM {es : List Eg} {a : Int} (h : BestR l fr to now sz by' shut es a) : routeM l (es.map Eg.id) fr to now sz = some es := routeM_iff.2 ⟨rfl, a, h.route⟩
theorem cmpI_lt {a b : Int} (h : a < b) : cmpI a b = -1 := if_pos h
theorem cmpI_self (a : Int) : cmpI a a = 0 := by unfold cmpI; rw [if_neg (Int.lt_irrefl _), if_neg (Int.lt_irrefl _)]
theorem cmpR_a {h h' : List Hp} {a a' : Int} (e : a < a') : cmpR h a h' a' = -1 := by
  unfold cmpR
  rw [cmpI_lt e]
  rfl
theorem cmpR_n {h h' : List Hp} {a : Int} (e : h.length < h'.length) : cmpR h a h' a = -1 := by
  unfold cmpR
  rw [cmpI_self, cmpI_lt (by omega)]
  rfl
theorem cmpR_l {h h' : List Hp} {a : Int} (e : h.length = h'.length) : cmpR h a h' a = lexI (h.map Hp.id) (h'.map Hp.id) := by
  unfold cmpR
  rw [cmpI_self, e, cmpI_self]
  simp only [orI, if_true]
  split
  · rename_i h0; rw [h0]
  · rfl
/-- The best one is ahead, or the same. -/
theorem BestR.cmp {es : List Eg} {a : Int} (h : BestR l fr to now sz by' shut es a) {es' : List Eg} {u' : Int} (hw : IsRoute l fr to now sz es' u') (ho : ∀ e ∈ es', e.to ∉ shut) : (cmpR (hopsW sz es now) a (hopsW sz es' now) u' = -1) ∨ (cmpR (hopsW sz es now) a (hopsW sz es' now) u' = 0 ∧ es = es' ∧ a = u') := by
  rcases h.best es' u' hw.way hw.nd ho with h1 | ⟨rfl, h1 | ⟨h1, h2 | h2⟩⟩
  · exact .inl (cmpR_a h1)
  · exact .inl (cmpR_n (by rw [hopsW_len, hopsW_len]; exact h1))
  · subst h2
    exact .inr ⟨by rw [cmpR_l rfl, lexI_refl], rfl, rfl⟩
  · exact .inl (by rw [cmpR_l (by rw [hopsW_len, hopsW_len]; exact h1), hopsW_ids, hopsW_ids]; exact h2)
theorem lexI_anti : ∀ a b : List Int, lexI a b = - lexI b a
  | [], [] => rfl
  | [], _ :: _ => rfl
  | _ :: _, [] => rfl
  | a :: xs, b :: ys => by
    rw [lexI, lexI]
    by_cases h : a < b
    · rw [if_pos h, if_neg (by omega), if_pos h]
    · rw [if_neg h]
      by_cases h' : b < a
      · rw [if_pos h', if_pos h']; rfl
      · rw [if_neg h', if_neg h', if_neg h, lexI_anti xs ys]
/-- If the best one of all enters no node that is shut, it is the best one. -/
theorem BestR.same {es es' : List Eg} {a a' : Int} (h : BestR l fr to now sz by' shut es a) (h' : BestR l fr to now sz by' [] es' a') (ho : ∀ e ∈ es', e.to ∉ shut) : es = es' ∧ a = a' := by
  have h1 := h.best es' a' h'.way h'.nd ho
  have h2 := h'.best es a h.way h.nd (by simp)
  rcases h1 with h1 | ⟨h1, h3⟩
  · rcases h2 with h2 | ⟨h2, _⟩ <;> omega
  · subst h1
    rcases h2 with h2 | ⟨_, h4⟩
    · omega
    · rcases h3 with h3 | ⟨h3, h5⟩
      · rcases h4 with h4 | ⟨h4, _⟩ <;> omega
      · rcases h4 with h4 | ⟨_, h6⟩
        · omega
        · rcases h5 with h5 | h5
          · exact ⟨h5, rfl⟩
          · rcases h6 with h6 | h6
            · exact ⟨h6.symm, rfl⟩
            · rw [lexI_anti, h6] at h5
              cases h5
end Go.Lea

/-
  LeastLater, LeastFirst, LeastBeats, as the evaluator runs them.
-/
namespace Go.Lea
open Go.Ev
set_option linter.unusedVariables false
set_option linter.unusedSimpArgs false
set_option maxRecDepth 100000 in
theorem small_run : isT (callP Γ2 400 12 []) = true := by decide +kernel
theorem s_small : EvP Γ2 12 [] (.bool true) := EvP_of_run (isT_eq small_run)
end Go.Lea

/-
  LeastFirst, LeastBeats, as the evaluator runs them.
-/
namespace Go.Lea
open Go.Ev
set_option linter.unusedVariables false
set_option linter.unusedSimpArgs false
set_option maxHeartbeats 16000000 in
theorem run_Beats (l : List Eg) (ids : List Int) (fr to now sz by' : Int) : EvP Γ2 7 [.slice .no 8 (l.map Eg.e), .slice .no 1 (ids.map (D.int .i64)), .int .i64 fr, .int .i64 to, .int .i64 now, .int .i64 sz, .int .i64 by'] (.bool true) := by
  refine EvP_code rfl rfl ?_
  by_cases hf : l.length ≤ 30 ∧ ids.length ≤ 20
  · obtain ⟨f1, f2⟩ := hf
    cases hr : routeM l ids fr to now sz with
    | none =>
      have hR := (s_Route0 l (by omega) ids (by omega) fr to now sz hr .no .no 8 1 (.inl rfl) (.inl rfl)).grow hx2
      cases ha : bestM l fr to now sz by' [] with
      | none =>
        have hA := s_Best0 l (by omega) fr to now sz by' [] (by simp) .no .isnil 8 0 (.inl rfl) (.inr rfl) ha
        repeat' (first
 | (refine I_WS ?_; first
 | refine W_lenM rfl rfl rfl ?_
 | refine W_store (cs' := [_, _]) rfl rfl rfl rfl (Nat.zero_le _) rfl rfl rfl ?_
 | (refine I_mov ?_; first
 | refine W_skip rfl ?_
 | refine W_mov (v := .int _ _) rfl rfl rfl ?_
 | refine W_mov (v := .bool _) rfl rfl rfl ?_
 | refine W_mov (v := .slice _ _ _) rfl rfl rfl ?_
 | refine W_mov (v := .tuple _) rfl rfl rfl ?_)
 | (refine I_bin ?_; first
 | refine W_skip rfl ?_
 | refine W_gtrF rfl rfl rfl rfl (by omega) ?_)
 | (refine I_load ?_; first
 | refine W_skip rfl ?_)
 | (refine I_call ?_; first
 | refine W_call rfl rfl rfl s_small rfl rfl ?_
 | refine W_call rfl rfl rfl hA rfl rfl ?_
 | refine W_call rfl rfl rfl hR rfl rfl ?_)
 | (refine I_pick ?_; first
 | refine W_pick (v := .bool _) rfl rfl rfl rfl ?_)
 | (refine I_extract ?_; first
 | refine W_extract (d := .bool _) rfl rfl rfl rfl ?_
 | refine W_extract (d := .agg _) rfl rfl rfl rfl ?_)
 | refine W_not rfl rfl rfl ?_
 | refine W_alloc rfl rfl ?_
 | refine W_skip rfl ?_
 | refine WS_nil ?_)
 | refine WC_seq ?_
 | refine WC_opsS ?_
 | refine WC_skip ?_
 | refine WC_condT rfl ?_
 | refine WC_condF rfl ?_
 | refine WC_ret ?_)
        all_goals first | exact fin_bool (.inr rfl) rfl rfl | (exfalso; omega)
      | some p =>
        obtain ⟨es, a⟩ := p
        have hA := s_Best l (by omega) fr to now sz by' [] (by simp) .no .isnil 8 0 (.inl rfl) (.inr rfl) es a ha
        repeat' (first
 | (refine I_WS ?_; first
 | refine W_lenM rfl rfl rfl ?_
 | refine W_store (cs' := [_, _]) rfl rfl rfl rfl (Nat.zero_le _) rfl rfl rfl ?_
 | (refine I_mov ?_; first
 | refine W_skip rfl ?_
 | refine W_mov (v := .int _ _) rfl rfl rfl ?_
 | refine W_mov (v := .bool _) rfl rfl rfl ?_
 | refine W_mov (v := .slice _ _ _) rfl rfl rfl ?_
 | refine W_mov (v := .tuple _) rfl rfl rfl ?_)
 | (refine I_bin ?_; first
 | refine W_skip rfl ?_
 | refine W_gtrF rfl rfl rfl rfl (by omega) ?_)
 | (refine I_load ?_; first
 | refine W_skip rfl ?_)
 | (refine I_call ?_; first
 | refine W_call rfl rfl rfl s_small rfl rfl ?_
 | (refine W_callA rfl rfl rfl hA rfl ?_; intro ta sa hsa tk1 nt1)
 | refine W_call rfl rfl rfl hR rfl rfl ?_)
 | (refine I_pick ?_; first
 | refine W_pick (v := .bool _) rfl rfl rfl rfl ?_)
 | (refine I_extract ?_; first
 | refine W_extract (d := .bool _) rfl rfl rfl rfl ?_
 | refine W_extract (d := .agg _) rfl rfl rfl rfl ?_)
 | refine W_not rfl rfl rfl ?_
 | refine W_alloc rfl rfl ?_
 | refine W_skip rfl ?_
 | refine WS_nil ?_)
 | refine WC_seq ?_
 | refine WC_opsS ?_
 | refine WC_skip ?_
 | refine WC_condT rfl ?_
 | refine WC_condF rfl ?_
 | refine WC_ret ?_)
        all_goals first | exact fin_bool (.inr rfl) rfl rfl | (exfalso; omega)
    | some es' =>
      have hR := (s_Route1 l (by omega) ids (by omega) fr to now sz es' hr .no .no 8 1 (.inl rfl) (.inl rfl)).grow hx2
      obtain ⟨hid, u', hw⟩ := routeM_iff.1 hr
      rw [hw.last] at hR
      by_cases hu : u' ≤ by'
      · obtain ⟨es, a, ha⟩ := best_ex (shut := []) hw.ask hw.way (by simp) hu
        have hA := s_Best l (by omega) fr to now sz by' [] (by simp) .no .isnil 8 0 (.inl rfl) (.inr rfl) es a ha
        have hB := best_some ha
        have hn1 := nd_len hB.route
        have hn2 := nd_len hw
        have hh1 := hopsW_len sz es now
        have hh2 := hopsW_len sz es' now
        have hC := fun t t' s s' h1 h2 => (s_CompareR (hopsW sz es now) a (hopsW sz es' now) u' (by omega) (by omega) t t' s s' h1 h2).grow hx2
        have hS := fun t t' s s' h1 h2 => (s_SameR (hopsW sz es now) (hopsW sz es' now) a u' (by omega) t t' s s' h1 h2).grow hx2
        rcases hB.cmp hw (by simp) with h1 | ⟨h1, rfl, rfl⟩
        · rw [h1] at hC
          clear hB hw hr hid h1
          generalize hopsW sz es now = x at *
          generalize hopsW sz es' now = y at *
          repeat' (first
 | (refine I_WS ?_; first
 | refine W_lenM rfl rfl rfl ?_
 | refine W_store (cs' := [_, _]) rfl rfl rfl rfl (Nat.zero_le _) rfl rfl rfl ?_
 | (refine I_mov ?_; first
 | refine W_mov (v := .int _ _) rfl rfl rfl ?_
 | refine W_mov (v := .bool _) rfl rfl rfl ?_
 | refine W_mov (v := .slice _ _ _) rfl rfl rfl ?_
 | refine W_mov (v := .tuple _) rfl rfl rfl ?_)
 | (refine I_bin ?_; first
 | refine W_leqT rfl rfl rfl rfl (by omega) ?_
 | refine W_gtrF rfl rfl rfl rfl (by omega) ?_
 | refine W_neqT rfl rfl rfl rfl (by omega) ?_)
 | (refine I_load ?_; first
 | refine W_skip rfl ?_
 | refine W_load (agg := true) (d := .agg [_, _]) rfl rfl rfl rfl (Nat.zero_le _) rfl ?_
 | refine W_load (agg := false) (d := .int _ _) rfl rfl rfl rfl (Nat.zero_le _) rfl ?_)
 | (refine I_call ?_; first
 | refine W_skip rfl ?_
 | refine W_call rfl rfl rfl s_small rfl rfl ?_
 | (refine W_callA rfl rfl rfl hA rfl ?_; intro ta sa hsa tk1 nt1)
 | (refine W_callA rfl rfl rfl hR rfl ?_; intro tb sb hsb tk2 nt2)
 | refine W_call rfl rfl rfl (hC _ _ _ _ hsa hsb) rfl rfl ?_)
 | (refine I_pick ?_; first
 | refine W_pick (v := .bool _) rfl rfl rfl rfl ?_)
 | (refine I_extract ?_; first
 | refine W_extract (d := .bool _) rfl rfl rfl rfl ?_
 | refine W_extract (d := .agg _) rfl rfl rfl rfl ?_)
 | refine W_not rfl rfl rfl ?_
 | refine W_faddr rfl rfl rfl ?_
 | refine W_alloc rfl rfl ?_
 | refine WS_nil ?_)
 | refine WC_seq ?_
 | refine WC_opsS ?_
 | refine WC_skip ?_
 | refine WC_condF rfl ?_
 | refine WC_ret ?_)
          all_goals first | exact fin_bool (.inr rfl) rfl rfl | (exfalso; omega)
        · rw [h1] at hC
          rw [decide_eq_true (by exact ⟨rfl, rfl⟩)] at hS
          clear hB hw hr hid h1
          generalize hopsW sz es now = x at *
          repeat' (first
 | (refine I_WS ?_; first
 | refine W_lenM rfl rfl rfl ?_
 | refine W_store (cs' := [_, _]) rfl rfl rfl rfl (Nat.zero_le _) rfl rfl rfl ?_
 | (refine I_mov ?_; first
 | refine W_mov (v := .int _ _) rfl rfl rfl ?_
 | refine W_mov (v := .bool _) rfl rfl rfl ?_
 | refine W_mov (v := .slice _ _ _) rfl rfl rfl ?_
 | refine W_mov (v := .tuple _) rfl rfl rfl ?_)
 | (refine I_bin ?_; first
 | refine W_leqT rfl rfl rfl rfl (by omega) ?_
 | refine W_gtrF rfl rfl rfl rfl (by omega) ?_
 | refine W_neqF rfl rfl rfl rfl (by omega) ?_)
 | (refine I_load ?_; first
 | refine W_load (agg := true) (d := .agg [_, _]) rfl rfl rfl rfl (Nat.zero_le _) rfl ?_
 | refine W_load (agg := false) (d := .int _ _) rfl rfl rfl rfl (Nat.zero_le _) rfl ?_)
 | (refine I_call ?_; first
 | refine W_call rfl rfl rfl s_small rfl rfl ?_
 | (refine W_callA rfl rfl rfl hA rfl ?_; intro ta sa hsa tk1 nt1)
 | (refine W_callA rfl rfl rfl hR rfl ?_; intro tb sb hsb tk2 nt2)
 | refine W_call rfl rfl rfl (hC _ _ _ _ hsa hsb) rfl rfl ?_
 | refine W_call rfl rfl rfl (hS _ _ _ _ hsa hsb) rfl rfl ?_)
 | (refine I_pick ?_; first
 | refine W_pick (v := .bool _) rfl rfl rfl rfl ?_)
 | (refine I_extract ?_; first
 | refine W_extract (d := .bool _) rfl rfl rfl rfl ?_
 | refine W_extract (d := .agg _) rfl rfl rfl rfl ?_)
 | refine W_not rfl rfl rfl ?_
 | refine W_faddr rfl rfl rfl ?_
 | refine W_alloc rfl rfl ?_
 | refine WS_nil ?_)
 | refine WC_seq ?_
 | refine WC_opsS ?_
 | refine WC_skip ?_
 | refine WC_condF rfl ?_
 | refine WC_ret ?_)
          all_goals first | exact fin_bool (.inr rfl) rfl rfl | (exfalso; omega)
      · have hu' : by' < u' := by omega
        cases ha : bestM l fr to now sz by' [] with
        | none =>
          have hA := s_Best0 l (by omega) fr to now sz by' [] (by simp) .no .isnil 8 0 (.inl rfl) (.inr rfl) ha
          repeat' (first
 | (refine I_WS ?_; first
 | refine W_lenM rfl rfl rfl ?_
 | refine W_store (cs' := [_, _]) rfl rfl rfl rfl (Nat.zero_le _) rfl rfl rfl ?_
 | (refine I_mov ?_; first
 | refine W_mov (v := .int _ _) rfl rfl rfl ?_
 | refine W_mov (v := .bool _) rfl rfl rfl ?_
 | refine W_mov (v := .slice _ _ _) rfl rfl rfl ?_
 | refine W_mov (v := .tuple _) rfl rfl rfl ?_)
 | (refine I_bin ?_; first
 | refine W_gtrT rfl rfl rfl rfl (by omega) ?_
 | refine W_gtrF rfl rfl rfl rfl (by omega) ?_)
 | (refine I_load ?_; first
 | refine W_load (agg := false) (d := .int _ _) rfl rfl rfl rfl (Nat.zero_le _) rfl ?_)
 | (refine I_call ?_; first
 | refine W_call rfl rfl rfl s_small rfl rfl ?_
 | refine W_call rfl rfl rfl hA rfl rfl ?_
 | (refine W_callA rfl rfl rfl hR rfl ?_; intro tb sb hsb tk2 nt2))
 | (refine I_pick ?_; first
 | refine W_pick (v := .bool _) rfl rfl rfl rfl ?_)
 | (refine I_extract ?_; first
 | refine W_extract (d := .bool _) rfl rfl rfl rfl ?_
 | refine W_extract (d := .agg _) rfl rfl rfl rfl ?_)
 | refine W_not rfl rfl rfl ?_
 | refine W_faddr rfl rfl rfl ?_
 | refine W_alloc rfl rfl ?_
 | refine WS_nil ?_)
 | refine WC_seq ?_
 | refine WC_opsS ?_
 | refine WC_skip ?_
 | refine WC_condT rfl ?_
 | refine WC_condF rfl ?_
 | refine WC_ret ?_)
          all_goals first | exact fin_bool (.inr rfl) rfl rfl | (exfalso; omega)
        | some p =>
          obtain ⟨es, a⟩ := p
          have hA := s_Best l (by omega) fr to now sz by' [] (by simp) .no .isnil 8 0 (.inl rfl) (.inr rfl) es a ha
          repeat' (first
 | (refine I_WS ?_; first
 | refine W_lenM rfl rfl rfl ?_
 | refine W_store (cs' := [_, _]) rfl rfl rfl rfl (Nat.zero_le _) rfl rfl rfl ?_
 | (refine I_mov ?_; first
 | refine W_mov (v := .int _ _) rfl rfl rfl ?_
 | refine W_mov (v := .bool _) rfl rfl rfl ?_
 | refine W_mov (v := .slice _ _ _) rfl rfl rfl ?_
 | refine W_mov (v := .tuple _) rfl rfl rfl ?_)
 | (refine I_bin ?_; first
 | refine W_gtrT rfl rfl rfl rfl (by omega) ?_
 | refine W_gtrF rfl rfl rfl rfl (by omega) ?_)
 | (refine I_load ?_; first
 | refine W_load (agg := false) (d := .int _ _) rfl rfl rfl rfl (Nat.zero_le _) rfl ?_)
 | (refine I_call ?_; first
 | refine W_call rfl rfl rfl s_small rfl rfl ?_
 | (refine W_callA rfl rfl rfl hA rfl ?_; intro ta sa hsa tk1 nt1)
 | (refine W_callA rfl rfl rfl hR rfl ?_; intro tb sb hsb tk2 nt2))
 | (refine I_pick ?_; first
 | refine W_pick (v := .bool _) rfl rfl rfl rfl ?_)
 | (refine I_extract ?_; first
 | refine W_extract (d := .bool _) rfl rfl rfl rfl ?_
 | refine W_extract (d := .agg _) rfl rfl rfl rfl ?_)
 | refine W_not rfl rfl rfl ?_
 | refine W_faddr rfl rfl rfl ?_
 | refine W_alloc rfl rfl ?_
 | refine WS_nil ?_)
 | refine WC_seq ?_
 | refine WC_opsS ?_
 | refine WC_skip ?_
 | refine WC_condT rfl ?_
 | refine WC_condF rfl ?_
 | refine WC_ret ?_)
          all_goals first | exact fin_bool (.inr rfl) rfl rfl | (exfalso; omega)
  · repeat' (first
 | (refine I_WS ?_; first
 | refine W_lenM rfl rfl rfl ?_
 | (refine I_mov ?_; first
 | refine W_skip rfl ?_
 | refine W_mov (v := .bool _) rfl rfl rfl ?_
 | refine W_mov (v := .slice _ _ _) rfl rfl rfl ?_)
 | (refine I_bin ?_; first
 | refine W_skip rfl ?_
 | refine W_gtrT rfl rfl rfl rfl (by omega) ?_
 | (refine W_gtr rfl rfl rfl rfl ?_ ?_ <;> intro _))
 | (refine I_call ?_; first
 | refine W_call rfl rfl rfl s_small rfl rfl ?_)
 | (refine I_pick ?_; first
 | refine W_pick (v := .bool _) rfl rfl rfl rfl ?_)
 | refine W_skip rfl ?_
 | refine WS_nil ?_)
 | refine WC_seq ?_
 | refine WC_opsS ?_
 | refine WC_condT rfl ?_
 | refine WC_ret ?_)
    all_goals first | exact fin_bool (.inr rfl) rfl rfl | (exfalso; omega)
end Go.Lea
