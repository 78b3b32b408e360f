/-
  The best route, as the code finds it.
-/
import Derived.Test.YtjcilbnbciclpaaLeaLeaE
import Derived.Test.YtjcilbnbciclpaaLeaLeaE
import Derived.Test.YtjcilbnbciclpaaEvEvX4
set_option linter.unusedVariables false
set_option linter.unusedSimpArgs false
set_option linter.unnecessarySimpa false

namespace Go.Lea
open Go.Ev
set_option linter.unusedVariables false
set_option linter.unusedSimpArgs false
theorem few_len {l : List Eg} {fr to now a sz : Int} {shut : List Int} {n : Nat} (h : fewM l fr to now a sz shut = some n) : n ≤ l.length := by
  unfold fewM at h
  split at h
  · have := (few_some _ _ _ h).2.1
    omega
  · cases h
set_option maxHeartbeats 16000000 in
theorem l_go (l : List Eg) (hll : l.length ≤ 900) (to sz by' : Int) (shut : List Int) (hsl : shut.length ≤ 1000000) (t t' : Tok) (s s' : Nat) (hs : s = 8 ∨ l = []) (hs' : s' = 1 ∨ shut = []) (arr : Int) (z : List D) : ∀ (k : Nat), k ≤ 1000 → ∀ (node now : Int) (out : List Hp) (tk : Tok) (so : Nat) (ρ : Nat → D) (st : Store), out.length + k ≤ 1000 → st.lim ≤ 0 → 3 ≤ st.next → st.tlim ≤ st.ntok → AppOK st 3 tk so (out.map Hp.e) → st.boxes 0 = some (.cells z) → st.boxes 1 = some (.cells [.slice t s (l.map Eg.e), .int .i64 to, .int .i64 sz, .int .i64 by', .slice t' s' (shut.map (D.int .i64))]) → st.boxes 2 = some (.cells [.slice tk so (out.map Hp.e), .int .i64 arr]) →
    ρ 14 = .ptr 0 0 → ρ 17 = .bool true → ρ 18 = .int .i64 k → ρ 19 = .ptr 1 0 → ρ 20 = .ptr 2 0 → ρ 21 = .int .i64 node → ρ 22 = .int .i64 now → ∀ (Q : X → (Nat → D) → Store → Prop),
    (∀ es, goM l to by' sz shut k node now = some es → ∀ ρ' st' tk' so', st'.lim = st.lim → st'.boxes 0 = some (.cells z) → (so' = 3 ∨ out ++ hopsW sz es now = []) → st'.boxes 2 = some (.cells [.slice tk' so' ((out ++ hopsW sz es now).map Hp.e), .int .i64 arr]) → ρ' 14 = .ptr 0 0 → ρ' 17 = .bool true → ρ' 20 = .ptr 2 0 → Q (.exit 0) ρ' st') → (goM l to by' sz shut k node now = none → ∀ ρ' st', st'.lim = st.lim → st'.boxes 0 = some (.cells z) → ρ' 14 = .ptr 0 0 → ρ' 17 = .bool false → Q (.exit 0) ρ' st') → WC Γ2 (.loop c_least_Route_l0) ρ st Q := by
  intro k
  induction k with
  | zero =>
    intro hk node now out tk so ρ st hol hlim hnx htl hO hb0 hb1 hb2 h14 h17 h18 h19 h20 h21 h22 Q hQ hQ2
    rw [← upd_self h14, ← upd_self h17, ← upd_self h18, ← upd_self h19, ← upd_self h20, ← upd_self h21, ← upd_self h22]
    refine WC_loop ?_
    repeat' (first
 | (refine I_WS ?_; first
 | (refine I_mov ?_; first
 | refine W_mov (v := .int _ _) rfl rfl rfl ?_
 | refine W_mov (v := .bool _) rfl rfl rfl ?_)
 | (refine I_bin ?_; first
 | refine W_gtrF rfl rfl rfl rfl (by omega) ?_)
 | (refine I_pick ?_; first
 | refine W_pick (v := .bool _) rfl rfl rfl rfl ?_)
 | refine WS_nil ?_)
 | refine WC_seq ?_
 | refine WC_opsS ?_
 | refine WC_condF rfl ?_
 | refine WC_exit ?_)
    refine hQ [] rfl _ _ tk so rfl hb0 ?_ (by simpa [hopsW] using hb2) rfl rfl rfl
    rcases hO with ⟨_, h | ⟨_, h⟩⟩ | ⟨_, _, _, _, h⟩
    · exact .inl h
    · exact .inr (by simpa [hopsW] using h)
    · exact .inl h
  | succ k ih =>
    intro hk node now out tk so ρ st hol hlim hnx htl hO hb0 hb1 hb2 h14 h17 h18 h19 h20 h21 h22 Q hQ hQ2
    have hgt : (0 : Int) < ((k + 1 : Nat) : Int) := by omega
    have hw : IntKind.i64.wrap (((k + 1 : Nat) : Int) - 1) = (k : Int) := by rw [w64 (by omega)]; omega
    have hN := fun t t' => s_next l hll to sz by' shut hsl node now k t t' s s' hs hs'
    have hlim2 : st.lim ≤ st.next := by omega
    have hl1 : st.lim ≤ 1 := by omega
    have hl2 : st.lim ≤ 2 := by omega
    have hn0 : 0 ≠ st.next := by omega
    have hn1 : 1 ≠ st.next := by omega
    have hn2 : 2 ≠ st.next := by omega
    have hN1 : (st.next == 2) = false := by simp; omega
    have hN2 : (2 == st.next) = false := by simp; omega
    have q1 : ∀ {x : Option Box}, ((upd st.boxes st.next x) 1).bind Box.cs = some [.slice t s (l.map Eg.e), .int .i64 to, .int .i64 sz, .int .i64 by', .slice t' s' (shut.map (D.int .i64))] := fun {x} => by rw [upd_ne _ _ hn1, hb1]; rfl
    have q1' : ∀ {x y : Option Box}, upd (upd st.boxes st.next x) st.next y 1 = some (.cells [.slice t s (l.map Eg.e), .int .i64 to, .int .i64 sz, .int .i64 by', .slice t' s' (shut.map (D.int .i64))]) := fun {x y} => (upd_ne _ _ hn1).trans ((upd_ne _ _ hn1).trans hb1)
    have q0' : ∀ {x y : Option Box}, upd (upd st.boxes st.next x) st.next y 0 = some (.cells z) := fun {x y} => (upd_ne _ _ hn0).trans ((upd_ne _ _ hn0).trans hb0)
    have q2 : ∀ {x y : Option Box}, ((upd (upd st.boxes st.next x) st.next y) 2).bind Box.cs = some [.slice tk so (out.map Hp.e), .int .i64 arr] := fun {x y} => by rw [upd_ne _ _ hn2, upd_ne _ _ hn2, hb2]; rfl
    have q2' : ∀ {x y : Option Box}, upd (upd st.boxes st.next x) st.next y 2 = some (.cells [.slice tk so (out.map Hp.e), .int .i64 arr]) := fun {x y} => (upd_ne _ _ hn2).trans ((upd_ne _ _ hn2).trans hb2)
    have qh : ∀ {x : Option Box} {a b c : Int}, ((upd (upd st.boxes st.next x) st.next (some (.cells [.int .i64 a, .int .i64 b, .int .i64 c]))) st.next).bind Box.cs = some [.int .i64 a, .int .i64 b, .int .i64 c] := fun {x a b c} => by rw [upd_same]; rfl
    have hbd : ∀ a b c : Int, ((out.map Hp.e).length + [D.agg [.int .i64 a, .int .i64 b, .int .i64 c]].length) * 24 ≤ 140737488355328 := fun a b c => by simp; omega
    have hgo : goM l to by' sz shut (k + 1) node now = match nextM l to by' sz shut node now k with
      | none => none
      | some e => (goM l to by' sz shut k e.to (thereE e now sz)).map (e :: ·) := rfl
    rw [hgo] at hQ hQ2
    clear hgo
    unfold nextD at hN
    cases hn : nextM l to by' sz shut node now k with
    | none =>
      rw [hn] at hN hQ2
      have hQ2 := hQ2 rfl
      clear ih hQ hn
      rw [← upd_self h14, ← upd_self h17, ← upd_self h18, ← upd_self h19, ← upd_self h20, ← upd_self h21, ← upd_self h22]
      refine WC_loop ?_
      repeat' (first
 | (refine I_WS ?_; first
 | refine W_sub (s := (k : Int)) rfl rfl rfl rfl hw ?_
 | refine W_store (cs' := [_, _, _]) rfl rfl (upd_same _ _ _) rfl hlim2 rfl rfl rfl ?_
 | (refine W_app rfl rfl rfl hO (.inl rfl) (hbd _ _ _) htl rfl ?_; intro k' st' c1 c2 c3 c4 c5 c6 c7)
 | refine W_store (cs' := [_, _]) rfl rfl ((congrFun c1 2).trans q2') rfl (c3 ▸ hl2) rfl rfl rfl ?_
 | (refine I_mov ?_; first
 | refine W_mov (v := .int _ _) rfl rfl rfl ?_
 | refine W_mov (v := .bool _) rfl rfl rfl ?_
 | refine W_mov (v := .tuple _) rfl rfl rfl ?_)
 | (refine I_bin ?_; first
 | refine W_gtrT rfl rfl rfl rfl (by omega) ?_)
 | (refine I_load ?_; first
 | refine W_load (agg := true) (d := .agg [_, _, _, _, _]) rfl rfl rfl q1 hl1 rfl ?_
 | refine W_load (agg := false) (d := .slice _ _ _) rfl rfl rfl q2 hl2 rfl ?_
 | refine W_load (agg := true) (d := .agg [_, _, _]) rfl rfl rfl qh hlim2 rfl ?_
 | refine W_load (agg := false) (d := .int _ _) rfl rfl rfl ((congrArg (Option.bind · Box.cs) (congrFun c1 _)).trans qh) (c3 ▸ hlim2) rfl ?_)
 | (refine I_call ?_; first
 | refine W_call rfl rfl rfl (hN _ _) rfl rfl ?_)
 | (refine I_pick ?_; first
 | refine W_pick (v := .bool _) rfl rfl rfl rfl ?_)
 | (refine I_extract ?_; first
 | refine W_extract (d := .int _ _) rfl rfl rfl rfl ?_
 | refine W_extract (d := .bool _) rfl rfl rfl rfl ?_
 | refine W_extract (d := .agg _) rfl rfl rfl rfl ?_)
 | refine W_faddr rfl rfl rfl ?_
 | refine W_alloc rfl rfl ?_
 | refine W_bslice (ys := [_]) rfl rfl rfl (by decide) rfl ?_
 | refine WS_nil ?_)
 | refine okF_intro (by simp [okFlags, List.range, List.range.loop, Fl.clash, hN1, hN2]) ?_
 | refine WC_seq ?_
 | refine WC_opsS ?_
 | refine WC_drawS ?_
 | refine WC_skip ?_
 | refine WC_condT rfl ?_
 | refine WC_block ?_)
      refine WC_loop ?_
      repeat' (first
 | (refine I_WS ?_; first
 | (refine I_mov ?_; first
 | refine W_skip rfl ?_
 | refine W_mov (v := .bool _) rfl rfl rfl ?_)
 | (refine I_bin ?_; first
 | refine W_skip rfl ?_)
 | (refine I_pick ?_; first
 | refine W_pick (v := .bool _) rfl rfl rfl rfl ?_)
 | refine WS_nil ?_)
 | refine WC_seq ?_
 | refine WC_opsS ?_
 | refine WC_condF rfl ?_
 | refine WC_exit ?_)
      refine hQ2 _ _ ?_ ?_ ?_ ?_
      · exact c3
      · exact (congrFun c1 0).trans q0'
      all_goals rfl
    | some e =>
      rw [hn] at hN hQ hQ2
      simp only at hN hQ hQ2
      have hnext : ∀ (tk' : Tok) (so' : Nat) (ρ' : Nat → D) (st' : Store), st'.lim = st.lim → 3 ≤ st'.next → st'.tlim ≤ st'.ntok → AppOK st' 3 tk' so' (out.map Hp.e ++ [.agg [.int .i64 e.id, .int .i64 (mx now e.op), .int .i64 (thereE e now sz)]]) → st'.boxes 0 = some (.cells z) → st'.boxes 1 = some (.cells [.slice t s (l.map Eg.e), .int .i64 to, .int .i64 sz, .int .i64 by', .slice t' s' (shut.map (D.int .i64))]) → st'.boxes 2 = some (.cells [.slice tk' so' (out.map Hp.e ++ [.agg [.int .i64 e.id, .int .i64 (mx now e.op), .int .i64 (thereE e now sz)]]), .int .i64 arr]) →
          ρ' 14 = .ptr 0 0 → ρ' 17 = .bool true → ρ' 18 = .int .i64 k → ρ' 19 = .ptr 1 0 → ρ' 20 = .ptr 2 0 → ρ' 21 = .int .i64 e.to → ρ' 22 = .int .i64 (thereE e now sz) → WC Γ2 (.loop c_least_Route_l0) ρ' st' Q := fun tk' so' ρ' st' g1 g2 g3 g4 g5 g6 g7 k14 k17 k18 k19 k20 k21 k22 => by
        have hm : (out ++ [hop1 e now sz]).map Hp.e = out.map Hp.e ++ [.agg [.int .i64 e.id, .int .i64 (mx now e.op), .int .i64 (thereE e now sz)]] := by rw [List.map_append]; rfl
        have hh : ∀ es, out ++ [hop1 e now sz] ++ hopsW sz es (thereE e now sz) = out ++ hopsW sz (e :: es) now := fun es => by rw [hopsW, List.append_assoc]; rfl
        refine ih (by omega) e.to (thereE e now sz) (out ++ [hop1 e now sz]) tk' so' ρ' st' (by simp; omega) (by omega) g2 g3 (by rw [hm]; exact g4) g5 g6 (by rw [hm]; exact g7) k14 k17 k18 k19 k20 k21 k22 Q (fun es he ρ2 st2 tk2 so2 f1 f2 f3 f4 => ?_) (fun he ρ2 st2 f1 => hQ2 (by rw [he]; rfl) ρ2 st2 (f1.trans g1))
        rw [hh] at f3 f4
        exact hQ (e :: es) (by rw [he]; rfl) ρ2 st2 tk2 so2 (f1.trans g1) f2 f3 f4
      clear ih hn hQ hQ2
      rw [← upd_self h14, ← upd_self h17, ← upd_self h18, ← upd_self h19, ← upd_self h20, ← upd_self h21, ← upd_self h22]
      generalize thereE e now sz = th at *
      generalize mx now e.op = sd at *
      refine WC_loop ?_
      repeat' (first
 | (refine I_WS ?_; first
 | refine W_sub (s := (k : Int)) rfl rfl rfl rfl hw ?_
 | refine W_store (cs' := [_, _, _]) rfl rfl (upd_same _ _ _) rfl hlim2 rfl rfl rfl ?_
 | (refine W_app rfl rfl rfl hO (.inl rfl) (hbd _ _ _) htl rfl ?_; intro k' st' c1 c2 c3 c4 c5 c6 c7)
 | refine W_store (cs' := [_, _]) rfl rfl ((congrFun c1 2).trans q2') rfl (c3 ▸ hl2) rfl rfl rfl ?_
 | (refine I_mov ?_; first
 | refine W_mov (v := .int _ _) rfl rfl rfl ?_
 | refine W_mov (v := .bool _) rfl rfl rfl ?_
 | refine W_mov (v := .tuple _) rfl rfl rfl ?_)
 | (refine I_bin ?_; first
 | refine W_gtrT rfl rfl rfl rfl (by omega) ?_)
 | (refine I_load ?_; first
 | refine W_load (agg := true) (d := .agg [_, _, _, _, _]) rfl rfl rfl q1 hl1 rfl ?_
 | refine W_load (agg := false) (d := .slice _ _ _) rfl rfl rfl q2 hl2 rfl ?_
 | refine W_load (agg := true) (d := .agg [_, _, _]) rfl rfl rfl qh hlim2 rfl ?_
 | refine W_load (agg := false) (d := .int _ _) rfl rfl rfl ((congrArg (Option.bind · Box.cs) (congrFun c1 _)).trans qh) (c3 ▸ hlim2) rfl ?_)
 | (refine I_call ?_; first
 | refine W_call rfl rfl rfl (hN _ _) rfl rfl ?_)
 | (refine I_pick ?_; first
 | refine W_pick (v := .bool _) rfl rfl rfl rfl ?_)
 | (refine I_extract ?_; first
 | refine W_extract (d := .int _ _) rfl rfl rfl rfl ?_
 | refine W_extract (d := .bool _) rfl rfl rfl rfl ?_
 | refine W_extract (d := .agg _) rfl rfl rfl rfl ?_)
 | refine W_faddr rfl rfl rfl ?_
 | refine W_alloc rfl rfl ?_
 | refine W_bslice (ys := [_]) rfl rfl rfl (by decide) rfl ?_
 | refine WS_nil ?_)
 | refine okF_intro (by simp [okFlags, List.range, List.range.loop, Fl.clash, hN1, hN2]) ?_
 | refine WC_seq ?_
 | refine WC_opsS ?_
 | refine WC_drawS ?_
 | refine WC_skip ?_
 | refine WC_condT rfl ?_
 | refine WC_block ?_)
      refine hnext (.own k') 3 _ _ ?_ ?_ ?_ ?_ ?_ ?_ ?_ ?_ ?_ ?_ ?_ ?_ ?_ ?_
      · exact c3
      · show 3 ≤ st'.next
        rw [show st'.next = st.next + 1 from c2]
        exact Nat.le_succ_of_le hnx
      · exact c5
      · exact .inr ⟨k', rfl, c6, c7, rfl⟩
      · exact (congrFun c1 0).trans q0'
      · exact (congrFun c1 1).trans q1'
      all_goals rfl
set_option maxHeartbeats 16000000 in
theorem s_Best (l : List Eg) (hll : l.length ≤ 900) (fr to now sz by' : Int) (shut : List Int) (hsl : shut.length ≤ 1000000) (t t' : Tok) (s s' : Nat) (hs : s = 8 ∨ l = []) (hs' : s' = 1 ∨ shut = []) (es : List Eg) (a : Int) (hB : bestM l fr to now sz by' shut = some (es, a)) :
    EvX Γ2 13 [.slice t s (l.map Eg.e), .int .i64 fr, .int .i64 to, .int .i64 now, .int .i64 sz, .int .i64 by', .slice t' s' (shut.map (D.int .i64))] (IsA Hp.e 3 (hopsW sz es now) [.int .i64 a] [.bool true]) := by
  refine EvX_code rfl rfl ?_
  have hT := fun t t' => (s_Times l (by omega) fr now sz shut (by omega) t t' s s' hs hs').grow hx2
  have hTl := times_len l fr now sz shut
  unfold bestM at hB
  generalize timesM l fr now sz shut = T at *
  cases ha : atN to T with
  | none => rw [ha] at hB; cases hB
  | some a' =>
    rw [ha] at hB
    simp only at hB
    have hA := fun t s h => s_At1 to T (by omega) a' ha t s h
    by_cases hle : by' < a'
    · rw [if_pos hle] at hB; cases hB
    · rw [if_neg hle] at hB
      have hle' : a' ≤ by' := by omega
      have hF := fun t t' => s_Fewest l hll fr to now a' sz shut hsl t t' s s' hs hs'
      cases hf : fewM l fr to now a' sz shut with
      | none => rw [hf] at hB; cases hB
      | some n =>
        rw [hf] at hB hF
        simp only at hB
        obtain ⟨es', hg, he⟩ := Option.map_eq_some_iff.1 hB
        cases he
        have hn := few_len hf
        repeat' (first
 | (refine I_WS ?_; first
 | refine W_store (cs' := [_, _]) rfl rfl rfl rfl (Nat.zero_le _) rfl rfl rfl ?_
 | refine W_store (cs' := [_, _, _, _, _]) rfl rfl rfl rfl (Nat.zero_le _) rfl rfl rfl ?_
 | (refine I_mov ?_; first
 | refine W_mov (v := .int _ _) rfl rfl rfl ?_
 | refine W_mov (v := .bool _) rfl rfl rfl ?_
 | refine W_mov (v := .slice _ _ _) rfl rfl rfl ?_
 | refine W_mov (v := .tuple _) rfl rfl rfl ?_)
 | (refine I_bin ?_; first
 | refine W_gtrF rfl rfl rfl rfl (by omega) ?_)
 | (refine I_call ?_; first
 | refine W_call rfl rfl rfl (hA _ _ hsa) rfl rfl ?_
 | refine W_call rfl rfl rfl (hF _ _) rfl rfl ?_
 | (refine W_callN rfl rfl rfl (hT _ _) rfl ?_; intro ta sa hsa hta))
 | (refine I_pick ?_; first
 | refine W_pick (v := .bool _) rfl rfl rfl rfl ?_)
 | (refine I_extract ?_; first
 | refine W_extract (d := .int _ _) rfl rfl rfl rfl ?_
 | refine W_extract (d := .bool _) rfl rfl rfl rfl ?_)
 | (refine I_build ?_; first
 | refine W_build (cs := [_, _]) rfl rfl rfl ?_
 | refine W_build (cs := [_, _, _, _, _]) rfl rfl rfl ?_)
 | refine W_not rfl rfl rfl ?_
 | refine W_alloc rfl rfl ?_
 | refine WS_nil ?_)
 | refine WC_seq ?_
 | refine WC_opsS ?_
 | refine WC_skip ?_
 | refine WC_condF rfl ?_
 | refine WC_block ?_)
        refine l_go l hll to sz a shut hsl t t' s s' hs hs' a [.slice .isnil 0 [], .int .i64 0] n (by omega) fr now [] .isnil 0 _ _ (by simp; omega) ?_ ?_ ?_ (.inl ⟨.inl rfl, .inr ⟨rfl, rfl⟩⟩) ?_ ?_ ?_ ?_ ?_ ?_ ?_ ?_ ?_ ?_ _ (fun es2 he ρ' st' tk so e1 e2 e3 e4 k14 k17 k20 => ?_) (fun he => by rw [hg] at he; cases he)
        all_goals first | rfl | exact Nat.le_refl _ | exact Nat.zero_le _ | skip
        rw [hg] at he
        cases he
        rw [List.nil_append] at e3 e4
        have e1' : st'.lim = 0 := e1
        have hl0 : st'.lim ≤ 0 := by omega
        have hl2 : st'.lim ≤ 2 := by omega
        have hbx : (st'.boxes 2).bind Box.cs = some [.slice tk so ((hopsW sz es now).map Hp.e), .int .i64 a] := by rw [e4]; rfl
        rw [← upd_self k14, ← upd_self k17, ← upd_self k20]
        repeat' (first
 | (refine I_WS ?_; first
 | refine W_store (cs' := [_, _]) rfl rfl e2 rfl hl0 rfl rfl rfl ?_
 | (refine I_mov ?_; first
 | refine W_mov (v := .bool _) rfl rfl rfl ?_)
 | (refine I_load ?_; first
 | refine W_load (agg := true) (d := .agg [_, _]) rfl rfl rfl hbx hl2 rfl ?_)
 | refine W_not rfl rfl rfl ?_
 | refine WS_nil ?_)
 | refine WC_seq ?_
 | refine WC_opsS ?_
 | refine WC_skip ?_
 | refine WC_condF rfl ?_
 | refine WC_ret ?_)
        exact finX_A (.inr rfl) (res_A (q := 0) rfl rfl hl0 rfl) rfl rfl e3 rfl rfl rfl
set_option maxHeartbeats 16000000 in
theorem s_Best0 (l : List Eg) (hll : l.length ≤ 900) (fr to now sz by' : Int) (shut : List Int) (hsl : shut.length ≤ 1000000) (t t' : Tok) (s s' : Nat) (hs : s = 8 ∨ l = []) (hs' : s' = 1 ∨ shut = []) (hB : bestM l fr to now sz by' shut = none) :
    EvP Γ2 13 [.slice t s (l.map Eg.e), .int .i64 fr, .int .i64 to, .int .i64 now, .int .i64 sz, .int .i64 by', .slice t' s' (shut.map (D.int .i64))] (.tuple [.agg [.slice .isnil 0 [], .int .i64 0], .bool false]) := by
  refine EvP_code rfl rfl ?_
  have hT := fun t t' => (s_Times l (by omega) fr now sz shut (by omega) t t' s s' hs hs').grow hx2
  have hTl := times_len l fr now sz shut
  have hi := best_iff (l := l) (fr := fr) (to := to) (now := now) (sz := sz) (by' := by') (shut := shut)
  rw [hB] at hi
  generalize timesM l fr now sz shut = T at *
  cases ha : atN to T with
  | none =>
    have hA := fun t s h => s_At0 to T (by omega) ha t s h
    repeat' (first
 | (refine I_WS ?_; first
 | refine W_store (cs' := [_, _]) rfl rfl rfl rfl (Nat.zero_le _) rfl rfl rfl ?_
 | (refine I_mov ?_; first
 | refine W_skip rfl ?_
 | refine W_mov (v := .int _ _) rfl rfl rfl ?_
 | refine W_mov (v := .bool _) rfl rfl rfl ?_
 | refine W_mov (v := .slice _ _ _) rfl rfl rfl ?_
 | refine W_mov (v := .tuple _) rfl rfl rfl ?_)
 | (refine I_bin ?_; first
 | refine W_skip rfl ?_)
 | (refine I_call ?_; first
 | refine W_call rfl rfl rfl (hA _ _ hsa) rfl rfl ?_
 | (refine W_callN rfl rfl rfl (hT _ _) rfl ?_; intro ta sa hsa hta))
 | (refine I_pick ?_; first
 | refine W_pick (v := .bool _) rfl rfl rfl rfl ?_)
 | (refine I_extract ?_; first
 | refine W_extract (d := .int _ _) rfl rfl rfl rfl ?_
 | refine W_extract (d := .bool _) rfl rfl rfl rfl ?_)
 | (refine I_build ?_; first
 | refine W_build (cs := [_, _]) rfl rfl rfl ?_)
 | refine W_not rfl rfl rfl ?_
 | refine W_alloc rfl rfl ?_
 | refine WS_nil ?_)
 | refine WC_seq ?_
 | refine WC_opsS ?_
 | refine WC_condT rfl ?_
 | refine WC_ret ?_)
    exact ⟨.inr rfl, rfl⟩
  | some a' =>
    rw [ha] at hi
    have hle : by' < a' := by simpa using hi
    have hA := fun t s h => s_At1 to T (by omega) a' ha t s h
    repeat' (first
 | (refine I_WS ?_; first
 | refine W_store (cs' := [_, _]) rfl rfl rfl rfl (Nat.zero_le _) rfl rfl rfl ?_
 | (refine I_mov ?_; first
 | refine W_mov (v := .int _ _) rfl rfl rfl ?_
 | refine W_mov (v := .bool _) rfl rfl rfl ?_
 | refine W_mov (v := .slice _ _ _) rfl rfl rfl ?_
 | refine W_mov (v := .tuple _) rfl rfl rfl ?_)
 | (refine I_bin ?_; first
 | refine W_gtrT rfl rfl rfl rfl (by omega) ?_)
 | (refine I_call ?_; first
 | refine W_call rfl rfl rfl (hA _ _ hsa) rfl rfl ?_
 | (refine W_callN rfl rfl rfl (hT _ _) rfl ?_; intro ta sa hsa hta))
 | (refine I_pick ?_; first
 | refine W_pick (v := .bool _) rfl rfl rfl rfl ?_)
 | (refine I_extract ?_; first
 | refine W_extract (d := .int _ _) rfl rfl rfl rfl ?_
 | refine W_extract (d := .bool _) rfl rfl rfl rfl ?_)
 | (refine I_build ?_; first
 | refine W_build (cs := [_, _]) rfl rfl rfl ?_)
 | refine W_not rfl rfl rfl ?_
 | refine W_alloc rfl rfl ?_
 | refine WS_nil ?_)
 | refine WC_seq ?_
 | refine WC_opsS ?_
 | refine WC_condT rfl ?_
 | refine WC_ret ?_)
    exact ⟨.inr rfl, rfl⟩
end Go.Lea

/-
  Plain laws of the best route, for the statements.
-/
namespace Go.Lea
open Go.Ev
set_option linter.unusedVariables false
set_option linter.unusedSimpArgs false
variable {l : List Eg} {fr to now by' sz : Int} {shut : List Int}
theorem BestR.route {es : List Eg} {a : Int} (h : BestR l fr to now sz by' shut es a) : IsRoute l fr to now sz es a := ⟨(ask_to h.at_).1, h.way, h.nd⟩
theorem cmpI_lt {a b : Int} (h : a < b) : cmpI a b = -1 := if_pos h
theorem cmpI_self (a : Int) : cmpI a a = 0 := by unfold cmpI; rw [if_neg (Int.lt_irrefl _), if_neg (Int.lt_irrefl _)]
theorem cmpR_a {h h' : List Hp} {a a' : Int} (e : a < a') : cmpR h a h' a' = -1 := by
  unfold cmpR
  rw [cmpI_lt e]
  rfl
theorem cmpR_n {h h' : List Hp} {a : Int} (e : h.length < h'.length) : cmpR h a h' a = -1 := by
  unfold cmpR
  rw [cmpI_self, cmpI_lt (by omega)]
  rfl
theorem cmpR_l {h h' : List Hp} {a : Int} (e : h.length = h'.length) : cmpR h a h' a = lexI (h.map Hp.id) (h'.map Hp.id) := by
  unfold cmpR
  rw [cmpI_self, e, cmpI_self]
  simp only [orI, if_true]
  split
  · rename_i h0; rw [h0]
  · rfl
/-- The best one is ahead, or the same. -/
theorem BestR.cmp {es : List Eg} {a : Int} (h : BestR l fr to now sz by' shut es a) {es' : List Eg} {u' : Int} (hw : IsRoute l fr to now sz es' u') (ho : ∀ e ∈ es', e.to ∉ shut) : (cmpR (hopsW sz es now) a (hopsW sz es' now) u' = -1) ∨ (cmpR (hopsW sz es now) a (hopsW sz es' now) u' = 0 ∧ es = es' ∧ a = u') := by
  rcases h.best es' u' hw.way hw.nd ho with h1 | ⟨rfl, h1 | ⟨h1, h2 | h2⟩⟩
  · exact .inl (cmpR_a h1)
  · exact .inl (cmpR_n (by rw [hopsW_len, hopsW_len]; exact h1))
  · subst h2
    exact .inr ⟨by rw [cmpR_l rfl, lexI_refl], rfl, rfl⟩
  · exact .inl (by rw [cmpR_l (by rw [hopsW_len, hopsW_len]; exact h1), hopsW_ids, hopsW_ids]; exact h2)
theorem lexI_anti : ∀ a b : List Int, lexI a b = - lexI b a
  | [], [] => rfl
  | [], _ :: _ => rfl
  | _ :: _, [] => rfl
  | a :: xs, b :: ys => by
    rw [lexI, lexI]
    by_cases h : a < b
    · rw [if_pos h, if_neg (by omega), if_pos h]
    · rw [if_neg h]
      by_cases h' : b < a
      · rw [if_pos h', if_pos h']; rfl
      · rw [if_neg h', if_neg h', if_neg h, lexI_anti xs ys]
/-- If the best one of all enters no node that is shut, it is the best one. -/
theorem BestR.same {es es' : List Eg} {a a' : Int} (h : BestR l fr to now sz by' shut es a) (h' : BestR l fr to now sz by' [] es' a') (ho : ∀ e ∈ es', e.to ∉ shut) : es = es' ∧ a = a' := by
  have h1 := h.best es' a' h'.way h'.nd ho
  have h2 := h'.best es a h.way h.nd (by simp)
  rcases h1 with h1 | ⟨h1, h3⟩
  · rcases h2 with h2 | ⟨h2, _⟩ <;> omega
  · subst h1
    rcases h2 with h2 | ⟨_, h4⟩
    · omega
    · rcases h3 with h3 | ⟨h3, h5⟩
      · rcases h4 with h4 | ⟨h4, _⟩ <;> omega
      · rcases h4 with h4 | ⟨_, h6⟩
        · omega
        · rcases h5 with h5 | h5
          · exact ⟨h5, rfl⟩
          · rcases h6 with h6 | h6
            · exact ⟨h6.symm, rfl⟩
            · rw [lexI_anti, h6] at h5
              cases h5
end Go.Lea

/-
  LeastLater, LeastFirst, LeastBeats, as the evaluator runs them.
-/
namespace Go.Lea
open Go.Ev
set_option linter.unusedVariables false
set_option linter.unusedSimpArgs false
set_option maxRecDepth 100000 in
theorem small_run : isT (callP Γ2 400 12 []) = true := by decide +kernel
theorem s_small : EvP Γ2 12 [] (.bool true) := EvP_of_run (isT_eq small_run)
end Go.Lea

/-
  LeastFirst, LeastBeats, as the evaluator runs them.
-/
namespace Go.Lea
open Go.Ev
set_option linter.unusedVariables false
set_option linter.unusedSimpArgs false
end Go.Lea

/-
  LeastShuts, as the evaluator runs it.
-/
namespace Go.Lea
open Go.Ev
set_option linter.unusedVariables false
set_option linter.unusedSimpArgs false
def offB (shut : List Int) (x : Int) : Bool := shut.all fun y => decide (x ≠ y)
theorem offB_iff {shut : List Int} {x : Int} : offB shut x = true ↔ x ∉ shut := by
  unfold offB
  rw [List.all_eq_true]
  constructor
  · intro h hx
    have := h x hx
    simp at this
  · intro h y hy
    exact decide_eq_true (fun e => h (by rw [e]; exact hy))
set_option maxHeartbeats 4000000 in
theorem l_f (n : List Int) (tn : Tok) (shut : List Int) (hsl : shut.length ≤ 1000) (i : Nat) (x : Int) (hx : n[i]? = some x) (v0 v1 v15 v16 v17 v18 : D) : ∀ (post pre : List Int), shut = pre ++ post → ∀ (w : Bool) (ρ : Nat → D) (st : Store), ρ 0 = v0 → ρ 1 = v1 → ρ 15 = v15 → ρ 16 = v16 → ρ 17 = v17 → ρ 18 = v18 → ρ 6 = .slice .no 1 (shut.map (D.int .i64)) → ρ 20 = .slice tn 1 (n.map (D.int .i64)) → ρ 22 = .bool w → ρ 23 = .int .i64 i → ρ 24 = .int .i64 pre.length → ∀ (Q : X → (Nat → D) → Store → Prop),
    (∀ ρ', ρ' 0 = v0 → ρ' 1 = v1 → ρ' 15 = v15 → ρ' 16 = v16 → ρ' 17 = v17 → ρ' 18 = v18 → ρ' 6 = .slice .no 1 (shut.map (D.int .i64)) → ρ' 20 = .slice tn 1 (n.map (D.int .i64)) → ρ' 22 = .bool (w && offB post x) → ρ' 23 = .int .i64 i → Q (.exit 2) ρ' st) → WC Γ2 (.loop c_feluccalaw17_LeastShuts_l0) ρ st Q := by
  have hia : i < (n.map (D.int .i64)).length := by
    obtain ⟨h, _⟩ := List.getElem?_eq_some_iff.1 hx
    simpa using h
  intro post
  induction post with
  | nil =>
    intro pre hpp w ρ st h0 h1 h15 h16 h17 h18 h6 h20 h22 h23 h24 Q hQ
    rw [List.append_nil] at hpp
    subst hpp
    rw [← upd_self h0, ← upd_self h1, ← upd_self h15, ← upd_self h16, ← upd_self h17, ← upd_self h18, ← upd_self h6, ← upd_self h20, ← upd_self h22, ← upd_self h23, ← upd_self h24]
    refine WC_loop ?_
    repeat' (first
 | (refine I_WS ?_; first
 | refine W_lenM rfl rfl rfl ?_
 | (refine I_mov ?_; first
 | refine W_mov (v := .int _ _) rfl rfl rfl ?_
 | refine W_mov (v := .slice _ _ _) rfl rfl rfl ?_)
 | (refine I_bin ?_; first
 | refine W_lssF rfl rfl rfl rfl (by omega) ?_)
 | refine WS_nil ?_)
 | refine WC_seq ?_
 | refine WC_opsS ?_
 | refine WC_condF rfl ?_
 | refine WC_exit ?_)
    rw [show (w && offB [] x) = w by simp [offB]] at hQ
    refine hQ _ ?_ ?_ ?_ ?_ ?_ ?_ ?_ ?_ ?_ ?_ <;> rfl
  | cons y post ih =>
    intro pre hpp w ρ st h0 h1 h15 h16 h17 h18 h6 h20 h22 h23 h24 Q hQ
    have hv := in_mid hpp
    have hlen : shut.length = pre.length + (post.length + 1) := by rw [hpp]; simp
    have hpl : pre.length < (shut.map (D.int .i64)).length := by simp; omega
    have hltl : (pre.length : Int) < shut.length := by omega
    have hnext : ∀ (ρ' : Nat → D), ρ' 0 = v0 → ρ' 1 = v1 → ρ' 15 = v15 → ρ' 16 = v16 → ρ' 17 = v17 → ρ' 18 = v18 → ρ' 6 = .slice .no 1 (shut.map (D.int .i64)) → ρ' 20 = .slice tn 1 (n.map (D.int .i64)) → ρ' 22 = .bool (w && decide (x ≠ y)) → ρ' 23 = .int .i64 i → ρ' 24 = .int .i64 ((pre.length : Int) + 1) → WC Γ2 (.loop c_feluccalaw17_LeastShuts_l0) ρ' st Q := fun ρ' k0 k1 k15 k16 k17 k18 k6 k20 k22 k23 k24 =>
      ih (pre ++ [y]) (by simp [hpp]) _ ρ' st k0 k1 k15 k16 k17 k18 k6 k20 k22 k23 (by rw [List.length_append]; exact k24) Q (fun ρ'' j0 j1 j15 j16 j17 j18 j6 j20 j22 j23 => hQ ρ'' j0 j1 j15 j16 j17 j18 j6 j20 (by rw [j22]; simp [offB, Bool.and_assoc]) j23)
    clear ih hQ hpp
    rw [← upd_self h0, ← upd_self h1, ← upd_self h15, ← upd_self h16, ← upd_self h17, ← upd_self h18, ← upd_self h6, ← upd_self h20, ← upd_self h22, ← upd_self h23, ← upd_self h24]
    refine WC_loop ?_
    cases w with
    | false =>
      rw [Bool.false_and] at hnext
      repeat' (first
 | (refine I_WS ?_; first
 | refine W_lenM rfl rfl rfl ?_
 | (refine I_mov ?_; first
 | refine W_skip rfl ?_
 | refine W_mov (v := .int _ _) rfl rfl rfl ?_
 | refine W_mov (v := .bool _) rfl rfl rfl ?_
 | refine W_mov (v := .slice _ _ _) rfl rfl rfl ?_)
 | (refine I_bin ?_; first
 | refine W_skip rfl ?_
 | refine W_lssT rfl rfl rfl rfl (by omega) ?_
 | refine W_add rfl rfl rfl rfl (by first | exact w64 (by omega) | rfl) ?_)
 | (refine I_load ?_; first
 | refine W_skip rfl ?_)
 | (refine I_pick ?_; first
 | refine W_pick (v := .bool _) rfl rfl rfl rfl ?_)
 | refine W_skip rfl ?_
 | refine WS_nil ?_)
 | refine WC_seq ?_
 | refine WC_opsS ?_
 | refine WC_drawS ?_
 | refine WC_skip ?_
 | refine WC_condT rfl ?_
 | refine WC_block ?_
 | refine okF_intro rfl ?_)
      refine hnext _ ?_ ?_ ?_ ?_ ?_ ?_ ?_ ?_ ?_ ?_ ?_ <;> rfl
    | true =>
      rw [Bool.true_and] at hnext
      by_cases he : x = y
      · rw [decide_eq_false (fun h => h he)] at hnext
        repeat' (first
 | (refine I_WS ?_; first
 | refine W_lenM rfl rfl rfl ?_
 | refine W_iaddr (j := i) rfl rfl rfl rfl rfl hia ?_
 | refine W_iaddr (j := pre.length) rfl rfl rfl rfl rfl hpl ?_
 | refine W_neqF rfl rfl rfl rfl he ?_
 | (refine I_mov ?_; first
 | refine W_mov (v := .int _ _) rfl rfl rfl ?_
 | refine W_mov (v := .bool _) rfl rfl rfl ?_
 | refine W_mov (v := .slice _ _ _) rfl rfl rfl ?_)
 | (refine I_bin ?_; first
 | refine W_lssT rfl rfl rfl rfl (by omega) ?_
 | refine W_add rfl rfl rfl rfl (by first | exact w64 (by omega) | rfl) ?_)
 | (refine I_load ?_; first
 | refine W_loadE (agg := false) (d := .int _ _) rfl rfl rfl hx rfl ?_
 | refine W_loadE (agg := false) (d := .int _ _) rfl rfl rfl hv rfl ?_)
 | (refine I_pick ?_; first
 | refine W_pick (v := .bool _) rfl rfl rfl rfl ?_)
 | refine WS_nil ?_)
 | refine okF_intro (okFlags_onlyR rfl) ?_
 | refine WC_seq ?_
 | refine WC_opsS ?_
 | refine WC_drawS ?_
 | refine WC_skip ?_
 | refine WC_condT rfl ?_
 | refine WC_block ?_)
        refine hnext _ ?_ ?_ ?_ ?_ ?_ ?_ ?_ ?_ ?_ ?_ ?_ <;> rfl
      · rw [decide_eq_true he] at hnext
        repeat' (first
 | (refine I_WS ?_; first
 | refine W_lenM rfl rfl rfl ?_
 | refine W_iaddr (j := i) rfl rfl rfl rfl rfl hia ?_
 | refine W_iaddr (j := pre.length) rfl rfl rfl rfl rfl hpl ?_
 | refine W_neqT rfl rfl rfl rfl he ?_
 | (refine I_mov ?_; first
 | refine W_mov (v := .int _ _) rfl rfl rfl ?_
 | refine W_mov (v := .bool _) rfl rfl rfl ?_
 | refine W_mov (v := .slice _ _ _) rfl rfl rfl ?_)
 | (refine I_bin ?_; first
 | refine W_lssT rfl rfl rfl rfl (by omega) ?_
 | refine W_add rfl rfl rfl rfl (by first | exact w64 (by omega) | rfl) ?_)
 | (refine I_load ?_; first
 | refine W_loadE (agg := false) (d := .int _ _) rfl rfl rfl hx rfl ?_
 | refine W_loadE (agg := false) (d := .int _ _) rfl rfl rfl hv rfl ?_)
 | (refine I_pick ?_; first
 | refine W_pick (v := .bool _) rfl rfl rfl rfl ?_)
 | refine WS_nil ?_)
 | refine okF_intro (okFlags_onlyR rfl) ?_
 | refine WC_seq ?_
 | refine WC_opsS ?_
 | refine WC_drawS ?_
 | refine WC_skip ?_
 | refine WC_condT rfl ?_
 | refine WC_block ?_)
        refine hnext _ ?_ ?_ ?_ ?_ ?_ ?_ ?_ ?_ ?_ ?_ ?_ <;> rfl
set_option maxHeartbeats 4000000 in
theorem l_F (n : List Int) (hnl : n.length ≤ 1000000) (tn : Tok) (shut : List Int) (hsl : shut.length ≤ 1000) (v0 v1 v15 v16 v17 v18 : D) : ∀ (post pre : List Int), n = pre ++ post → ∀ (w : Bool) (ρ : Nat → D) (st : Store), ρ 0 = v0 → ρ 1 = v1 → ρ 15 = v15 → ρ 16 = v16 → ρ 17 = v17 → ρ 18 = v18 → ρ 6 = .slice .no 1 (shut.map (D.int .i64)) → ρ 20 = .slice tn 1 (n.map (D.int .i64)) → ρ 22 = .bool w → ρ 23 = .int .i64 pre.length → ∀ (Q : X → (Nat → D) → Store → Prop),
    (∀ ρ', ρ' 0 = v0 → ρ' 1 = v1 → ρ' 15 = v15 → ρ' 16 = v16 → ρ' 17 = v17 → ρ' 18 = v18 → ρ' 6 = .slice .no 1 (shut.map (D.int .i64)) → ρ' 22 = .bool (w && post.all (offB shut)) → Q (.exit 0) ρ' st) → WC Γ2 (.loop c_feluccalaw17_LeastShuts_l1) ρ st Q := by
  intro post
  induction post with
  | nil =>
    intro pre hpp w ρ st h0 h1 h15 h16 h17 h18 h6 h20 h22 h23 Q hQ
    rw [List.append_nil] at hpp
    subst hpp
    rw [← upd_self h0, ← upd_self h1, ← upd_self h15, ← upd_self h16, ← upd_self h17, ← upd_self h18, ← upd_self h6, ← upd_self h20, ← upd_self h22, ← upd_self h23]
    refine WC_loop ?_
    repeat' (first
 | (refine I_WS ?_; first
 | refine W_lenM rfl rfl rfl ?_
 | (refine I_mov ?_; first
 | refine W_mov (v := .int _ _) rfl rfl rfl ?_
 | refine W_mov (v := .slice _ _ _) rfl rfl rfl ?_)
 | (refine I_bin ?_; first
 | refine W_lssF rfl rfl rfl rfl (by omega) ?_)
 | refine WS_nil ?_)
 | refine WC_seq ?_
 | refine WC_opsS ?_
 | refine WC_condF rfl ?_
 | refine WC_exit ?_)
    rw [show (w && ([] : List Int).all (offB shut)) = w by simp] at hQ
    refine hQ _ ?_ ?_ ?_ ?_ ?_ ?_ ?_ ?_ <;> rfl
  | cons x post ih =>
    intro pre hpp w ρ st h0 h1 h15 h16 h17 h18 h6 h20 h22 h23 Q hQ
    have hv := in_mid hpp
    have hlen : n.length = pre.length + (post.length + 1) := by rw [hpp]; simp
    have hltl : (pre.length : Int) < n.length := by omega
    have hnext : ∀ (ρ' : Nat → D), ρ' 0 = v0 → ρ' 1 = v1 → ρ' 15 = v15 → ρ' 16 = v16 → ρ' 17 = v17 → ρ' 18 = v18 → ρ' 6 = .slice .no 1 (shut.map (D.int .i64)) → ρ' 20 = .slice tn 1 (n.map (D.int .i64)) → ρ' 22 = .bool (w && offB shut x) → ρ' 23 = .int .i64 ((pre.length : Int) + 1) → WC Γ2 (.loop c_feluccalaw17_LeastShuts_l1) ρ' st Q := fun ρ' k0 k1 k15 k16 k17 k18 k6 k20 k22 k23 =>
      ih (pre ++ [x]) (by simp [hpp]) _ ρ' st k0 k1 k15 k16 k17 k18 k6 k20 k22 (by rw [List.length_append]; exact k23) Q (fun ρ'' j0 j1 j15 j16 j17 j18 j6 j22 => hQ ρ'' j0 j1 j15 j16 j17 j18 j6 (by rw [j22]; simp [Bool.and_assoc]))
    have hin := l_f n tn shut hsl pre.length x hv v0 v1 v15 v16 v17 v18 shut [] rfl w
    clear ih hQ hpp
    rw [← upd_self h0, ← upd_self h1, ← upd_self h15, ← upd_self h16, ← upd_self h17, ← upd_self h18, ← upd_self h6, ← upd_self h20, ← upd_self h22, ← upd_self h23]
    refine WC_loop ?_
    repeat' (first
 | (refine I_WS ?_; first
 | refine W_lenM rfl rfl rfl ?_
 | (refine I_mov ?_; first
 | refine W_mov (v := .int _ _) rfl rfl rfl ?_
 | refine W_mov (v := .slice _ _ _) rfl rfl rfl ?_)
 | (refine I_bin ?_; first
 | refine W_lssT rfl rfl rfl rfl (by omega) ?_)
 | refine WS_nil ?_)
 | refine WC_seq ?_
 | refine WC_opsS ?_
 | refine WC_skip ?_
 | refine WC_condT rfl ?_
 | refine WC_block ?_)
    refine hin _ st ?_ ?_ ?_ ?_ ?_ ?_ ?_ ?_ ?_ ?_ ?_ _ (fun ρ' k0 k1 k15 k16 k17 k18 k6 k20 k22 k23 => ?_)
    all_goals first | rfl | assumption | skip
    generalize (w && offB shut x) = w2 at *
    rw [← upd_self k0, ← upd_self k1, ← upd_self k15, ← upd_self k16, ← upd_self k17, ← upd_self k18, ← upd_self k6, ← upd_self k20, ← upd_self k22, ← upd_self k23]
    repeat' (first
 | (refine I_WS ?_; first
 | (refine I_mov ?_; first
 | refine W_mov (v := .int _ _) rfl rfl rfl ?_)
 | (refine I_bin ?_; first
 | refine W_add rfl rfl rfl rfl (by first | exact w64 (by omega) | rfl) ?_)
 | refine WS_nil ?_)
 | refine WC_opsS ?_)
    refine hnext _ ?_ ?_ ?_ ?_ ?_ ?_ ?_ ?_ ?_ ?_ <;> rfl
end Go.Lea

/-
  LeastShuts, as the evaluator runs it: no node that is shut is entered.
-/
namespace Go.Lea
open Go.Ev
set_option linter.unusedVariables false
set_option linter.unusedSimpArgs false
set_option maxHeartbeats 4000000 in
theorem l_g (n : List Int) (tn : Tok) (shut : List Int) (hsl : shut.length ≤ 1000) (i : Nat) (x : Int) (hx : n[i]? = some x) (hno : x ∉ shut) (v15 v16 v17 v18 v22 v26 : D) : ∀ (post pre : List Int), shut = pre ++ post → ∀ (ρ : Nat → D) (st : Store), ρ 15 = v15 → ρ 16 = v16 → ρ 17 = v17 → ρ 18 = v18 → ρ 22 = v22 → ρ 26 = v26 → ρ 6 = .slice .no 1 (shut.map (D.int .i64)) → ρ 25 = .slice tn 1 (n.map (D.int .i64)) → ρ 27 = .int .i64 i → ρ 28 = .int .i64 pre.length → ∀ (Q : X → (Nat → D) → Store → Prop),
    (∀ ρ', ρ' 15 = v15 → ρ' 16 = v16 → ρ' 17 = v17 → ρ' 18 = v18 → ρ' 22 = v22 → ρ' 26 = v26 → ρ' 6 = .slice .no 1 (shut.map (D.int .i64)) → ρ' 25 = .slice tn 1 (n.map (D.int .i64)) → ρ' 27 = .int .i64 i → Q (.exit 6) ρ' st) → WC Γ2 (.loop c_feluccalaw17_LeastShuts_l2) ρ st Q := by
  have hia : i < (n.map (D.int .i64)).length := by
    obtain ⟨h, _⟩ := List.getElem?_eq_some_iff.1 hx
    simpa using h
  intro post
  induction post with
  | nil =>
    intro pre hpp ρ st h15 h16 h17 h18 h22 h26 h6 h25 h27 h28 Q hQ
    rw [List.append_nil] at hpp
    subst hpp
    rw [← upd_self h15, ← upd_self h16, ← upd_self h17, ← upd_self h18, ← upd_self h22, ← upd_self h26, ← upd_self h6, ← upd_self h25, ← upd_self h27, ← upd_self h28]
    refine WC_loop ?_
    repeat' (first
 | (refine I_WS ?_; first
 | refine W_lenM rfl rfl rfl ?_
 | (refine I_mov ?_; first
 | refine W_mov (v := .int _ _) rfl rfl rfl ?_
 | refine W_mov (v := .slice _ _ _) rfl rfl rfl ?_)
 | (refine I_bin ?_; first
 | refine W_lssF rfl rfl rfl rfl (by omega) ?_)
 | refine WS_nil ?_)
 | refine WC_seq ?_
 | refine WC_opsS ?_
 | refine WC_condF rfl ?_
 | refine WC_exit ?_)
    refine hQ _ ?_ ?_ ?_ ?_ ?_ ?_ ?_ ?_ ?_ <;> rfl
  | cons y post ih =>
    intro pre hpp ρ st h15 h16 h17 h18 h22 h26 h6 h25 h27 h28 Q hQ
    have hv := in_mid hpp
    have hlen : shut.length = pre.length + (post.length + 1) := by rw [hpp]; simp
    have hpl : pre.length < (shut.map (D.int .i64)).length := by simp; omega
    have hltl : (pre.length : Int) < shut.length := by omega
    have he : ¬ x = y := fun e => hno (by rw [hpp, e]; simp)
    have hnext : ∀ (ρ' : Nat → D), ρ' 15 = v15 → ρ' 16 = v16 → ρ' 17 = v17 → ρ' 18 = v18 → ρ' 22 = v22 → ρ' 26 = v26 → ρ' 6 = .slice .no 1 (shut.map (D.int .i64)) → ρ' 25 = .slice tn 1 (n.map (D.int .i64)) → ρ' 27 = .int .i64 i → ρ' 28 = .int .i64 ((pre.length : Int) + 1) → WC Γ2 (.loop c_feluccalaw17_LeastShuts_l2) ρ' st Q := fun ρ' k15 k16 k17 k18 k22 k26 k6 k25 k27 k28 =>
      ih (pre ++ [y]) (by simp [hpp]) ρ' st k15 k16 k17 k18 k22 k26 k6 k25 k27 (by rw [List.length_append]; exact k28) Q hQ
    clear ih hQ hpp
    rw [← upd_self h15, ← upd_self h16, ← upd_self h17, ← upd_self h18, ← upd_self h22, ← upd_self h26, ← upd_self h6, ← upd_self h25, ← upd_self h27, ← upd_self h28]
    refine WC_loop ?_
    repeat' (first
 | (refine I_WS ?_; first
 | refine W_lenM rfl rfl rfl ?_
 | refine W_iaddr (j := i) rfl rfl rfl rfl rfl hia ?_
 | refine W_iaddr (j := pre.length) rfl rfl rfl rfl rfl hpl ?_
 | refine W_eqlF rfl rfl rfl rfl he ?_
 | (refine I_mov ?_; first
 | refine W_mov (v := .int _ _) rfl rfl rfl ?_
 | refine W_mov (v := .slice _ _ _) rfl rfl rfl ?_)
 | (refine I_bin ?_; first
 | refine W_lssT rfl rfl rfl rfl (by omega) ?_
 | refine W_add rfl rfl rfl rfl (by first | exact w64 (by omega) | rfl) ?_)
 | (refine I_load ?_; first
 | refine W_loadE (agg := false) (d := .int _ _) rfl rfl rfl hx rfl ?_
 | refine W_loadE (agg := false) (d := .int _ _) rfl rfl rfl hv rfl ?_)
 | refine WS_nil ?_)
 | refine okF_intro (okFlags_onlyR rfl) ?_
 | refine WC_seq ?_
 | refine WC_opsS ?_
 | refine WC_drawS ?_
 | refine WC_skip ?_
 | refine WC_condT rfl ?_
 | refine WC_condF rfl ?_
 | refine WC_block ?_)
    refine hnext _ ?_ ?_ ?_ ?_ ?_ ?_ ?_ ?_ ?_ ?_ <;> rfl
set_option maxHeartbeats 4000000 in
theorem l_G (n : List Int) (hnl : n.length ≤ 1000000) (tn : Tok) (shut : List Int) (hsl : shut.length ≤ 1000) (v15 v16 v18 v22 v26 : D) : ∀ (post pre : List Int), n = pre ++ post → (∀ x ∈ post, x ∉ shut) → ∀ (ρ : Nat → D) (st : Store), ρ 15 = v15 → ρ 16 = v16 → ρ 18 = v18 → ρ 22 = v22 → ρ 26 = v26 → ρ 17 = .bool true → ρ 6 = .slice .no 1 (shut.map (D.int .i64)) → ρ 25 = .slice tn 1 (n.map (D.int .i64)) → ρ 27 = .int .i64 pre.length → ∀ (Q : X → (Nat → D) → Store → Prop),
    (∀ ρ', ρ' 15 = v15 → ρ' 16 = v16 → ρ' 18 = v18 → ρ' 22 = v22 → ρ' 26 = v26 → ρ' 17 = .bool true → Q (.exit 4) ρ' st) → WC Γ2 (.loop c_feluccalaw17_LeastShuts_l3) ρ st Q := by
  intro post
  induction post with
  | nil =>
    intro pre hpp hno ρ st h15 h16 h18 h22 h26 h17 h6 h25 h27 Q hQ
    rw [List.append_nil] at hpp
    subst hpp
    rw [← upd_self h15, ← upd_self h16, ← upd_self h18, ← upd_self h22, ← upd_self h26, ← upd_self h17, ← upd_self h6, ← upd_self h25, ← upd_self h27]
    refine WC_loop ?_
    repeat' (first
 | (refine I_WS ?_; first
 | refine W_lenM rfl rfl rfl ?_
 | (refine I_mov ?_; first
 | refine W_mov (v := .int _ _) rfl rfl rfl ?_
 | refine W_mov (v := .bool _) rfl rfl rfl ?_
 | refine W_mov (v := .slice _ _ _) rfl rfl rfl ?_)
 | (refine I_bin ?_; first
 | refine W_lssF rfl rfl rfl rfl (by omega) ?_)
 | (refine I_pick ?_; first
 | refine W_pick (v := .bool _) rfl rfl rfl rfl ?_)
 | refine WS_nil ?_)
 | refine WC_seq ?_
 | refine WC_opsS ?_
 | refine WC_condF rfl ?_
 | refine WC_exit ?_)
    refine hQ _ ?_ ?_ ?_ ?_ ?_ ?_ <;> rfl
  | cons x post ih =>
    intro pre hpp hno ρ st h15 h16 h18 h22 h26 h17 h6 h25 h27 Q hQ
    have hv := in_mid hpp
    have hlen : n.length = pre.length + (post.length + 1) := by rw [hpp]; simp
    have hltl : (pre.length : Int) < n.length := by omega
    have hnext : ∀ (ρ' : Nat → D), ρ' 15 = v15 → ρ' 16 = v16 → ρ' 18 = v18 → ρ' 22 = v22 → ρ' 26 = v26 → ρ' 17 = .bool true → ρ' 6 = .slice .no 1 (shut.map (D.int .i64)) → ρ' 25 = .slice tn 1 (n.map (D.int .i64)) → ρ' 27 = .int .i64 ((pre.length : Int) + 1) → WC Γ2 (.loop c_feluccalaw17_LeastShuts_l3) ρ' st Q := fun ρ' k15 k16 k18 k22 k26 k17 k6 k25 k27 =>
      ih (pre ++ [x]) (by simp [hpp]) (fun y hy => hno y (List.mem_cons_of_mem _ hy)) ρ' st k15 k16 k18 k22 k26 k17 k6 k25 (by rw [List.length_append]; exact k27) Q hQ
    have hin := l_g n tn shut hsl pre.length x hv (hno x List.mem_cons_self) v15 v16 (.bool true) v18 v22 v26 shut [] rfl
    clear ih hQ hpp
    rw [← upd_self h15, ← upd_self h16, ← upd_self h18, ← upd_self h22, ← upd_self h26, ← upd_self h17, ← upd_self h6, ← upd_self h25, ← upd_self h27]
    refine WC_loop ?_
    repeat' (first
 | (refine I_WS ?_; first
 | refine W_lenM rfl rfl rfl ?_
 | (refine I_mov ?_; first
 | refine W_mov (v := .int _ _) rfl rfl rfl ?_
 | refine W_mov (v := .bool _) rfl rfl rfl ?_
 | refine W_mov (v := .slice _ _ _) rfl rfl rfl ?_)
 | (refine I_bin ?_; first
 | refine W_lssT rfl rfl rfl rfl (by omega) ?_)
 | (refine I_pick ?_; first
 | refine W_pick (v := .bool _) rfl rfl rfl rfl ?_)
 | refine WS_nil ?_)
 | refine WC_seq ?_
 | refine WC_opsS ?_
 | refine WC_skip ?_
 | refine WC_condT rfl ?_
 | refine WC_block ?_)
    refine hin _ st ?_ ?_ ?_ ?_ ?_ ?_ ?_ ?_ ?_ ?_ _ (fun ρ' k15 k16 k17 k18 k22 k26 k6 k25 k27 => ?_)
    all_goals first | rfl | assumption | skip
    rw [← upd_self k15, ← upd_self k16, ← upd_self k17, ← upd_self k18, ← upd_self k22, ← upd_self k26, ← upd_self k6, ← upd_self k25, ← upd_self k27]
    repeat' (first
 | (refine I_WS ?_; first
 | (refine I_mov ?_; first
 | refine W_mov (v := .int _ _) rfl rfl rfl ?_)
 | (refine I_bin ?_; first
 | refine W_add rfl rfl rfl rfl (by first | exact w64 (by omega) | rfl) ?_)
 | refine WS_nil ?_)
 | refine WC_opsS ?_)
    refine hnext _ ?_ ?_ ?_ ?_ ?_ ?_ ?_ ?_ ?_ <;> rfl
/-- The nodes of IDs, or whatever. -/
theorem ends_any (l : List Eg) (hll : l.length ≤ 1000) (fr : Int) : ∃ (ns : List Int) (b : Bool) , ns.length ≤ 1 ∧ ∀ t t' s', EvX Γ2 16 [.slice t 8 (l.map Eg.e), .slice t' s' [], .int .i64 fr] (Go.Ev.IsT (D.int .i64) 1 ns [.bool b]) := by
  by_cases ha : AskC l fr 0 0
  · exact ⟨[fr], true, by simp, fun t t' s' => (s_Ends1 l (by omega) [] (by simp) fr ha [] rfl t 8 (.inl rfl) t' s' (.inr rfl)).grow hx2⟩
  · exact ⟨[], false, by simp, fun t t' s' => ⟨_, ⟨.isnil, 0, rfl, .inr rfl⟩, (s_Ends0 l (by omega) [] (by simp) fr (.inl ha) t 8 (.inl rfl) t' s' (.inr rfl)).grow hx2⟩⟩
set_option maxHeartbeats 16000000 in
theorem run_Shuts (l : List Eg) (fr to now sz by' : Int) (shut : List Int) : EvP Γ2 5 [.slice .no 8 (l.map Eg.e), .int .i64 fr, .int .i64 to, .int .i64 now, .int .i64 sz, .int .i64 by', .slice .no 1 (shut.map (D.int .i64))] (.bool true) := by
  refine EvP_code rfl rfl ?_
  by_cases hf : l.length ≤ 30 ∧ shut.length ≤ 20
  · obtain ⟨f1, f2⟩ := hf
    have hI0 := fun t => (s_IDs [] (by simp) 0 t 0 (.inr rfl)).grow hx2
    cases hb : bestM l fr to now sz by' [] with
    | none =>
      have hB := s_Best0 l (by omega) fr to now sz by' [] (by simp) .no .isnil 8 0 (.inl rfl) (.inr rfl) hb
      cases ha : bestM l fr to now sz by' shut with
      | some p =>
        obtain ⟨es, a⟩ := p
        have h := best_some ha
        obtain ⟨es', a', h'⟩ := best_ex (shut := []) (best_ask ha) h.way (by simp) h.le
        rw [hb] at h'
        cases h'
      | none =>
        have hA := s_Best0 l (by omega) fr to now sz by' shut (by omega) .no .no 8 1 (.inl rfl) (.inl rfl) ha
        obtain ⟨ns, eb, hns, hE⟩ := ends_any l (by omega) fr
        repeat' (first
 | (refine I_WS ?_; first
 | refine W_lenM rfl rfl rfl ?_
 | refine W_store (cs' := [_, _]) rfl rfl rfl rfl (Nat.zero_le _) rfl rfl rfl ?_
 | (refine I_mov ?_; first
 | refine W_mov (v := .int _ _) rfl rfl rfl ?_
 | refine W_mov (v := .bool _) rfl rfl rfl ?_
 | refine W_mov (v := .slice _ _ _) rfl rfl rfl ?_
 | refine W_mov (v := .tuple _) rfl rfl rfl ?_)
 | (refine I_bin ?_; first
 | refine W_gtrF rfl rfl rfl rfl (by omega) ?_
 | refine W_eqlT rfl rfl rfl rfl (by omega) ?_)
 | (refine I_load ?_; first
 | refine W_load (agg := true) (d := .agg [_, _]) rfl rfl rfl rfl (Nat.zero_le _) rfl ?_
 | refine W_load (agg := false) (d := .slice _ _ _) rfl rfl rfl rfl (Nat.zero_le _) rfl ?_)
 | (refine I_call ?_; first
 | refine W_call rfl rfl rfl s_small rfl rfl ?_
 | refine W_call rfl rfl rfl hA rfl rfl ?_
 | refine W_call rfl rfl rfl hB rfl rfl ?_
 | (refine W_callN rfl rfl rfl (hI0 _) rfl ?_; intro ti si hsi hti)
 | (refine W_callT rfl rfl rfl (hE _ _ _) rfl ?_; intro te se hse tk1 nt1))
 | (refine I_pick ?_; first
 | refine W_pick (v := .bool _) rfl rfl rfl rfl ?_)
 | (refine I_extract ?_; first
 | refine W_extract (d := .bool _) rfl rfl rfl rfl ?_
 | refine W_extract (d := .slice _ _ _) rfl rfl rfl rfl ?_
 | refine W_extract (d := .agg _) rfl rfl rfl rfl ?_)
 | refine W_not rfl rfl rfl ?_
 | refine W_lenS0 rfl rfl rfl ?_
 | refine W_faddr rfl rfl rfl ?_
 | refine W_alloc rfl rfl ?_
 | refine WS_nil ?_)
 | refine WC_seq ?_
 | refine WC_opsS ?_
 | refine WC_skip ?_
 | refine WC_condT rfl ?_
 | refine WC_condF rfl ?_
 | refine WC_ret ?_)
        all_goals first | exact fin_bool (.inr rfl) rfl rfl | (exfalso; omega)
    | some p =>
      obtain ⟨es, a⟩ := p
      have hB := s_Best l (by omega) fr to now sz by' [] (by simp) .no .isnil 8 0 (.inl rfl) (.inr rfl) es a hb
      have gB := best_some hb
      have hn1 := nd_len gB.route
      have hh1 := hopsW_len sz es now
      have hI := fun t s h => (s_IDs (hopsW sz es now) (by omega) a t s h).grow hx2
      rw [hopsW_ids] at hI
      have ha0 : AskC l fr 0 0 := ⟨gB.route.ask.1, by omega, by omega, gB.route.ask.2.2.2⟩
      have hE := fun t t' s' h => (s_Ends1 l (by omega) (es.map Eg.id) (by simp; omega) fr ha0 es (chain_steps gB.route.ask.2.2.2 gB.way.chain) t 8 (.inl rfl) t' s' h).grow hx2
      have hF := fun tn v0 v1 v15 v16 v17 v18 => l_F (fr :: es.map Eg.to) (by simp; omega) tn shut (by omega) v0 v1 v15 v16 v17 v18 (es.map Eg.to) [fr] rfl true
      rw [Bool.true_and] at hF
      cases ha : bestM l fr to now sz by' shut with
      | none =>
        have hA := s_Best0 l (by omega) fr to now sz by' shut (by omega) .no .no 8 1 (.inl rfl) (.inl rfl) ha
        obtain ⟨ns, eb, hns, hE0⟩ := ends_any l (by omega) fr
        have hfb : (es.map Eg.to).all (offB shut) = false := by
          cases h : (es.map Eg.to).all (offB shut) with
          | false => rfl
          | true =>
            rw [List.all_eq_true] at h
            obtain ⟨es', a', h'⟩ := best_ex (shut := shut) (best_ask hb) gB.way (fun e he => offB_iff.1 (h e.to (List.mem_map_of_mem he))) gB.le
            rw [ha] at h'
            cases h'
        rw [hfb] at hF
        clear gB hb ha ha0
        generalize hopsW sz es now = x at *
        generalize hns2 : fr :: es.map Eg.to = n at *
        repeat' (first
 | (refine I_WS ?_; first
 | refine W_lenM rfl rfl rfl ?_
 | refine W_store (cs' := [_, _]) rfl rfl rfl rfl (Nat.zero_le _) rfl rfl rfl ?_
 | (refine I_mov ?_; first
 | refine W_mov (v := .int _ _) rfl rfl rfl ?_
 | refine W_mov (v := .bool _) rfl rfl rfl ?_
 | refine W_mov (v := .slice _ _ _) rfl rfl rfl ?_
 | refine W_mov (v := .tuple _) rfl rfl rfl ?_)
 | (refine I_bin ?_; first
 | refine W_gtrF rfl rfl rfl rfl (by omega) ?_)
 | (refine I_load ?_; first
 | refine W_load (agg := true) (d := .agg [_, _]) rfl rfl rfl rfl (Nat.zero_le _) rfl ?_)
 | (refine I_call ?_; first
 | refine W_call rfl rfl rfl s_small rfl rfl ?_
 | refine W_call rfl rfl rfl hA rfl rfl ?_
 | (refine W_callA rfl rfl rfl hB rfl ?_; intro tb sb hsb tk2 nt2)
 | (refine W_callN rfl rfl rfl (hI _ _ hsb) rfl ?_; intro ti si hsi hti)
 | (refine W_callT rfl rfl rfl (hE _ _ _ hsi) rfl ?_; intro te se hse tk1 nt1))
 | (refine I_pick ?_; first
 | refine W_pick (v := .bool _) rfl rfl rfl rfl ?_)
 | (refine I_extract ?_; first
 | refine W_extract (d := .bool _) rfl rfl rfl rfl ?_
 | refine W_extract (d := .slice _ _ _) rfl rfl rfl rfl ?_
 | refine W_extract (d := .agg _) rfl rfl rfl rfl ?_)
 | refine W_not rfl rfl rfl ?_
 | refine W_alloc rfl rfl ?_
 | refine WS_nil ?_)
 | refine WC_seq ?_
 | refine WC_opsS ?_
 | refine WC_skip ?_
 | refine WC_condF rfl ?_
 | refine WC_block ?_)
        have hse : se = 1 := hse.resolve_right (by rw [← hns2]; simp)
        subst hse
        refine hF te (.slice .no 8 (l.map Eg.e)) (.int .i64 fr) (.bool true) (.ptr 0 0) (.bool false) (.ptr 1 0) _ _ ?_ ?_ ?_ ?_ ?_ ?_ ?_ ?_ ?_ ?_ _ (fun ρ' k0 k1 k15 k16 k17 k18 k6 k22 => ?_)
        all_goals first | rfl | skip
        rw [← upd_self k0, ← upd_self k1, ← upd_self k15, ← upd_self k16, ← upd_self k17, ← upd_self k18, ← upd_self k6, ← upd_self k22]
        repeat' (first
 | (refine I_WS ?_; first
 | (refine I_mov ?_; first
 | refine W_mov (v := .int _ _) rfl rfl rfl ?_
 | refine W_mov (v := .bool _) rfl rfl rfl ?_
 | refine W_mov (v := .slice _ _ _) rfl rfl rfl ?_
 | refine W_mov (v := .tuple _) rfl rfl rfl ?_)
 | (refine I_load ?_; first
 | refine W_load (agg := true) (d := .agg [_, _]) rfl rfl rfl rfl (Nat.zero_le _) rfl ?_)
 | (refine I_call ?_; first
 | (refine W_callN rfl rfl rfl (hI0 _) rfl ?_; intro tj sj hsj htj)
 | (refine W_callT rfl rfl rfl (hE0 _ _ _) rfl ?_; intro tf sf hsf tk3 nt3))
 | (refine I_extract ?_; first
 | refine W_extract (d := .bool _) rfl rfl rfl rfl ?_
 | refine W_extract (d := .slice _ _ _) rfl rfl rfl rfl ?_)
 | refine WS_nil ?_)
 | refine WC_seq ?_
 | refine WC_opsS ?_
 | refine WC_block ?_)
        refine WC_loop ?_
        repeat' (first
 | (refine I_WS ?_; first
 | (refine I_mov ?_; first
 | refine W_skip rfl ?_
 | refine W_mov (v := .bool _) rfl rfl rfl ?_)
 | (refine I_bin ?_; first
 | refine W_skip rfl ?_)
 | (refine I_load ?_; first
 | refine W_skip rfl ?_)
 | (refine I_call ?_; first
 | refine W_skip rfl ?_)
 | (refine I_pick ?_; first
 | refine W_pick (v := .bool _) rfl rfl rfl rfl ?_
 | refine W_skip rfl ?_)
 | refine W_not rfl rfl rfl ?_
 | refine W_skip rfl ?_
 | refine WS_nil ?_)
 | refine WC_seq ?_
 | refine WC_opsS ?_
 | refine WC_condF rfl ?_
 | refine WC_exit ?_
 | refine WC_ret ?_)
        exact fin_bool (.inr rfl) rfl rfl
      | some p =>
        obtain ⟨es2, a2⟩ := p
        have hA := s_Best l (by omega) fr to now sz by' shut (by omega) .no .no 8 1 (.inl rfl) (.inl rfl) es2 a2 ha
        have gA := best_some ha
        have hn2 := nd_len gA.route
        have hh2 := hopsW_len sz es2 now
        have hJ := fun t s h => (s_IDs (hopsW sz es2 now) (by omega) a2 t s h).grow hx2
        rw [hopsW_ids] at hJ
        have hK := fun t t' s' h => (s_Ends1 l (by omega) (es2.map Eg.id) (by simp; omega) fr ha0 es2 (chain_steps gA.route.ask.2.2.2 gA.way.chain) t 8 (.inl rfl) t' s' h).grow hx2
        have hG := fun tn v15 v16 v18 v22 v26 => l_G (fr :: es2.map Eg.to) (by simp; omega) tn shut (by omega) v15 v16 v18 v22 v26 (es2.map Eg.to) [fr] rfl (fun x hx => by
          obtain ⟨e, he, rfl⟩ := List.mem_map.1 hx
          exact gA.op e he)
        have hC := fun t t' s s' h1 h2 => (s_CompareR (hopsW sz es now) a (hopsW sz es2 now) a2 (by omega) (by omega) t t' s s' h1 h2).grow hx2
        have hc : cmpR (hopsW sz es now) a (hopsW sz es2 now) a2 ≤ 0 := by
          rcases gB.cmp gA.route (by simp) with h | ⟨h, _⟩ <;> rw [h] <;> omega
        generalize cmpR (hopsW sz es now) a (hopsW sz es2 now) a2 = c at *
        have hS := fun t t' s s' h1 h2 => (s_SameR (hopsW sz es2 now) (hopsW sz es now) a2 a (by omega) t t' s s' h1 h2).grow hx2
        have hsame : (es.map Eg.to).all (offB shut) = true → decide (a2 = a ∧ hopsW sz es2 now = hopsW sz es now) = true := fun h => by
          rw [List.all_eq_true] at h
          obtain ⟨h1, h2⟩ := gA.same gB (fun e he => offB_iff.1 (h e.to (List.mem_map_of_mem he)))
          subst h1 h2
          simp
        generalize decide (a2 = a ∧ hopsW sz es2 now = hopsW sz es now) = sb0 at *
        clear gB gA hb ha ha0
        generalize hopsW sz es now = x at *
        generalize hopsW sz es2 now = y at *
        generalize hns2 : fr :: es.map Eg.to = n at *
        generalize hms2 : fr :: es2.map Eg.to = m at *
        cases hfb : (es.map Eg.to).all (offB shut) with
        | false =>
          rw [hfb] at hF
          repeat' (first
 | (refine I_WS ?_; first
 | refine W_lenM rfl rfl rfl ?_
 | refine W_store (cs' := [_, _]) rfl rfl rfl rfl (Nat.zero_le _) rfl rfl rfl ?_
 | (refine I_mov ?_; first
 | refine W_mov (v := .int _ _) rfl rfl rfl ?_
 | refine W_mov (v := .bool _) rfl rfl rfl ?_
 | refine W_mov (v := .slice _ _ _) rfl rfl rfl ?_
 | refine W_mov (v := .tuple _) rfl rfl rfl ?_)
 | (refine I_bin ?_; first
 | refine W_gtrF rfl rfl rfl rfl (by omega) ?_)
 | (refine I_load ?_; first
 | refine W_load (agg := true) (d := .agg [_, _]) rfl rfl rfl rfl (Nat.zero_le _) rfl ?_)
 | (refine I_call ?_; first
 | refine W_call rfl rfl rfl s_small rfl rfl ?_
 | (refine W_callA rfl rfl rfl hA rfl ?_; intro ta sa hsa tk0 nt0)
 | (refine W_callA rfl rfl rfl hB rfl ?_; intro tb sb hsb tk2 nt2)
 | (refine W_callN rfl rfl rfl (hI _ _ hsb) rfl ?_; intro ti si hsi hti)
 | (refine W_callT rfl rfl rfl (hE _ _ _ hsi) rfl ?_; intro te se hse tk1 nt1))
 | (refine I_pick ?_; first
 | refine W_pick (v := .bool _) rfl rfl rfl rfl ?_)
 | (refine I_extract ?_; first
 | refine W_extract (d := .bool _) rfl rfl rfl rfl ?_
 | refine W_extract (d := .slice _ _ _) rfl rfl rfl rfl ?_
 | refine W_extract (d := .agg _) rfl rfl rfl rfl ?_)
 | refine W_not rfl rfl rfl ?_
 | refine W_alloc rfl rfl ?_
 | refine WS_nil ?_)
 | refine WC_seq ?_
 | refine WC_opsS ?_
 | refine WC_skip ?_
 | refine WC_condF rfl ?_
 | refine WC_block ?_)
          have hse : se = 1 := hse.resolve_right (by rw [← hns2]; simp)
          subst hse
          refine hF te (.slice .no 8 (l.map Eg.e)) (.int .i64 fr) (.bool true) (.ptr 0 0) (.bool true) (.ptr 1 0) _ _ ?_ ?_ ?_ ?_ ?_ ?_ ?_ ?_ ?_ ?_ _ (fun ρ' k0 k1 k15 k16 k17 k18 k6 k22 => ?_)
          all_goals first | rfl | skip
          rw [← upd_self k0, ← upd_self k1, ← upd_self k15, ← upd_self k16, ← upd_self k17, ← upd_self k18, ← upd_self k6, ← upd_self k22]
          repeat' (first
 | (refine I_WS ?_; first
 | (refine I_mov ?_; first
 | refine W_mov (v := .int _ _) rfl rfl rfl ?_
 | refine W_mov (v := .bool _) rfl rfl rfl ?_
 | refine W_mov (v := .slice _ _ _) rfl rfl rfl ?_
 | refine W_mov (v := .tuple _) rfl rfl rfl ?_)
 | (refine I_load ?_; first
 | refine W_load (agg := true) (d := .agg [_, _]) rfl rfl rfl rfl (Nat.zero_le _) rfl ?_)
 | (refine I_call ?_; first
 | (refine W_callN rfl rfl rfl (hJ _ _ hsa) rfl ?_; intro tj sj hsj htj)
 | (refine W_callT rfl rfl rfl (hK _ _ _ hsj) rfl ?_; intro tf sf hsf tk3 nt3))
 | (refine I_extract ?_; first
 | refine W_extract (d := .bool _) rfl rfl rfl rfl ?_
 | refine W_extract (d := .slice _ _ _) rfl rfl rfl rfl ?_)
 | refine WS_nil ?_)
 | refine WC_seq ?_
 | refine WC_opsS ?_
 | refine WC_block ?_)
          have hsf : sf = 1 := hsf.resolve_right (by rw [← hms2]; simp)
          subst hsf
          refine hG tf (.bool true) (.ptr 0 0) (.ptr 1 0) (.bool false) (.bool true) _ _ ?_ ?_ ?_ ?_ ?_ ?_ ?_ ?_ ?_ _ (fun ρ2 k15 k16 k18 k22 k26 k17 => ?_)
          all_goals first | rfl | skip
          rw [← upd_self k15, ← upd_self k16, ← upd_self k18, ← upd_self k22, ← upd_self k26, ← upd_self k17]
          repeat' (first
 | (refine I_WS ?_; first
 | refine W_leqT rfl rfl rfl rfl hc ?_
 | (refine I_mov ?_; first
 | refine W_skip rfl ?_
 | refine W_mov (v := .bool _) rfl rfl rfl ?_)
 | (refine I_load ?_; first
 | refine W_skip rfl ?_
 | refine W_load (agg := true) (d := .agg [_, _]) rfl rfl rfl rfl (Nat.zero_le _) rfl ?_)
 | (refine I_call ?_; first
 | refine W_skip rfl ?_
 | refine W_call rfl rfl rfl (hC _ _ _ _ hsb hsa) rfl rfl ?_)
 | (refine I_pick ?_; first
 | refine W_pick (v := .bool _) rfl rfl rfl rfl ?_
 | refine W_skip rfl ?_)
 | refine W_not rfl rfl rfl ?_
 | refine WS_nil ?_)
 | refine WC_seq ?_
 | refine WC_opsS ?_
 | refine WC_ret ?_)
          all_goals first | exact fin_bool (.inr rfl) rfl rfl | (exfalso; omega)
        | true =>
          rw [hfb] at hF
          have hsb0 := hsame hfb
          subst hsb0
          repeat' (first
 | (refine I_WS ?_; first
 | refine W_lenM rfl rfl rfl ?_
 | refine W_store (cs' := [_, _]) rfl rfl rfl rfl (Nat.zero_le _) rfl rfl rfl ?_
 | (refine I_mov ?_; first
 | refine W_mov (v := .int _ _) rfl rfl rfl ?_
 | refine W_mov (v := .bool _) rfl rfl rfl ?_
 | refine W_mov (v := .slice _ _ _) rfl rfl rfl ?_
 | refine W_mov (v := .tuple _) rfl rfl rfl ?_)
 | (refine I_bin ?_; first
 | refine W_gtrF rfl rfl rfl rfl (by omega) ?_)
 | (refine I_load ?_; first
 | refine W_load (agg := true) (d := .agg [_, _]) rfl rfl rfl rfl (Nat.zero_le _) rfl ?_)
 | (refine I_call ?_; first
 | refine W_call rfl rfl rfl s_small rfl rfl ?_
 | (refine W_callA rfl rfl rfl hA rfl ?_; intro ta sa hsa tk0 nt0)
 | (refine W_callA rfl rfl rfl hB rfl ?_; intro tb sb hsb tk2 nt2)
 | (refine W_callN rfl rfl rfl (hI _ _ hsb) rfl ?_; intro ti si hsi hti)
 | (refine W_callT rfl rfl rfl (hE _ _ _ hsi) rfl ?_; intro te se hse tk1 nt1))
 | (refine I_pick ?_; first
 | refine W_pick (v := .bool _) rfl rfl rfl rfl ?_)
 | (refine I_extract ?_; first
 | refine W_extract (d := .bool _) rfl rfl rfl rfl ?_
 | refine W_extract (d := .slice _ _ _) rfl rfl rfl rfl ?_
 | refine W_extract (d := .agg _) rfl rfl rfl rfl ?_)
 | refine W_not rfl rfl rfl ?_
 | refine W_alloc rfl rfl ?_
 | refine WS_nil ?_)
 | refine WC_seq ?_
 | refine WC_opsS ?_
 | refine WC_skip ?_
 | refine WC_condF rfl ?_
 | refine WC_block ?_)
          have hse : se = 1 := hse.resolve_right (by rw [← hns2]; simp)
          subst hse
          refine hF te (.slice .no 8 (l.map Eg.e)) (.int .i64 fr) (.bool true) (.ptr 0 0) (.bool true) (.ptr 1 0) _ _ ?_ ?_ ?_ ?_ ?_ ?_ ?_ ?_ ?_ ?_ _ (fun ρ' k0 k1 k15 k16 k17 k18 k6 k22 => ?_)
          all_goals first | rfl | skip
          rw [← upd_self k0, ← upd_self k1, ← upd_self k15, ← upd_self k16, ← upd_self k17, ← upd_self k18, ← upd_self k6, ← upd_self k22]
          repeat' (first
 | (refine I_WS ?_; first
 | (refine I_mov ?_; first
 | refine W_mov (v := .int _ _) rfl rfl rfl ?_
 | refine W_mov (v := .bool _) rfl rfl rfl ?_
 | refine W_mov (v := .slice _ _ _) rfl rfl rfl ?_
 | refine W_mov (v := .tuple _) rfl rfl rfl ?_)
 | (refine I_load ?_; first
 | refine W_load (agg := true) (d := .agg [_, _]) rfl rfl rfl rfl (Nat.zero_le _) rfl ?_)
 | (refine I_call ?_; first
 | (refine W_callN rfl rfl rfl (hJ _ _ hsa) rfl ?_; intro tj sj hsj htj)
 | (refine W_callT rfl rfl rfl (hK _ _ _ hsj) rfl ?_; intro tf sf hsf tk3 nt3))
 | (refine I_extract ?_; first
 | refine W_extract (d := .bool _) rfl rfl rfl rfl ?_
 | refine W_extract (d := .slice _ _ _) rfl rfl rfl rfl ?_)
 | refine WS_nil ?_)
 | refine WC_seq ?_
 | refine WC_opsS ?_
 | refine WC_block ?_)
          have hsf : sf = 1 := hsf.resolve_right (by rw [← hms2]; simp)
          subst hsf
          refine hG tf (.bool true) (.ptr 0 0) (.ptr 1 0) (.bool true) (.bool true) _ _ ?_ ?_ ?_ ?_ ?_ ?_ ?_ ?_ ?_ _ (fun ρ2 k15 k16 k18 k22 k26 k17 => ?_)
          all_goals first | rfl | skip
          rw [← upd_self k15, ← upd_self k16, ← upd_self k18, ← upd_self k22, ← upd_self k26, ← upd_self k17]
          repeat' (first
 | (refine I_WS ?_; first
 | refine W_leqT rfl rfl rfl rfl hc ?_
 | (refine I_mov ?_; first
 | refine W_mov (v := .bool _) rfl rfl rfl ?_)
 | (refine I_load ?_; first
 | refine W_load (agg := true) (d := .agg [_, _]) rfl rfl rfl rfl (Nat.zero_le _) rfl ?_)
 | (refine I_call ?_; first
 | refine W_call rfl rfl rfl (hC _ _ _ _ hsb hsa) rfl rfl ?_
 | refine W_call rfl rfl rfl (hS _ _ _ _ hsa hsb) rfl rfl ?_)
 | (refine I_pick ?_; first
 | refine W_pick (v := .bool _) rfl rfl rfl rfl ?_)
 | refine W_not rfl rfl rfl ?_
 | refine WS_nil ?_)
 | refine WC_seq ?_
 | refine WC_opsS ?_
 | refine WC_ret ?_)
          all_goals first | exact fin_bool (.inr rfl) rfl rfl | (exfalso; omega)
  · repeat' (first
 | (refine I_WS ?_; first
 | refine W_lenM rfl rfl rfl ?_
 | (refine I_mov ?_; first
 | refine W_skip rfl ?_
 | refine W_mov (v := .bool _) rfl rfl rfl ?_
 | refine W_mov (v := .slice _ _ _) rfl rfl rfl ?_)
 | (refine I_bin ?_; first
 | refine W_skip rfl ?_
 | refine W_gtrT rfl rfl rfl rfl (by omega) ?_
 | (refine W_gtr rfl rfl rfl rfl ?_ ?_ <;> intro _))
 | (refine I_call ?_; first
 | refine W_call rfl rfl rfl s_small rfl rfl ?_)
 | (refine I_pick ?_; first
 | refine W_pick (v := .bool _) rfl rfl rfl rfl ?_)
 | refine W_skip rfl ?_
 | refine WS_nil ?_)
 | refine WC_seq ?_
 | refine WC_opsS ?_
 | refine WC_condT rfl ?_
 | refine WC_ret ?_)
    all_goals first | exact fin_bool (.inr rfl) rfl rfl | (exfalso; omega)
end Go.Lea
