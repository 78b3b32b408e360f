/-
  The times: the earliest node goes on first.
-/
import Derived.Test.YtjcilbnbciclpaaLeaEarT
set_option linter.unusedVariables false
set_option linter.unusedSimpArgs false
set_option linter.unnecessarySimpa false

namespace Go.Lea
open Go.Ev
set_option linter.unusedVariables false
set_option linter.unusedSimpArgs false
theorem rd_ele (a : Rd) : Elem 2 a.e := ⟨rfl, rfl⟩
/-- What is told so far: in a row of its own, apart from the heap. -/
def OutR (st : Store) (h : Nat) (o : Option Nat) (d : D) (out : List Rd) : Prop := (out = [] ∧ d = .slice .isnil 0 []) ∨ ∃ q n c, 2 ≤ q ∧ q ≠ h ∧ some q ≠ o ∧ n = out.length ∧ out ≠ [] ∧ d = .rs q 0 2 n c ∧ RowIs st q 2 (out.map Rd.e)
theorem OutR.ne {st : Store} {h : Nat} {o : Option Nat} {d : D} {out : List Rd} (H : OutR st h o d out) {x : Nat} (hx : x < 2 ∨ x = h ∨ some x = o ∨ st.next ≤ x) : ∀ n c, d ≠ .rs x 0 2 n c := by
  rintro n c rfl
  rcases H with ⟨_, h⟩ | ⟨q, n', c', h1, h2, h3, _, _, h4, hR⟩
  · cases h
  · cases h4
    have := hR.2.1
    rcases hx with hx | hx | hx | hx
    · omega
    · exact h2 hx
    · exact h3 hx
    · omega
theorem OutR.of {st st' : Store} {h : Nat} {o o' : Option Nat} {d : D} {out : List Rd} (H : OutR st h o d out) (hl : st'.lim ≤ 0) (hn : st.next ≤ st'.next) (hb : ∀ q n c, d = .rs q 0 2 n c → st'.boxes q = st.boxes q ∧ some q ≠ o') : OutR st' h o' d out := by
  rcases H with h | ⟨q, n, c, h1, h2, h3, h4, h5, rfl, hR⟩
  · exact .inl h
  · obtain ⟨e1, e2⟩ := hb q n c rfl
    exact .inr ⟨q, n, c, h1, h2, e2, h4, h5, rfl, hR.of (by omega) (Nat.lt_of_lt_of_le hR.2.1 hn) e1⟩
section
variable {Γ : Nat → Option FD} {ρ : Nat → D} {st : Store} {dr : Bool} {R : (Nat → D) → Store → List Fl → Prop} {l : List Op1} {g : Option (Nat × Bool)} {mv : Bool} {k : Nat} {x y : A}
theorem W_appOut {bytes h : Nat} {o : Option Nat} {d : D} {out : List Rd} {r : Rd} {t : Tok} (hg : guardV ρ g = some true) (hx : x.ev ρ = d) (hy : y.ev ρ = .slice t 2 [r.e]) (hm : mv = true) (hO : OutR st h o d out) (hb : (out.length + 1) * bytes ≤ 140737488355328) (hl : st.lim ≤ st.next) (h2 : 2 ≤ st.next) (hh : h < st.next) (ho : ∀ r, o = some r → r < st.next)
    (H : ∀ st' d', st'.lim = st.lim → st.next ≤ st'.next → OutR st' h o d' (out ++ [r]) → (∀ x, x < st.next → (∀ n c, d ≠ .rs x 0 2 n c) → st'.boxes x = st.boxes x) → WS Γ dr l (upd ρ k d') st' (nx .f R)) : WS Γ dr (⟨some k, g, mv, .append 2 bytes x y⟩ :: l) ρ st R := by
  have hys : ∀ d ∈ [r.e], Elem 2 d := fun d hd => by rw [List.mem_singleton.mp hd]; exact rd_ele r
  rcases hO with ⟨rfl, rfl⟩ | ⟨q, n, c, h1, h2', h3, rfl, h5, rfl, hR⟩
  · refine W_appNew hg hx (.inr rfl) (.inr rfl) hy hm (.inl rfl) (by simp) (by simp) hys (by simpa using hb) hl (fun st' e1 _ _ _ hR' hoth hn => ?_)
    refine H st' _ e1 (by omega) (.inr ⟨st.next, _, _, h2, by omega, fun e => by have := ho st.next e.symm; omega, rfl, by simp, rfl, by simpa using hR'⟩) (fun x hx _ => hoth x hx)
  · refine W_appRow hg hx hy hR (by simp) (.inl rfl) (fun d hd => by
      obtain ⟨a, _, rfl⟩ := List.mem_map.mp hd
      rfl) hys (by simpa using hb) (fun p' c' st' e1 _ _ _ hR' hoth hn hp => ?_)
    refine H st' _ e1 hn (.inr ⟨p', _, c', ?_, ?_, ?_, by simp, by simp, rfl, by simpa using hR'⟩) (fun x hx hne => hoth x (fun e => by subst e; exact hne _ _ rfl) hx)
    · rcases hp with rfl | hp
      · exact h1
      · omega
    · rcases hp with rfl | hp
      · exact h2'
      · omega
    · rcases hp with rfl | hp
      · exact h3
      · intro e
        have := ho p' e.symm
        omega
end
theorem KVA.set {kv : List (Int × D)} {out : List Rd} (h : KVA kv out) (r : Rd) : KVA (kvSet r.node (.int .i64 r.at') kv) (out ++ [r]) := fun n => by
  rw [kvGet_set, vis_snoc]
  by_cases e : n = r.node
  · rw [if_pos e]
    exact ⟨r.at', rfl, by simp [e]⟩
  · rw [if_neg e]
    obtain ⟨u, h1, h2⟩ := h n
    refine ⟨u, h1, ?_⟩
    rw [h2]
    have : ¬ r.node = n := fun x => e x.symm
    simp [this]
set_option maxHeartbeats 8000000 in
theorem l_out (l : List Eg) (hll : l.length ≤ 1000) (t0 : Tok) (s0 : Nat) (hs0 : s0 = 8 ∨ l = []) (sz : Int) (cl : Int → Bool) (kvc : List (Int × D)) (hkc : KVC kvc cl) : ∀ (n : Nat) (out s : List Rd), meas l out s ≤ n → n + out.length ≤ 100000 → ∀ (kva : List (Int × D)), KVA kva out → ∀ (ρ : Nat → D) (st : Store) (h : Nat) (o : Option Nat) (d v4 : D),
    st.lim ≤ 0 → 2 ≤ h → (∀ r, o = some r → 2 ≤ r) → AH st h o s → st.boxes 0 = some (.map kvc) → st.boxes 1 = some (.map kva) → OutR st h o d out →
    ρ 0 = .slice t0 s0 (l.map Eg.e) → ρ 3 = .int .i64 sz → ρ 4 = v4 → ρ 10 = d → ρ 11 = .map 0 → ρ 14 = .map 1 → ρ 15 = .ptr h 0 → ∀ (Q : X → (Nat → D) → Store → Prop),
    (∀ ρ' st' d' h' o', st'.lim ≤ 0 → OutR st' h' o' d' (dij (psz sz) cl l n out s) → ρ' 10 = d' → Q (.exit 2) ρ' st') → WC Γ (.loop c_early_Times_l2) ρ st Q := by
  intro n
  induction n with
  | zero =>
    intro out s hm hno kva hka ρ st h o d v4 hlim hh2 ho2 H hb0 hb1 hO h0 h3 h4 h10 h11 h14 h15 Q hQ
    have hs : s = [] := List.length_eq_zero_iff.mp (by unfold meas at hm; omega)
    subst hs
    have hLen : EvRO Γ 40 [.ptr h 0] st (.int .i64 0) := s_LenA H (by simp)
    rw [← upd_self h0, ← upd_self h3, ← upd_self h4, ← upd_self h10, ← upd_self h11, ← upd_self h14, ← upd_self h15]
    refine WC_loop ?_
    repeat' (first
 | (refine I_WS ?_; first
 | (refine I_mov ?_; first
 | refine W_mov (v := .ptr _ _) rfl rfl rfl ?_)
 | (refine I_bin ?_; first
 | refine W_gtrF rfl rfl rfl rfl (by omega) ?_)
 | (refine I_call ?_; first
 | refine W_callRO rfl rfl rfl hLen rfl rfl ?_)
 | refine WS_nil ?_)
 | refine WC_seq ?_
 | refine WC_opsS ?_
 | refine WC_condF rfl ?_
 | refine WC_exit ?_)
    exact hQ _ _ d h o hlim hO rfl
  | succ n ih =>
    intro out s hm hno kva hka ρ st h o d v4 hlim hh2 ho2 H hb0 hb1 hO h0 h3 h4 h10 h11 h14 h15 Q hQ
    cases s with
    | nil =>
      have hLen : EvRO Γ 40 [.ptr h 0] st (.int .i64 0) := s_LenA H (by simp)
      rw [← upd_self h0, ← upd_self h3, ← upd_self h4, ← upd_self h10, ← upd_self h11, ← upd_self h14, ← upd_self h15]
      refine WC_loop ?_
      repeat' (first
 | (refine I_WS ?_; first
 | (refine I_mov ?_; first
 | refine W_mov (v := .ptr _ _) rfl rfl rfl ?_)
 | (refine I_bin ?_; first
 | refine W_gtrF rfl rfl rfl rfl (by omega) ?_)
 | (refine I_call ?_; first
 | refine W_callRO rfl rfl rfl hLen rfl rfl ?_)
 | refine WS_nil ?_)
 | refine WC_seq ?_
 | refine WC_opsS ?_
 | refine WC_condF rfl ?_
 | refine WC_exit ?_)
      exact hQ _ _ d h o hlim hO rfl
    | cons r s =>
      have hsl : s.length + 1 ≤ n + 1 := by unfold meas at hm; simp at hm; omega
      have hLen : EvRO Γ 40 [.ptr h 0] st (.int .i64 ((s.length : Int) + 1)) := by
        have := s_LenA H (by simp; omega)
        simpa using this
      have hPop : EvRWX Γ 41 [.ptr h 0] st (fun r0 st' => r0 = .tuple [r.e, .bool true] ∧ AH st' h o s ∧ Fr st st' h o o) := by
        have := s_PopA H (by simp; omega)
        simpa [hdR] using this
      have hnh := H.nx
      have hne0 : some 0 ≠ o := fun e => by have := ho2 0 e.symm; omega
      have hne1 : some 1 ≠ o := fun e => by have := ho2 1 e.symm; omega
      rw [← upd_self h0, ← upd_self h3, ← upd_self h4, ← upd_self h10, ← upd_self h11, ← upd_self h14, ← upd_self h15]
      refine WC_loop ?_
      repeat' (first
 | (refine I_WS ?_; first
 | (refine I_mov ?_; first
 | refine W_mov (v := .ptr _ _) rfl rfl rfl ?_)
 | (refine I_bin ?_; first
 | refine W_gtrT rfl rfl rfl rfl (by omega) ?_)
 | (refine I_call ?_; first
 | refine W_callRO rfl rfl rfl hLen rfl rfl ?_
 | (refine W_callRWX rfl rfl rfl hPop ?_ <;> intro r0 st1 hp0))
 | refine WS_nil ?_)
 | refine WC_seq ?_
 | refine WC_opsS ?_
 | refine WC_skip ?_
 | refine WC_condT rfl ?_
 | refine WC_block ?_)
      obtain ⟨rfl, H1, F1⟩ := hp0
      have hlim1 : st1.lim ≤ 0 := by rw [F1.lim]; exact hlim
      have hll1 : st1.lim ≤ st1.next := by omega
      have hnx1 : st.next ≤ st1.next := F1.next
      have h31 : 2 < st1.next := by omega
      have hc0 : st1.boxes 0 = some (.map kvc) := by rw [F1.box 0 (by omega) (by omega) hne0]; exact hb0
      have hc1 : st1.boxes 1 = some (.map kva) := by rw [F1.box 1 (by omega) (by omega) hne1]; exact hb1
      have hO1 : OutR st1 h o d out := by
        rcases hO with hO | ⟨q, n', c, k1, k2, k3, k4, k5, rfl, hR⟩
        · exact .inl hO
        · exact .inr ⟨q, n', c, k1, k2, k3, k4, k5, rfl, hR.of (by omega) (Nat.lt_of_lt_of_le hR.2.1 hnx1) (F1.box q hR.2.1 k2 k3)⟩
      have ho3 : ∀ r, o = some r → r < st1.next := fun r hr => by subst hr; exact H1.onx
      obtain ⟨u, hu1, hu2⟩ := hka r.node
      have q1 : (1 : Nat) ≠ st1.next := by omega
      have q0 : (0 : Nat) ≠ st1.next := by omega
      clear hb0 hb1 hO H hLen hPop F1 hnh
      cases hv : vis out r.node with
      | true =>
        rw [hv] at hu2
        have hd : dij (psz sz) cl l (n + 1) out (r :: s) = dij (psz sz) cl l n out s := by rw [dij, if_pos hv]
        have hms : meas l out s ≤ n := by have := meas_skip (l := l) (out := out) (s := s) (r := r); omega
        have hnext : ∀ (ρ' : Nat → D) (x y : Option Box), ρ' 0 = .slice t0 s0 (l.map Eg.e) → ρ' 3 = .int .i64 sz → ρ' 4 = v4 → ρ' 10 = d → ρ' 11 = .map 0 → ρ' 14 = .map 1 → ρ' 15 = .ptr h 0 → WC Γ (.loop c_early_Times_l2) ρ' { st1 with boxes := upd (upd st1.boxes st1.next x) st1.next y, next := st1.next + 1 } Q := fun ρ' x y k0 k3 k4 k10 k11 k14 k15 =>
          ih out s hms (by omega) kva hka ρ' { st1 with boxes := upd (upd st1.boxes st1.next x) st1.next y, next := st1.next + 1 } h o d v4 hlim1 hh2 ho2 (H1.of rfl (Nat.le_succ _) (fun q hq _ => (upd_ne _ _ (Nat.ne_of_lt hq)).trans (upd_ne _ _ (Nat.ne_of_lt hq))))
            ((upd_ne _ _ q0).trans ((upd_ne _ _ q0).trans hc0)) ((upd_ne _ _ q1).trans ((upd_ne _ _ q1).trans hc1))
            (by
              rcases hO1 with hO | ⟨q, n', c, k1, k2, k3, k4, k5, rfl, hR⟩
              · exact .inl hO
              · have hq := hR.2.1
                exact .inr ⟨q, n', c, k1, k2, k3, k4, k5, rfl, hR.of hR.1 (Nat.lt_succ_of_lt hq) ((upd_ne _ _ (Nat.ne_of_lt hq)).trans (upd_ne _ _ (Nat.ne_of_lt hq)))⟩)
            k0 k3 k4 k10 k11 k14 k15 Q (fun ρ'' st'' d' h' o' f1 f2 f3 => hQ ρ'' st'' d' h' o' f1 (by rw [hd]; exact f2) f3)
        clear ih hQ
        repeat' (first
 | (refine I_WS ?_; first
 | refine W_store (cs' := [_, _]) rfl rfl (upd_same _ _ _) rfl hll1 rfl rfl rfl ?_
 | refine W_lookupT rfl rfl rfl ((upd_ne _ _ q1).trans ((upd_ne _ _ q1).trans hc1)) hu1 hu2 rfl ?_
 | (refine I_mov ?_; first
 | refine W_mov (v := .int _ _) rfl rfl rfl ?_
 | refine W_mov (v := .bool _) rfl rfl rfl ?_
 | refine W_mov (v := .tuple _) rfl rfl rfl ?_
 | refine W_mov (v := .map _) rfl rfl rfl ?_)
 | (refine I_load ?_; first
 | refine W_load (agg := false) (d := .int _ _) rfl rfl rfl (bxc rfl) (by first | exact Nat.zero_le _ | assumption | exact Nat.le_trans hlim (Nat.zero_le _) | omega) rfl ?_)
 | (refine I_extract ?_; first
 | refine W_extract (d := .int _ _) rfl rfl rfl rfl ?_
 | refine W_extract (d := .bool _) rfl rfl rfl rfl ?_
 | refine W_extract (d := .agg _) rfl rfl rfl rfl ?_)
 | refine W_faddr rfl rfl rfl ?_
 | refine W_alloc rfl rfl ?_
 | refine WS_nil ?_)
 | refine WC_seq ?_
 | refine WC_opsS ?_
 | refine WC_condT rfl ?_
 | refine WC_exit ?_)
        refine hnext _ _ _ ?_ ?_ ?_ ?_ ?_ ?_ ?_ <;> rfl
      | false =>
        rw [hv] at hu2
        have hd : dij (psz sz) cl l (n + 1) out (r :: s) = dij (psz sz) cl l n (out ++ [r]) (pushes (psz sz) cl (out ++ [r]) r.at' (fromE r.node l) s) := by rw [dij, if_neg (by simp [hv])]
        have hms : meas l (out ++ [r]) (pushes (psz sz) cl (out ++ [r]) r.at' (fromE r.node l) s) ≤ n := by have := meas_go (ps := psz sz) (cl := cl) (l := l) (s := s) hv; omega
        have hF := fun t => s_From r.node l (by omega) t s0 hs0
        have hfl : (fromE r.node l).length ≤ l.length := by unfold fromE; exact List.length_filter_le _ _
        have hkv' := hka.set r
        have hbd : (out.length + 1) * 16 ≤ 140737488355328 := by omega
        have hqb1 : st1.next ≠ 1 := by omega
        have hl01 : st1.lim ≤ 1 := by omega
        have hneb : ∀ n c, d ≠ .rs st1.next 0 2 n c := hO1.ne (.inr (.inr (.inr (Nat.le_refl _))))
        have hO2 : ∀ {x y z : Option Box}, OutR { st1 with boxes := upd (upd (upd st1.boxes st1.next x) st1.next y) 1 z, next := st1.next + 1 } h o d out := fun {x y z} => hO1.of hlim1 (Nat.le_succ _) (fun q n c e => by
          have h1 : ¬ q < 2 := fun hq => hO1.ne (.inl hq) n c e
          have h2 : some q ≠ o := fun hq => hO1.ne (.inr (.inr (.inl hq))) n c e
          have h3 : ¬ st1.next ≤ q := fun hq => hO1.ne (.inr (.inr (.inr hq))) n c e
          exact ⟨(upd_ne _ _ (by omega)).trans ((upd_ne _ _ (by omega)).trans (upd_ne _ _ (by omega))), h2⟩)
        have hkeep2 : ∀ {x y z : Option Box} (q : Nat), q < st1.next → q ≠ 1 → (upd (upd (upd st1.boxes st1.next x) st1.next y) 1 z) q = st1.boxes q := fun {x y z} q hq hq1 => (upd_ne _ _ hq1).trans ((upd_ne _ _ (Nat.ne_of_lt hq)).trans (upd_ne _ _ (Nat.ne_of_lt hq)))
        have hhn1 : h < st1.next + 1 := Nat.lt_succ_of_lt H1.nx
        have ho4 : ∀ r, o = some r → r < st1.next + 1 := fun r hr => Nat.lt_succ_of_lt (ho3 r hr)
        have h2n : 2 ≤ st1.next + 1 := by omega
        have hll2 : st1.lim ≤ st1.next + 1 := by omega
        repeat' (first
 | (refine I_WS ?_; first
 | refine W_store (cs' := [_, _]) rfl rfl (upd_same _ _ _) rfl hll1 rfl rfl rfl ?_
 | refine W_lookupT rfl rfl rfl ((upd_ne _ _ q1).trans ((upd_ne _ _ q1).trans hc1)) hu1 hu2 rfl ?_
 | refine W_mapset (v := .int .i64 r.at') rfl rfl rfl ((upd_ne _ _ q1).trans ((upd_ne _ _ q1).trans hc1)) hl01 rfl rfl ?_
 | refine W_mov (v := d3) rfl rfl rfl ?_
 | refine W_mov (v := d) rfl rfl rfl ?_
 | (refine W_appOut rfl rfl rfl rfl hO2 hbd hll2 h2n hhn1 ho4 ?_; intro st3 d3 e1 e2 hO3 hoth3; have hbb3 : (st3.boxes st1.next).bind Box.cs = some [.int .i64 r.node, .int .i64 r.at'] := (congrArg (fun x => Option.bind x Box.cs) (hoth3 st1.next (Nat.lt_succ_self _) hneb)).trans (bxs hqb1 (bxc rfl)); have hlb3 : st3.lim ≤ st1.next := Nat.le_trans (Nat.le_of_eq e1) hll1)
 | refine W_lenM rfl rfl rfl ?_
 | (refine I_mov ?_; first
 | refine W_mov (v := .int _ _) rfl rfl rfl ?_
 | refine W_mov (v := .bool _) rfl rfl rfl ?_
 | refine W_mov (v := .slice _ _ _) rfl rfl rfl ?_
 | refine W_mov (v := .tuple _) rfl rfl rfl ?_
 | refine W_mov (v := .map _) rfl rfl rfl ?_)
 | (refine I_load ?_; first
 | refine W_load (agg := false) (d := .int _ _) rfl rfl rfl hbb3 hlb3 rfl ?_
 | refine W_load (agg := true) (d := .agg [_, _]) rfl rfl rfl (bxs hqb1 (bxc rfl)) hll1 rfl ?_
 | refine W_load (agg := false) (d := .int _ _) rfl rfl rfl (bxc rfl) hll1 rfl ?_)
 | (refine I_call ?_; first
 | (refine W_callS rfl rfl rfl (hF _) rfl ?_; intro tf sf hsf1 tk5 nt5))
 | (refine I_extract ?_; first
 | refine W_extract (d := .int _ _) rfl rfl rfl rfl ?_
 | refine W_extract (d := .bool _) rfl rfl rfl rfl ?_
 | refine W_extract (d := .agg _) rfl rfl rfl rfl ?_)
 | refine W_faddr rfl rfl rfl ?_
 | refine W_alloc rfl rfl ?_
 | refine W_bslice (ys := [_]) rfl rfl rfl (by decide) rfl ?_
 | refine WS_nil ?_)
 | refine WC_seq ?_
 | refine WC_opsS ?_
 | refine WC_skip ?_
 | refine WC_condF rfl ?_
 | refine WC_block ?_)
        have e1' : st3.lim = st1.lim := e1
        have e2' : st1.next + 1 ≤ st3.next := e2
        have hlim3 : st3.lim ≤ 0 := by rw [e1']; exact hlim1
        have hb03 : st3.boxes 0 = some (.map kvc) := by
          rw [hoth3 0 (by show 0 < st1.next + 1; omega) (hO1.ne (.inl (by omega)))]
          exact (hkeep2 (z := none) 0 (by omega) (by omega)).trans hc0
        have hb13 : st3.boxes 1 = some (.map (kvSet r.node (.int .i64 r.at') kva)) := (hoth3 1 (by show 1 < st1.next + 1; omega) (hO1.ne (.inl (by omega)))).trans rfl
        have H3 : AH st3 h o s := H1.of e1' (by omega) (fun q hq hqo => by
          rw [hoth3 q (Nat.lt_succ_of_lt hq) (hO1.ne (by
            rcases hqo with h' | h'
            · exact .inr (.inl h')
            · exact .inr (.inr (.inl h'))))]
          refine hkeep2 q hq ?_
          rcases hqo with rfl | h'
          · omega
          · have := ho2 q h'.symm
            omega)
        have hKn : ∀ q, (q = 0 ∨ q = 1 ∨ q = st1.next ∨ ∃ n c, d3 = .rs q 0 2 n c) → q < st3.next ∧ q ≠ h := by
          have := H1.nx
          rintro q (rfl | rfl | rfl | ⟨n', c', e⟩)
          · omega
          · omega
          · omega
          · exact ⟨Nat.lt_of_not_le fun hq => hO3.ne (.inr (.inr (.inr hq))) n' c' e, fun hq => hO3.ne (.inr (.inl hq)) n' c' e⟩
        have hKo : ∀ q, (q = 0 ∨ q = 1 ∨ q = st1.next ∨ ∃ n c, d3 = .rs q 0 2 n c) → some q ≠ o := by
          rintro q (rfl | rfl | rfl | ⟨n', c', e⟩)
          · exact hne0
          · exact hne1
          · intro e
            have := ho3 _ e.symm
            omega
          · exact fun hq => hO3.ne (.inr (.inr (.inl hq))) n' c' e
        refine l_in sz cl (out ++ [r]) kvc (kvSet r.node (.int .i64 r.at') kva) hkc hkv' r.at' (fromE r.node l) (by omega) tf sf hsf1 h st1.next { st3 with toks := tk5, ntok := nt5 } (fun q => q = 0 ∨ q = 1 ∨ q = st1.next ∨ ∃ n c, d3 = .rs q 0 2 n c) (.inl rfl) (.inr (.inl rfl)) (.inr (.inr (.inl rfl))) hKn hb03 hb13 r.node hbb3 (.slice t0 s0 (l.map Eg.e)) v4 d3 (fromE r.node l) [] rfl _ { st3 with toks := tk5, ntok := nt5 } s o (by simp; omega) hlim3 (Nat.le_refl _) (H3.of rfl (Nat.le_refl _) (fun _ _ _ => rfl)) hKo (fun _ _ => rfl) ?_ ?_ ?_ ?_ ?_ ?_ ?_ ?_ ?_ ?_ ?_ _ (fun ρ' st4 o' f1 f2 f3 f4 f5 f6 k0 k3 k4 k10 k11 k14 k15 => ?_)
        all_goals first | rfl | skip
        rw [← upd_self k0, ← upd_self k3, ← upd_self k4, ← upd_self k10, ← upd_self k11, ← upd_self k14, ← upd_self k15]
        skip
        refine ih (out ++ [r]) _ hms (by simp; omega) _ hkv' _ st4 h o' d3 v4 f1 hh2 (fun r' hr' => ?_) f3 ((f5 0 (.inl rfl)).trans hb03) ((f5 1 (.inr (.inl rfl))).trans hb13) (hO3.of f1 f2 (fun q n' c' e => ⟨f5 q (.inr (.inr (.inr ⟨n', c', e⟩))), f4 q (.inr (.inr (.inr ⟨n', c', e⟩)))⟩)) ?_ ?_ ?_ ?_ ?_ ?_ ?_ Q (fun ρ'' st'' d' h' o'' g1 g2 g3 => hQ ρ'' st'' d' h' o'' g1 (by rw [hd]; exact g2) g3)
        · rcases f6 with rfl | ⟨r2, hr2, hr3⟩
          · exact ho2 r' hr'
          · have hr4 : st3.next ≤ r2 := hr3
            rw [hr2] at hr'
            cases hr'
            omega
        all_goals rfl
end Go.Lea

/-
  Sorting by nodes, as the known function does it, and as plain lists.
-/
namespace Go.Ev
theorem EvRW_primS {Γ : Nat → Option FD} {st st' : Store} {f : Nat} {F : List D → Store → Option (D × Store)} {ds : List D} {r : D} (hf : Γ f = some (.primS F)) (hF : F (ds.map D.strip) st = some (r, st')) : EvRW Γ f ds st r st' := by
  refine ⟨2, fun n hn => ?_⟩
  obtain ⟨n, rfl⟩ : ∃ m, n = m + 2 := ⟨n - 2, by omega⟩
  have hp : callP Γ (n + 1) f (ds.map D.strip) = none := by simp [callP, hf]
  have hp2 : callP Γ (n + 1) f (ds.map (seen st)) = none := by simp [callP, hf]
  refine ⟨?_, by simp [callRW, hf, hF]⟩
  simp only [callRO, hf, hp, hp2]
  split
  · rfl
  · split
    · split <;> rfl
    · rfl
end Go.Ev
namespace Go.Lea
open Go.Ev
set_option linter.unusedVariables false
set_option linter.unusedSimpArgs false
def insK {α : Type} (key : α → Int) (x : α) : List α → List α
  | [] => [x]
  | y :: s => if key y < key x then y :: insK key x s else x :: y :: s
def srtK {α : Type} (key : α → Int) : List α → List α
  | [] => []
  | x :: s => insK key x (srtK key s)
theorem insK_perm {α : Type} (key : α → Int) (x : α) : ∀ l : List α, (insK key x l).Perm (x :: l)
  | [] => List.Perm.refl _
  | y :: s => by
    simp only [insK]
    split
    · exact ((insK_perm key x s).cons y).trans (List.Perm.swap x y s)
    · exact List.Perm.refl _
theorem srtK_perm {α : Type} (key : α → Int) : ∀ l : List α, (srtK key l).Perm l
  | [] => List.Perm.refl _
  | x :: s => (insK_perm key x _).trans ((srtK_perm key s).cons x)
theorem insK_map {α β : Type} (key : β → Int) (f : α → β) (x : α) : ∀ l : List α, insK key (f x) (l.map f) = (insK (fun a => key (f a)) x l).map f
  | [] => rfl
  | y :: s => by
    simp only [List.map_cons, insK]
    split
    · rw [insK_map key f x s]; rfl
    · rfl
theorem srtK_map {α β : Type} (key : β → Int) (f : α → β) : ∀ l : List α, srtK key (l.map f) = (srtK (fun a => key (f a)) l).map f
  | [] => rfl
  | x :: s => by
    simp only [List.map_cons, srtK]
    rw [srtK_map key f s, insK_map]
theorem insI_eq (x : List Int) : ∀ l : List (List Int), insI 0 x l = insK (fun a => a.getD 0 0) x l
  | [] => rfl
  | y :: s => by simp only [insI, insK, insI_eq x s]
theorem sortI_eq : ∀ l : List (List Int), sortI 0 l = srtK (fun a => a.getD 0 0) l
  | [] => rfl
  | x :: s => by simp only [sortI, srtK, sortI_eq s, insI_eq]
theorem insK_sorted {α : Type} (key : α → Int) (x : α) : ∀ l : List α, (l.Pairwise fun a b => key a ≤ key b) → (insK key x l).Pairwise fun a b => key a ≤ key b
  | [], _ => by simp [insK]
  | y :: s, h => by
    have h' := List.pairwise_cons.mp h
    simp only [insK]
    split
    · rename_i hlt
      refine List.pairwise_cons.mpr ⟨fun z hz => ?_, insK_sorted key x s h'.2⟩
      rcases List.mem_cons.mp ((insK_perm key x s).mem_iff.mp hz) with rfl | hz
      · omega
      · exact h'.1 z hz
    · rename_i hlt
      refine List.pairwise_cons.mpr ⟨fun z hz => ?_, h⟩
      rcases List.mem_cons.mp hz with rfl | hz
      · omega
      · have := h'.1 z hz
        omega
theorem srtK_sorted {α : Type} (key : α → Int) : ∀ l : List α, (srtK key l).Pairwise fun a b => key a ≤ key b
  | [] => List.Pairwise.nil
  | x :: s => insK_sorted key x _ (srtK_sorted key s)
def Rd.row (e : Rd) : List Int := [e.node, e.at']
theorem flat_cells (es : List Rd) : (es.map Rd.e).flatMap D.cells = (es.flatMap Rd.row).map (D.int .i64) := by
  induction es with
  | nil => rfl
  | cons e es ih => rw [List.map_cons, List.flatMap_cons, ih, List.flatMap_cons, List.map_append]; rfl
theorem intsOf_map : ∀ l : List Int, intsOf (l.map (D.int .i64)) = some l
  | [] => rfl
  | x :: l => by simp only [List.map_cons, intsOf, intsOf_map l]
theorem rowsI_flat : ∀ es : List Rd, rowsI 2 es.length (es.flatMap Rd.row) = es.map Rd.row
  | [] => rfl
  | e :: es => by
    rw [List.flatMap_cons, List.length_cons, List.map_cons]
    simp only [rowsI]
    rw [List.take_left' (show e.row.length = 2 from rfl), List.drop_left' (show e.row.length = 2 from rfl), rowsI_flat es]
theorem diffB_of : ∀ l : List Int, l.Nodup → diffB l = true
  | [], _ => rfl
  | x :: l, h => by
    have h' := List.nodup_cons.mp h
    simp only [diffB, diffB_of l h'.2, Bool.and_true, Bool.not_eq_true']
    simpa using h'.1
theorem el2 {es : List Rd} : ∀ d ∈ es.map Rd.e, d.cells.length = 2 := fun d hd => by
  obtain ⟨e, _, rfl⟩ := List.mem_map.mp hd
  rfl
theorem s_sort (es : List Rd) (hn : (es.map Rd.node).Nodup) (hlen : es.length < 4611686018427387904) (st : Store) (p c : Nat) (hR : RowIs st p 2 (es.map Rd.e)) :
    ∃ st', EvRW Γ 45 [.rs p 0 2 es.length c, .func 46 []] st (.tuple []) st' ∧ RowIs st' p 2 ((srtK Rd.node es).map Rd.e) := by
  obtain ⟨hl, hp, cs, hb, hlc, htk, hpl⟩ := hR
  rw [List.length_map] at hlc htk
  have e1 : sortI 0 (es.map Rd.row) = (srtK Rd.node es).map Rd.row := by rw [sortI_eq, srtK_map]; rfl
  have e2 : ((srtK Rd.node es).map Rd.row).flatMap (fun x => x.map (D.int .i64)) = ((srtK Rd.node es).map Rd.e).flatMap D.cells := by
    rw [List.flatMap_map, List.flatMap_map]; rfl
  have hpm := (srtK_perm Rd.node es).length_eq
  have e3 : (((srtK Rd.node es).map Rd.e).flatMap D.cells).length = es.length * 2 := by
    rw [flatMap_len el2, List.length_map, hpm]
  refine ⟨{ st with boxes := upd st.boxes p (some (.row (((srtK Rd.node es).map Rd.e).flatMap D.cells ++ cs.drop (es.length * 2)))) }, EvRW_primS (F := sortF 2 0 46) rfl ?_, hl, hp, _, upd_same _ _ _, ?_, ?_, ?_⟩
  · show sortF 2 0 46 [.rs p 0 2 es.length c, .func 46 []] st = _
    simp only [sortF, hb]
    rw [htk, flat_cells, intsOf_map]
    simp only [rowsI_flat, e1, e2]
    rw [if_pos ⟨trivial, trivial, trivial, hl, hlc, hlen, by
      rw [List.map_map]
      exact diffB_of _ hn⟩]
  · rw [List.length_map, List.length_append, e3, hpm]; omega
  · rw [List.length_map, hpm, List.take_left' e3]
  · rw [List.all_append, Bool.and_eq_true]
    refine ⟨?_, ?_⟩
    · rw [flat_cells]
      simp [D.plain]
    · rw [List.all_eq_true] at hpl ⊢
      exact fun x hx => hpl x (List.mem_of_mem_drop hx)
end Go.Lea

/-
  The times, by nodes.
-/
namespace Go.Lea
open Go.Ev
set_option linter.unusedVariables false
set_option linter.unusedSimpArgs false
theorem pass_ge {e : Eg} {t sz : Int} (h : passC e t sz) : t ≤ thereE e t sz := by
  have h1 := le_mx (a := t) (b := e.op)
  have h2 := takes_in e sz
  have h3 := h.1.2.2.2.1.2.2
  unfold thereE
  omega
theorem pass_to {e : Eg} {t sz : Int} (h : passC e t sz) : 1 ≤ e.to ∧ e.to ≤ 255 := h.1.2.2.1.2.1
theorem pass_top {e : Eg} {t sz : Int} (h : passC e t sz) : thereE e t sz ≤ 4294967294 := by
  have h2 := takes_in e sz
  have h3 := h.1.2.2.2.1.2.2
  have h4 := h.1.2.2.2.1.2.1
  have h5 := h.2.2
  have h6 := le_mx (a := takesE e sz) (b := 1)
  unfold thereE
  omega
theorem ceilI_mono {a a' b : Int} (ha : 0 ≤ a') (h : a' ≤ a) (hb : 1 ≤ b) : ceilI a' b ≤ ceilI a b := by
  have h0 : 0 ≤ a := by omega
  unfold ceilI
  rw [Int.tdiv_eq_ediv_of_nonneg ha, Int.tmod_eq_emod_of_nonneg ha, Int.tdiv_eq_ediv_of_nonneg h0, Int.tmod_eq_emod_of_nonneg h0]
  have d1 := Int.ediv_le_ediv (c := b) (by omega) h
  have m1 := Int.emod_nonneg a' (show b ≠ 0 by omega)
  have m2 := Int.emod_nonneg a (show b ≠ 0 by omega)
  have e1 := Int.mul_ediv_add_emod a' b
  have e2 := Int.mul_ediv_add_emod a b
  by_cases hd : a' / b = a / b
  · rw [hd] at e1 ⊢
    split <;> split <;> omega
  · split <;> split <;> omega
/-- Who begins earlier, or with less, is there no later. -/
theorem pass_mono {e : Eg} {t t' sz sz' : Int} (h : passC e t sz) (ht : 0 ≤ t') (htt : t' ≤ t) (hs : 0 ≤ sz') (hss : sz' ≤ sz) : passC e t' sz' ∧ thereE e t' sz' ≤ thereE e t sz := by
  obtain ⟨⟨h1, h2, h3⟩, h4, h5⟩ := h
  have hr : rightE e t' sz' := ⟨by omega, by omega, h3⟩
  have hm : mx t' e.op ≤ mx t e.op := by
    have := le_mx (a := t) (b := e.op)
    exact mx_le.mpr ⟨by omega, by omega⟩
  have hk : takesE e sz' ≤ takesE e sz := by
    unfold takesE
    rw [if_pos ⟨by omega, by omega, h3⟩, if_pos ⟨by omega, h2, h3⟩]
    exact ceilI_mono hs hss h3.2.2.2.1.1
  have hm1 : mx (takesE e sz') 1 ≤ mx (takesE e sz) 1 := by
    have := le_mx (a := takesE e sz) (b := 1)
    exact mx_le.mpr ⟨by omega, by omega⟩
  refine ⟨⟨hr, by omega, by omega⟩, ?_⟩
  unfold thereE
  omega
theorem psz_some {sz : Int} {e : Eg} {t u : Int} : psz sz e t = some u ↔ passC e t sz ∧ u = thereE e t sz := by
  unfold psz
  by_cases h : passC e t sz
  · rw [if_pos h]; simp [h, eq_comm]
  · rw [if_neg h]; simp [h]
theorem psz_ge {sz : Int} : ∀ e t u, psz sz e t = some u → t ≤ u := fun e t u h => by
  obtain ⟨h1, rfl⟩ := psz_some.mp h
  exact pass_ge h1
theorem reach_ge {sz : Int} {cl : Int → Bool} {l : List Eg} {fr now n t : Int} (h : Reach (psz sz) cl l fr now n t) : now ≤ t := by
  induction h with
  | here => exact Int.le_refl _
  | go _ _ _ hp _ ih => exact Int.le_trans ih (psz_ge _ _ _ hp)
theorem psz_mo {sz : Int} {cl : Int → Bool} {l : List Eg} {fr now : Int} (hn : 0 ≤ now) (hs : 0 ≤ sz) : ∀ e t t' u, psz sz e t = some u → t' ≤ t → (∃ a b, Reach (psz sz) cl l fr now a b ∧ b = t') → ∃ u', u' ≤ u ∧ psz sz e t' = some u' := by
  rintro e t t' u h ht ⟨a, b, hr, rfl⟩
  obtain ⟨h1, rfl⟩ := psz_some.mp h
  have := reach_ge hr
  obtain ⟨h2, h3⟩ := pass_mono h1 (by omega) ht hs (Int.le_refl _)
  exact ⟨_, h3, psz_some.mpr ⟨h2, rfl⟩⟩
def clS (shut : List Int) (n : Int) : Bool := decide (n ∈ shut)
/-- From when on each node may have it. -/
def timesM (l : List Eg) (fr now sz : Int) (shut : List Int) : List Rd := if AskC l fr now sz then srtK Rd.node (dij (psz sz) (clS shut) l (l.length + 1) [] [⟨fr, now⟩]) else []
theorem meas_start (l : List Eg) (r : Rd) : meas l [] [r] ≤ l.length + 1 := by
  have := List.length_filter_le (fun e : Eg => !vis [] e.fr) l
  unfold meas
  simp
  omega
theorem dij_ask {l : List Eg} {fr now sz : Int} (ha : AskC l fr now sz) (shut : List Int) : IsT (psz sz) (clS shut) l fr now (dij (psz sz) (clS shut) l (l.length + 1) [] [⟨fr, now⟩]) :=
  dij_isT psz_ge (psz_mo ha.2.2.1.1 ha.2.1.1) _ _ _ (meas_start l _) .start
theorem dij_len (ps : Eg → Int → Option Int) (cl : Int → Bool) (l : List Eg) : ∀ (n : Nat) (out s : List Rd), (dij ps cl l n out s).length ≤ out.length + n
  | 0, out, s => by rw [dij]; omega
  | n + 1, out, [] => by rw [dij]; omega
  | n + 1, out, r :: s => by
    rw [dij]
    split
    · have := dij_len ps cl l n out s; omega
    · have := dij_len ps cl l n (out ++ [r]) (pushes ps cl (out ++ [r]) r.at' (fromE r.node l) s)
      simp at this
      omega
theorem times_len (l : List Eg) (fr now sz : Int) (shut : List Int) : (timesM l fr now sz shut).length ≤ l.length + 1 := by
  unfold timesM
  split
  · rw [(srtK_perm Rd.node _).length_eq]
    have := dij_len (psz sz) (clS shut) l (l.length + 1) [] [⟨fr, now⟩]
    simpa using this
  · simp
theorem l_cl (shut : List Int) (hsl : shut.length ≤ 1073741824) (t : Tok) (sz : Nat) (hs : sz = 1 ∨ shut = []) (v0 v1 v2 v3 v4 v10 : D) : ∀ (post pre : List Int), shut = pre ++ post → ∀ (kv : List (Int × D)), KVC kv (clS pre) → ∀ (ρ : Nat → D) (st : Store), st.lim ≤ 0 → st.boxes 0 = some (.map kv) →
    ρ 0 = v0 → ρ 1 = v1 → ρ 2 = v2 → ρ 3 = v3 → ρ 4 = v4 → ρ 10 = v10 → ρ 11 = .map 0 → ρ 34 = .slice t sz (shut.map (D.int .i64)) → ρ 35 = .int .i64 shut.length → ρ 36 = .int .i64 pre.length → ∀ (Q : X → (Nat → D) → Store → Prop),
    (∀ ρ' st' kv', KVC kv' (clS shut) → st'.lim ≤ 0 → st'.next = st.next → st'.boxes 0 = some (.map kv') → ρ' 0 = v0 → ρ' 1 = v1 → ρ' 2 = v2 → ρ' 3 = v3 → ρ' 4 = v4 → ρ' 10 = v10 → ρ' 11 = .map 0 → Q (.exit 0) ρ' st') → WC Γ (.loop c_early_Times_l0) ρ st Q := by
  intro post
  induction post with
  | nil =>
    intro pre hpp kv hk ρ st hlim hb h0 h1 h2 h3 h4 h10 h11 h34 h35 h36 Q hQ
    rw [List.append_nil] at hpp
    subst hpp
    rw [← upd_self h0, ← upd_self h1, ← upd_self h2, ← upd_self h3, ← upd_self h4, ← upd_self h10, ← upd_self h11, ← upd_self h34, ← upd_self h35, ← upd_self h36]
    refine WC_loop ?_
    repeat' (first
 | (refine I_WS ?_; first
 | (refine I_bin ?_; first
 | refine W_lssF rfl rfl rfl rfl (by omega) ?_)
 | refine WS_nil ?_)
 | refine WC_seq ?_
 | refine WC_opsS ?_
 | refine WC_condF rfl ?_
 | refine WC_exit ?_)
    exact hQ _ _ kv hk hlim rfl hb rfl rfl rfl rfl rfl rfl rfl
  | cons x post ih =>
    intro pre hpp kv hk ρ st hlim hb h0 h1 h2 h3 h4 h10 h11 h34 h35 h36 Q hQ
    have hv : shut[pre.length]? = some x := by rw [hpp]; simp
    have hlen : shut.length = pre.length + (post.length + 1) := by rw [hpp]; simp
    have hz : sz = 1 := hs.resolve_right (by rintro rfl; simp at hlen)
    subst hz
    have hpl : pre.length < (shut.map (D.int .i64)).length := by simp; omega
    have hltl : (pre.length : Int) < shut.length := by omega
    have hk2 : KVC (kvSet x (.bool true) kv) (clS (pre ++ [x])) := fun n => by
      rw [kvGet_set]
      by_cases e : n = x
      · rw [if_pos e]; simp [clS, e]
      · rw [if_neg e, hk n]; simp [clS, e]
    have hnext : ∀ (ρ' : Nat → D) (st' : Store), st'.lim ≤ 0 → st'.next = st.next → st'.boxes 0 = some (.map (kvSet x (.bool true) kv)) → ρ' 0 = v0 → ρ' 1 = v1 → ρ' 2 = v2 → ρ' 3 = v3 → ρ' 4 = v4 → ρ' 10 = v10 → ρ' 11 = .map 0 → ρ' 34 = .slice t 1 (shut.map (D.int .i64)) → ρ' 35 = .int .i64 shut.length → ρ' 36 = .int .i64 ((pre.length : Int) + 1) → WC Γ (.loop c_early_Times_l0) ρ' st' Q := fun ρ' st' e1 e2 e3 k0 k1 k2 k3 k4 k10 k11 k34 k35 k36 =>
      ih (pre ++ [x]) (by simp [hpp]) _ hk2 ρ' st' e1 e3 k0 k1 k2 k3 k4 k10 k11 k34 k35 (by rw [List.length_append]; exact k36) Q (fun ρ'' st'' kv' f0 f1 f2 => hQ ρ'' st'' kv' f0 f1 (f2.trans e2))
    clear ih hQ hpp
    rw [← upd_self h0, ← upd_self h1, ← upd_self h2, ← upd_self h3, ← upd_self h4, ← upd_self h10, ← upd_self h11, ← upd_self h34, ← upd_self h35, ← upd_self h36]
    refine WC_loop ?_
    repeat' (first
 | (refine I_WS ?_; first
 | refine W_iaddr (j := pre.length) rfl rfl rfl rfl rfl hpl ?_
 | refine W_mapset (v := .bool true) rfl rfl rfl hb hlim rfl rfl ?_
 | (refine I_mov ?_; first
 | refine W_mov (v := .int _ _) rfl rfl rfl ?_
 | refine W_mov (v := .map _) rfl rfl rfl ?_)
 | (refine I_bin ?_; first
 | refine W_lssT rfl rfl rfl rfl (by omega) ?_
 | refine W_add rfl rfl rfl rfl (by first | exact w64 (by omega) | rfl) ?_)
 | (refine I_load ?_; first
 | refine W_loadE (agg := false) (d := .int _ _) rfl rfl rfl hv rfl ?_)
 | refine WS_nil ?_)
 | refine WC_seq ?_
 | refine WC_opsS ?_
 | refine WC_skip ?_
 | refine WC_condT rfl ?_
 | refine WC_block ?_)
    refine hnext _ _ hlim rfl rfl ?_ ?_ ?_ ?_ ?_ ?_ ?_ ?_ ?_ ?_ <;> rfl
set_option maxHeartbeats 8000000 in
theorem s_Times (l : List Eg) (hll : l.length ≤ 1000) (fr now sz : Int) (shut : List Int) (hsl : shut.length ≤ 1073741824) (t t' : Tok) (s s' : Nat) (hs : s = 8 ∨ l = []) (hs' : s' = 1 ∨ shut = []) :
    EvX Γ 21 [.slice t s (l.map Eg.e), .int .i64 fr, .int .i64 now, .int .i64 sz, .slice t' s' (shut.map (D.int .i64))] (IsN Rd.e 2 (timesM l fr now sz shut)) := by
  refine EvX_code rfl rfl ?_
  have hA := fun t => s_asked l (by omega) fr now sz t s hs
  unfold timesM
  by_cases ha : AskC l fr now sz
  · rw [decide_eq_true ha] at hA
    rw [if_pos ha]
    have hT := dij_ask ha shut
    repeat' (first
 | (refine I_WS ?_; first
 | refine W_lenM rfl rfl rfl ?_
 | (refine I_mov ?_; first
 | refine W_mov (v := .int _ _) rfl rfl rfl ?_
 | refine W_mov (v := .slice _ _ _) rfl rfl rfl ?_
 | refine W_mov (v := .map _) rfl rfl rfl ?_)
 | (refine I_call ?_; first
 | refine W_call rfl rfl rfl (hA _) rfl rfl ?_)
 | refine W_not rfl rfl rfl ?_
 | refine W_mkmap rfl rfl ?_
 | refine WS_nil ?_)
 | refine WC_seq ?_
 | refine WC_opsS ?_
 | refine WC_skip ?_
 | refine WC_condF rfl ?_
 | refine WC_block ?_)
    refine l_cl shut hsl t' s' hs' (.slice t s (l.map Eg.e)) (.int .i64 fr) (.int .i64 now) (.int .i64 sz) (.slice t' s' (shut.map (D.int .i64))) (.slice .isnil 0 []) shut [] rfl [] (fun n => rfl) _ _ (Nat.le_refl _) ?_ ?_ ?_ ?_ ?_ ?_ ?_ ?_ ?_ ?_ ?_ _ (fun ρ' st' kv hk e1 e2 e3 h0 h1 h2 h3 h4 h10 h11 => ?_)
    all_goals first | rfl | skip
    obtain ⟨bx, nx1, tk, nt, lm, tl⟩ := st'
    have e2' : nx1 = 1 := e2
    subst e2'
    rw [← upd_self h0, ← upd_self h1, ← upd_self h2, ← upd_self h3, ← upd_self h4, ← upd_self h10, ← upd_self h11]
    have hlm : lm ≤ 0 := e1
    have hbx : bx 0 = some (.map kv) := e3
    have hNew := s_New [⟨fr, now⟩] (by simp) .exact 2 (.inl rfl) ⟨upd bx 1 (some (.map [])), 2, tk, nt, lm, tl⟩ (by show lm ≤ 2; omega)
    repeat' (first
 | (refine I_WS ?_; first
 | (refine I_mov ?_; first
 | refine W_mov (v := .int _ _) rfl rfl rfl ?_
 | refine W_mov (v := .map _) rfl rfl rfl ?_)
 | (refine I_call ?_; first
 | (refine W_callRWX0 rfl rfl hNew ?_ <;> intro r0 st2 hp0))
 | (refine I_build ?_; first
 | refine W_build (cs := [_, _]) rfl rfl rfl ?_)
 | refine W_bslice (ys := [_]) rfl rfl rfl (by decide) rfl ?_
 | refine W_mkmap rfl rfl ?_
 | refine WS_nil ?_)
 | refine WC_seq ?_
 | refine WC_opsS ?_)
    obtain ⟨h, o, rfl, q1, q2, H, N⟩ := hp0
    have N1 : st2.lim = lm := N.lim
    have q1' : 2 ≤ h := q1
    have hb0 : st2.boxes 0 = some (.map kv) := (N.box 0 (by show 0 < 2; omega)).trans hbx
    have hb1 : st2.boxes 1 = some (.map []) := N.box 1 (by show 1 < 2; omega)
    repeat' (first
 | (refine I_WS ?_; first
 | (refine I_mov ?_; first
 | refine W_mov (v := .ptr _ _) rfl rfl rfl ?_)
 | refine WS_nil ?_)
 | refine WC_seq ?_
 | refine WC_block ?_)
    refine l_out l hll t s hs sz (clS shut) kv hk (l.length + 1) [] [⟨fr, now⟩] (meas_start l _) (by simp; omega) [] (fun n => ⟨0, rfl, rfl⟩) _ st2 h o (.slice .isnil 0 []) (.slice t' s' (shut.map (D.int .i64))) (by rw [N1]; exact hlm) q1' q2 H hb0 hb1 (.inl ⟨rfl, rfl⟩) ?_ ?_ ?_ ?_ ?_ ?_ ?_ _ (fun ρ' st3 d' h' o' g1 g2 g3 => ?_)
    all_goals first | rfl | skip
    have hlen := dij_len (psz sz) (clS shut) l (l.length + 1) [] [⟨fr, now⟩]
    generalize dij (psz sz) (clS shut) l (l.length + 1) [] [⟨fr, now⟩] = es at *
    rcases g2 with ⟨rfl, rfl⟩ | ⟨q, n, c, _, _, _, rfl, hne, rfl, hR⟩
    · have hS : EvRW Γ 45 [.slice .isnil 0 [], .func 46 []] st3 (.tuple []) st3 := EvRW_primS (F := sortF 2 0 46) rfl rfl
      rw [← upd_self g3]
      repeat' (first
 | (refine I_WS ?_; first
 | (refine WS_callRW rfl rfl rfl hS ?_)
 | (refine I_mov ?_; first
 | refine W_mov (v := .slice _ _ _) rfl rfl rfl ?_)
 | refine WS_nil ?_)
 | refine WC_seq ?_
 | refine WC_opsS ?_
 | refine WC_ret ?_)
      exact finX_N (t := .isnil) (s := 0) rfl (.inr rfl) ⟨.inr rfl, rfl⟩
    · obtain ⟨st4, hS, hR2⟩ := s_sort es hT.t2 (by simp at hlen; omega) st3 q c hR
      rw [← upd_self g3]
      repeat' (first
 | (refine I_WS ?_; first
 | (refine WS_callRW rfl rfl rfl hS ?_)
 | (refine I_mov ?_; first
 | refine W_mov (v := .rs _ _ _ _ _) rfl rfl rfl ?_)
 | refine WS_nil ?_)
 | refine WC_seq ?_
 | refine WC_opsS ?_
 | refine WC_ret ?_)
      exact finX_N (t := .row) (s := 2) rfl (.inl rfl) (fin_row (.inr rfl) rfl (by rw [List.length_map, (srtK_perm Rd.node es).length_eq]) (by decide) hR2 (fun d hd => by
        obtain ⟨e, _, rfl⟩ := List.mem_map.mp hd
        exact ⟨rfl, rfl⟩))
  · rw [decide_eq_false ha] at hA
    rw [if_neg ha]
    repeat' (first
 | (refine I_WS ?_; first
 | (refine I_mov ?_; first
 | refine W_mov (v := .int _ _) rfl rfl rfl ?_
 | refine W_mov (v := .slice _ _ _) rfl rfl rfl ?_)
 | (refine I_call ?_; first
 | refine W_call rfl rfl rfl (hA _) rfl rfl ?_)
 | refine W_not rfl rfl rfl ?_
 | refine WS_nil ?_)
 | refine WC_seq ?_
 | refine WC_opsS ?_
 | refine WC_condT rfl ?_
 | refine WC_ret ?_)
    exact finX_N (t := .isnil) (s := 0) rfl (.inr rfl) ⟨.inr rfl, rfl⟩
end Go.Lea

/-
  Plain laws of the earliest times.
-/
namespace Go.Lea
set_option linter.unusedVariables false
set_option linter.unusedSimpArgs false
theorem nd_le {α : Type} [DecidableEq α] : ∀ {l m : List α}, l.Nodup → (∀ x ∈ l, x ∈ m) → l.length ≤ m.length
  | [], m, _, _ => Nat.zero_le _
  | x :: l, m, hn, hs => by
    have hn' := List.nodup_cons.mp hn
    have hx := hs x List.mem_cons_self
    have ih := nd_le (l := l) (m := m.erase x) hn'.2 (fun y hy => (List.mem_erase_of_ne (fun e : y = x => hn'.1 (by rw [← e]; exact hy))).mpr (hs y (List.mem_cons_of_mem _ hy)))
    rw [List.length_erase_of_mem hx] at ih
    have := List.length_pos_of_mem hx
    rw [List.length_cons]
    omega
theorem atN_some {n u : Int} : ∀ {L : List Rd}, atN n L = some u → ⟨n, u⟩ ∈ L
  | [], h => by cases h
  | r :: L, h => by
    rw [atN] at h
    split at h
    · rename_i e
      cases h
      obtain ⟨a, b⟩ := r
      cases e
      exact List.mem_cons_self
    · exact List.mem_cons_of_mem _ (atN_some h)
theorem atN_of {L : List Rd} (hn : (L.map Rd.node).Nodup) {r : Rd} (hr : r ∈ L) : atN r.node L = some r.at' := by
  induction L with
  | nil => cases hr
  | cons x L ih =>
    have hn' := List.nodup_cons.mp hn
    rw [atN]
    rcases List.mem_cons.mp hr with rfl | hr
    · rw [if_pos rfl]
    · rw [if_neg (fun e : x.node = r.node => hn'.1 (by rw [e]; exact List.mem_map.mpr ⟨r, hr, rfl⟩))]
      exact ih hn'.2 hr
section
variable {ps : Eg → Int → Option Int} {cl : Int → Bool} {l : List Eg} {fr now : Int}
theorem IsT.perm {es es' : List Rd} (h : IsT ps cl l fr now es) (hp : es'.Perm es) : IsT ps cl l fr now es' :=
  ⟨fun x hx => h.t1 x (hp.mem_iff.mp hx), (hp.map Rd.node).nodup_iff.mpr h.t2, fun n t hr => by
    obtain ⟨y, hy, h1⟩ := h.t3 n t hr
    exact ⟨y, hp.mem_iff.mpr hy, h1⟩⟩
theorem IsT.at_ {es : List Rd} (h : IsT ps cl l fr now es) {n t : Int} (hr : Reach ps cl l fr now n t) : ∃ u, atN n es = some u ∧ u ≤ t := by
  obtain ⟨y, hy, rfl, h2⟩ := h.t3 n t hr
  exact ⟨y.at', atN_of h.t2 hy, h2⟩
theorem reach_trans {n t m u : Int} (h : Reach ps cl l fr now n t) (h' : Reach ps cl l n t m u) : Reach ps cl l fr now m u := by
  induction h' with
  | here => exact h
  | go _ he hf hp hc ih => exact .go ih he hf hp hc
theorem reach_cl {n t : Int} (h : Reach ps cl l fr now n t) : n = fr ∨ cl n = false := by
  cases h with
  | here => exact .inl rfl
  | go _ _ _ _ hc => exact .inr hc
end
theorem reach_node {sz : Int} {cl : Int → Bool} {l : List Eg} {fr now n t : Int} (hf : 1 ≤ fr ∧ fr ≤ 255) (h : Reach (psz sz) cl l fr now n t) : 1 ≤ n ∧ n ≤ 255 := by
  cases h with
  | here => exact hf
  | go _ _ _ hp _ => exact pass_to (psz_some.mp hp).1
theorem reach_top {sz : Int} {cl : Int → Bool} {l : List Eg} {fr now n t : Int} (hf : now ≤ 1099511627776) (h : Reach (psz sz) cl l fr now n t) : t ≤ 1099511627776 := by
  cases h with
  | here => exact hf
  | go _ _ _ hp _ =>
    obtain ⟨h1, rfl⟩ := psz_some.mp hp
    have := pass_top h1
    omega
theorem times_isT {l : List Eg} {fr now sz : Int} (ha : AskC l fr now sz) (shut : List Int) : IsT (psz sz) (clS shut) l fr now (timesM l fr now sz shut) := by
  unfold timesM
  rw [if_pos ha]
  exact (dij_ask ha shut).perm (srtK_perm Rd.node _)
theorem times_no {l : List Eg} {fr now sz : Int} (ha : ¬ AskC l fr now sz) (shut : List Int) : timesM l fr now sz shut = [] := by
  unfold timesM
  rw [if_neg ha]
theorem times_mem {l : List Eg} {fr now sz : Int} {shut : List Int} {r : Rd} (hr : r ∈ timesM l fr now sz shut) : AskC l fr now sz := by
  by_cases ha : AskC l fr now sz
  · exact ha
  · rw [times_no ha] at hr
    cases hr
theorem pw_lt : ∀ {L : List Rd}, (L.Pairwise fun a b => a.node ≤ b.node) → (L.map Rd.node).Nodup → L.Pairwise fun a b => a.node < b.node
  | [], _, _ => List.Pairwise.nil
  | x :: L, h, hn => by
    have h' := List.pairwise_cons.mp h
    have hn' := List.nodup_cons.mp hn
    refine List.pairwise_cons.mpr ⟨fun y hy => ?_, pw_lt h'.2 hn'.2⟩
    have h1 := h'.1 y hy
    have h2 : x.node ≠ y.node := fun e => hn'.1 (by rw [e]; exact List.mem_map.mpr ⟨y, hy, rfl⟩)
    omega
end Go.Lea
