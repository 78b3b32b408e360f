/-
  The table with what goes over maps; the latest times, and with how few hops.
-/
import Derived.Test.YtjcilbnbciclpaaLeaLatP
import Derived.Test.YtjcilbnbciclpaaLeaLatP
import Derived.Test.YtjcilbnbciclpaaLeaLatP
import Derived.Test.YtjcilbnbciclpaaEvEvG
import Derived.Test.YtjcilbnbciclpaaEvEvP1
import Derived.Test.YtjcilbnbciclpaaLeaLatP
set_option linter.unusedVariables false
set_option linter.unusedSimpArgs false
set_option linter.unnecessarySimpa false
namespace Go.Lea
open Go.Ev
def Γ2 : Nat → Option FD
  | 50 => some (.primS stepF)
  | 79 => some (.primS rowF)
  | f => Γ f
theorem hx2 : ∀ f fd, Γ f = some fd → Γ2 f = some fd := fun f fd h => by
  unfold Γ2
  split
  · cases h
  · cases h
  · exact h
def lateL (l : List Eg) (to by' sz hops : Int) (shut : List Int) : List Rd := iterL to sz shut l (mn hops l.length).toNat [⟨to, by'⟩]
def lateM (l : List Eg) (to by' sz hops : Int) (shut : List Int) : List Rd := if 0 ≤ hops ∧ AskC l to by' sz then srtK Rd.node (lateL l to by' sz hops shut) else []
theorem run_step (l : List Eg) (hll : l.length ≤ 900) (to sz : Int) (shut : List Int) (hsl : shut.length ≤ 1000000) (t t' : Tok) (s s' : Nat) (hs : s = 8 ∨ l = []) (hs' : s' = 1 ∨ shut = []) (M : List Rd) (st : Store) (p : Nat) (hp : p < st.next) (hlp : st.lim ≤ p) (hbp : st.boxes p = some (.map (kvOf M))) :
    EvRW Γ2 50 [.map p, .slice t s (l.map Eg.e), .int .i64 to, .int .i64 sz, .slice t' s' (shut.map (D.int .i64))] st (.map st.next) { st with boxes := upd st.boxes st.next (some (.map (kvOf (stepL to sz shut l M)))), next := st.next + 2 + l.length } := by
  refine EvRW_primS (F := stepF) rfl ?_
  show stepF [.map p, .slice t.strip s (l.map Eg.e), .int .i64 to, .int .i64 sz, .slice t'.strip s' (shut.map (D.int .i64))] st = _
  simp only [stepF, hbp, rdsOf_kv, egsOf_map, intsOf_map]
  rw [if_pos ⟨hs.imp id (by rintro rfl; rfl), hs'.imp id (by rintro rfl; rfl), by omega, by omega, hlp, hp⟩]
theorem run_row (M : List Rd) (h0 : 0 < M.length) (hMl : M.length ≤ 1000000) (st : Store) (p : Nat) (hp : p < st.next) (hlp : st.lim ≤ p) (hbp : st.boxes p = some (.map (kvOf M))) :
    EvRW Γ2 79 [.map p] st (.rs (st.next + M.length) 0 2 M.length M.length) { st with boxes := upd st.boxes (st.next + M.length) (some (.row (((srtK Rd.node M).map Rd.e).flatMap D.cells))), next := st.next + M.length + 1 } := by
  refine EvRW_primS (F := rowF) rfl ?_
  show rowF [.map p] st = _
  simp only [rowF, hbp, rdsOf_kv]
  rw [if_pos ⟨h0, hMl, hlp, hp⟩]
theorem s_lasked (l : List Eg) (hll : l.length ≤ 1073741824) (fr now sz : Int) (t : Tok) (s : Nat) (hs : s = 8 ∨ l = []) : EvP Γ 49 [.slice t s (l.map Eg.e), .int .i64 fr, .int .i64 now, .int .i64 sz] (.bool (decide (AskC l fr now sz))) := by
  refine EvP_code rfl rfl ?_
  by_cases ha : AskC l fr now sz
  · have hw : walkM l [] fr now sz = some [] := by unfold walkM; rw [if_pos ha]; rfl
    have hW := fun t => s_Walk1 l hll [] (by simp) fr now sz [] hw t s hs .isnil 0 (.inr rfl)
    rw [decide_eq_true ha]
    repeat' (first
 | (refine I_WS ?_; first
 | (refine I_mov ?_; first
 | refine W_mov (v := .int _ _) rfl rfl rfl ?_
 | refine W_mov (v := .bool _) rfl rfl rfl ?_
 | refine W_mov (v := .slice _ _ _) rfl rfl rfl ?_
 | refine W_mov (v := .tuple _) rfl rfl rfl ?_)
 | (refine I_call ?_; first
 | (refine W_callT rfl rfl rfl (hW _) rfl ?_; intro tm sm hsm tk2 nt2))
 | (refine I_extract ?_; first
 | refine W_extract (d := .bool _) rfl rfl rfl rfl ?_
 | refine W_extract (d := .slice _ _ _) rfl rfl rfl rfl ?_)
 | refine WS_nil ?_)
 | refine WC_seq ?_
 | refine WC_opsS ?_
 | refine WC_ret ?_)
    exact fin_bool (.inr rfl) rfl rfl
  · have hw : walkM l [] fr now sz = none := by unfold walkM; rw [if_neg ha]
    have hW := fun t => s_Walk0 l hll [] (by simp) fr now sz hw t s hs .isnil 0 (.inr rfl)
    rw [decide_eq_false ha]
    repeat' (first
 | (refine I_WS ?_; first
 | (refine I_mov ?_; first
 | refine W_mov (v := .int _ _) rfl rfl rfl ?_
 | refine W_mov (v := .bool _) rfl rfl rfl ?_
 | refine W_mov (v := .slice _ _ _) rfl rfl rfl ?_
 | refine W_mov (v := .tuple _) rfl rfl rfl ?_)
 | (refine I_call ?_; first
 | refine W_call rfl rfl rfl (hW _) rfl rfl ?_)
 | (refine I_extract ?_; first
 | refine W_extract (d := .bool _) rfl rfl rfl rfl ?_
 | refine W_extract (d := .slice _ _ _) rfl rfl rfl rfl ?_)
 | refine WS_nil ?_)
 | refine WC_seq ?_
 | refine WC_opsS ?_
 | refine WC_ret ?_)
    exact fin_bool (.inr rfl) rfl rfl
theorem lateM_len (l : List Eg) (to by' sz hops : Int) (shut : List Int) : (lateM l to by' sz hops shut).length ≤ 1 + l.length * l.length := by
  unfold lateM lateL
  split
  · rw [(srtK_perm Rd.node _).length_eq]
    have h1 := iter_len (to := to) (sz := sz) (shut := shut) (l := l) (mn hops l.length).toNat [⟨to, by'⟩]
    have h2 := (mn_le (a := hops) (b := l.length)).2
    have h3 : (mn hops l.length).toNat * l.length ≤ l.length * l.length := Nat.mul_le_mul_right _ (by omega)
    simp at h1
    omega
  · simp
theorem sq900 {n : Nat} (h : n ≤ 900) : n * n ≤ 810000 := Nat.mul_le_mul h h
theorem l_times (l : List Eg) (hll : l.length ≤ 900) (to sz : Int) (shut : List Int) (hsl : shut.length ≤ 1000000) (t t' : Tok) (s s' : Nat) (hs : s = 8 ∨ l = []) (hs' : s' = 1 ∨ shut = []) (n : Nat) (hn : n ≤ 900) : ∀ (m k : Nat), n = k + m → ∀ (M : List Rd) (ρ : Nat → D) (st : Store) (p : Nat), p < st.next → st.lim ≤ p → st.boxes p = some (.map (kvOf M)) →
    ρ 0 = .slice t s (l.map Eg.e) → ρ 1 = .int .i64 to → ρ 3 = .int .i64 sz → ρ 5 = .slice t' s' (shut.map (D.int .i64)) → ρ 13 = .map p → ρ 31 = .int .i64 n → ρ 32 = .int .i64 k → ∀ (Q : X → (Nat → D) → Store → Prop),
    (∀ ρ' st' p', p' < st'.next → st'.lim ≤ p' → st'.boxes p' = some (.map (kvOf (iterL to sz shut l m M))) → ρ' 13 = .map p' → Q (.exit 0) ρ' st') → WC Γ2 (.loop c_late_Times_l0) ρ st Q := by
  intro m
  induction m with
  | zero =>
    intro k hk M ρ st p hp hlp hbp h0 h1 h3 h5 h13 h31 h32 Q hQ
    have hk' : n = k := hk
    subst hk'
    rw [← upd_self h0, ← upd_self h1, ← upd_self h3, ← upd_self h5, ← upd_self h13, ← upd_self h31, ← upd_self h32]
    refine WC_loop ?_
    repeat' (first
 | (refine I_WS ?_; first
 | (refine I_bin ?_; first
 | refine W_lssF rfl rfl rfl rfl (by omega) ?_)
 | refine WS_nil ?_)
 | refine WC_seq ?_
 | refine WC_opsS ?_
 | refine WC_condF rfl ?_
 | refine WC_exit ?_)
    exact hQ _ _ p hp hlp hbp rfl
  | succ m ih =>
    intro k hk M ρ st p hp hlp hbp h0 h1 h3 h5 h13 h31 h32 Q hQ
    have hlt : (k : Int) < n := by omega
    have hS := fun t t' => run_step l hll to sz shut hsl t t' s s' hs hs' M st p hp hlp hbp
    have hnext := ih (k + 1) (by omega) (stepL to sz shut l M)
    clear ih
    rw [← upd_self h0, ← upd_self h1, ← upd_self h3, ← upd_self h5, ← upd_self h13, ← upd_self h31, ← upd_self h32]
    refine WC_loop ?_
    repeat' (first
 | (refine I_WS ?_; first
 | (refine WS_callRW rfl rfl rfl (hS _ _) ?_)
 | (refine I_mov ?_; first
 | refine W_mov (v := .int _ _) rfl rfl rfl ?_
 | refine W_mov (v := .slice _ _ _) rfl rfl rfl ?_
 | refine W_mov (v := .map _) rfl rfl rfl ?_)
 | (refine I_bin ?_; first
 | refine W_lssT rfl rfl rfl rfl (by omega) ?_
 | refine W_add rfl rfl rfl rfl (by first | exact w64 (by omega) | rfl) ?_)
 | refine WS_nil ?_)
 | refine WC_seq ?_
 | refine WC_opsS ?_
 | refine WC_skip ?_
 | refine WC_condT rfl ?_
 | refine WC_block ?_)
    refine hnext _ _ st.next ?_ ?_ ?_ ?_ ?_ ?_ ?_ ?_ ?_ ?_ Q hQ
    · show st.next < st.next + 2 + l.length
      omega
    · show st.lim ≤ st.next
      omega
    · exact upd_same _ _ _
    all_goals rfl
set_option maxHeartbeats 4000000 in
theorem s_lTimes (l : List Eg) (hll : l.length ≤ 900) (to by' sz hops : Int) (shut : List Int) (hsl : shut.length ≤ 1000000) (t t' : Tok) (s s' : Nat) (hs : s = 8 ∨ l = []) (hs' : s' = 1 ∨ shut = []) :
    EvX Γ2 58 [.slice t s (l.map Eg.e), .int .i64 to, .int .i64 by', .int .i64 sz, .int .i64 hops, .slice t' s' (shut.map (D.int .i64))] (IsN Rd.e 2 (lateM l to by' sz hops shut)) := by
  refine EvX_code rfl rfl ?_
  have hA := fun t => (s_lasked l (by omega) to by' sz t s hs).grow hx2
  have hlen := lateM_len l to by' sz hops shut
  have hsq := sq900 hll
  unfold lateM at hlen ⊢
  by_cases h0 : 0 ≤ hops
  · by_cases ha : AskC l to by' sz
    · rw [decide_eq_true ha] at hA
      rw [if_pos ⟨h0, ha⟩] at hlen ⊢
      unfold lateL at hlen ⊢
      have hm1 := mn_le (a := hops) (b := l.length)
      have hm2 : 0 ≤ mn hops l.length := le_mn.2 ⟨h0, by omega⟩
      obtain ⟨n, hn⟩ := Int.eq_ofNat_of_zero_le hm2
      rw [hn] at hlen ⊢
      have hn9 : n ≤ 900 := by omega
      repeat' (first
 | (refine I_WS ?_; first
 | refine W_lenM rfl rfl rfl ?_
 | refine W_mn rfl rfl rfl rfl hn ?_
 | refine W_mkmap rfl rfl ?_
 | refine W_mapset (v := .int .i64 by') rfl rfl rfl rfl (Nat.le_refl _) rfl rfl ?_
 | (refine I_mov ?_; first
 | refine W_mov (v := .int _ _) rfl rfl rfl ?_
 | refine W_mov (v := .bool _) rfl rfl rfl ?_
 | refine W_mov (v := .slice _ _ _) rfl rfl rfl ?_
 | refine W_mov (v := .map _) rfl rfl rfl ?_)
 | (refine I_bin ?_; first
 | refine W_lssF rfl rfl rfl rfl (by omega) ?_)
 | (refine I_call ?_; first
 | refine W_call rfl rfl rfl (hA _) rfl rfl ?_)
 | (refine I_pick ?_; first
 | refine W_pick (v := .bool _) rfl rfl rfl rfl ?_)
 | refine W_not rfl rfl rfl ?_
 | refine WS_nil ?_)
 | refine WC_seq ?_
 | refine WC_opsS ?_
 | refine WC_skip ?_
 | refine WC_condF rfl ?_
 | refine WC_block ?_)
      refine l_times l hll to sz shut hsl t t' s s' hs hs' n hn9 n 0 (by omega) [⟨to, by'⟩] _ _ 0 ?_ ?_ ?_ ?_ ?_ ?_ ?_ ?_ ?_ ?_ _ (fun ρ' st' p' g1 g2 g3 h13 => ?_)
      · exact Nat.zero_lt_one
      · exact Nat.le_refl _
      · rfl
      all_goals first | rfl | skip
      have hto := iter_to (to := to) (sz := sz) (shut := shut) (l := l) (by' := by') n
      simp only [Int.toNat_natCast, Int.ofNat_eq_natCast] at hlen ⊢
      generalize iterL to sz shut l n [⟨to, by'⟩] = es at *
      have hpos : 0 < es.length := by
        rcases es with _ | ⟨e, es⟩
        · cases hto
        · simp
      have hpl := (srtK_perm Rd.node es).length_eq
      have hR := run_row es hpos (by omega) st' p' g1 g2 g3
      rw [← upd_self h13]
      repeat' (first
 | (refine I_WS ?_; first
 | (refine WS_callRW rfl rfl rfl hR ?_)
 | (refine I_mov ?_; first
 | refine W_mov (v := .rs _ _ _ _ _) rfl rfl rfl ?_
 | refine W_mov (v := .map _) rfl rfl rfl ?_)
 | refine WS_nil ?_)
 | refine WC_seq ?_
 | refine WC_opsS ?_
 | refine WC_ret ?_)
      refine finX_N (t := .row) (s := 2) rfl (.inl rfl) (fin_row (.inr rfl) rfl (by rw [List.length_map, hpl]) (by decide) (xs := (srtK Rd.node es).map Rd.e) ⟨?_, ?_, _, upd_same _ _ _, ?_, ?_, ?_⟩ (fun d hd => by
        obtain ⟨e, _, rfl⟩ := List.mem_map.mp hd
        exact ⟨rfl, rfl⟩))
      · show st'.lim ≤ st'.next + es.length
        omega
      · show st'.next + es.length < st'.next + es.length + 1
        omega
      · show _ ≤ (cellsOf _).length
        rw [cells_len]
        simp
      · show (cellsOf _).take _ = cellsOf _
        rw [List.take_of_length_le (by rw [cells_len]; simp)]
      · rw [List.all_eq_true]
        intro d hd
        obtain ⟨x, hx, hd⟩ := List.mem_flatMap.1 hd
        obtain ⟨r, _, rfl⟩ := List.mem_map.1 hx
        simp [Rd.e, D.cells] at hd
        rcases hd with rfl | rfl <;> rfl
    · rw [decide_eq_false ha] at hA
      rw [if_neg (fun h => ha h.2)]
      repeat' (first
 | (refine I_WS ?_; first
 | (refine I_mov ?_; first
 | refine W_mov (v := .int _ _) rfl rfl rfl ?_
 | refine W_mov (v := .bool _) rfl rfl rfl ?_
 | refine W_mov (v := .slice _ _ _) rfl rfl rfl ?_)
 | (refine I_bin ?_; first
 | refine W_lssF rfl rfl rfl rfl (by omega) ?_)
 | (refine I_call ?_; first
 | refine W_call rfl rfl rfl (hA _) rfl rfl ?_)
 | (refine I_pick ?_; first
 | refine W_pick (v := .bool _) rfl rfl rfl rfl ?_)
 | refine W_not rfl rfl rfl ?_
 | refine WS_nil ?_)
 | refine WC_seq ?_
 | refine WC_opsS ?_
 | refine WC_condT rfl ?_
 | refine WC_ret ?_)
      exact finX_N (t := .isnil) (s := 0) rfl (.inr rfl) ⟨.inr rfl, rfl⟩
  · rw [if_neg (fun h => h0 h.1)]
    repeat' (first
 | (refine I_WS ?_; first
 | (refine I_mov ?_; first
 | refine W_skip rfl ?_
 | refine W_mov (v := .int _ _) rfl rfl rfl ?_
 | refine W_mov (v := .bool _) rfl rfl rfl ?_
 | refine W_mov (v := .slice _ _ _) rfl rfl rfl ?_)
 | (refine I_bin ?_; first
 | refine W_lssT rfl rfl rfl rfl (by omega) ?_)
 | (refine I_call ?_; first
 | refine W_skip rfl ?_)
 | (refine I_pick ?_; first
 | refine W_pick (v := .bool _) rfl rfl rfl rfl ?_)
 | refine W_skip rfl ?_
 | refine WS_nil ?_)
 | refine WC_seq ?_
 | refine WC_opsS ?_
 | refine WC_condT rfl ?_
 | refine WC_ret ?_)
    exact finX_N (t := .isnil) (s := 0) rfl (.inr rfl) ⟨.inr rfl, rfl⟩
end Go.Lea
/-
  The code of late, as the evaluator has it, is the program's; what goes over maps is known to hold.
-/
namespace Go.Lea
open Go.Ev
theorem stepF_inv {ds : List D} {st st' : Store} {r : D} (h : stepF ds st = some (r, st')) : ∃ p t s to sz t' s' M l shut, ds = [.map p, .slice t s (l.map Eg.e), .int .i64 to, .int .i64 sz, .slice t' s' (shut.map (D.int .i64))] ∧ st.boxes p = some (.map (kvOf M)) ∧ (s = 8 ∨ l = []) ∧ (s' = 1 ∨ shut = []) ∧ l.length ≤ 1000000 ∧ shut.length ≤ 1000000 ∧ st.lim ≤ p ∧ p < st.next ∧ r = .map st.next ∧ st' = { st with boxes := upd st.boxes st.next (some (.map (kvOf (stepL to sz shut l M)))), next := st.next + 2 + l.length } := by
  unfold stepF at h
  split at h
  · rename_i p t s xs to sz t' s' ys
    split at h
    · rename_i kv hb
      split at h
      · rename_i M l shut h1 h2 h3
        split at h
        · rename_i hc
          obtain ⟨c1, c2, c3, c4, c5, c6⟩ := hc
          cases h
          have e1 := rdsOf_inv h1
          have e2 := egsOf_inv h2
          have e3 := intsOf_inv h3
          subst e1 e2 e3
          exact ⟨p, t, s, to, sz, t', s', M, l, shut, rfl, hb, c1.imp id (fun h => by simpa using h), c2.imp id (fun h => by simpa using h), c3, c4, c5, c6, rfl, rfl⟩
        · cases h
      · cases h
    · cases h
  · cases h
theorem rowF_inv {ds : List D} {st st' : Store} {r : D} (h : rowF ds st = some (r, st')) : ∃ p M, ds = [.map p] ∧ st.boxes p = some (.map (kvOf M)) ∧ 0 < M.length ∧ M.length ≤ 1000000 ∧ st.lim ≤ p ∧ p < st.next ∧ r = .rs (st.next + M.length) 0 2 M.length M.length ∧ st' = { st with boxes := upd st.boxes (st.next + M.length) (some (.row (((srtK Rd.node M).map Rd.e).flatMap D.cells))), next := st.next + M.length + 1 } := by
  unfold rowF at h
  split at h
  · rename_i p
    split at h
    · rename_i kv hb
      split at h
      · rename_i M h1
        split at h
        · rename_i hc
          obtain ⟨c1, c2, c3, c4⟩ := hc
          cases h
          have e1 := rdsOf_inv h1
          subst e1
          exact ⟨p, M, rfl, hb, c1, c2, c3, c4, rfl, rfl⟩
        · cases h
      · cases h
    · cases h
  · cases h
end Go.Lea
namespace Go.Proofs.Ytjcilbnbciclpaa
open Go.ChangeShapes Go.WideShapes Go.ChangeAt Go.RowKit Go.Ev Go.Lea
theorem Try.own : ownKnob Try.prog.godebug = none := by kernel_rfl
theorem Try.laidOut : laidOutB Try.prog = true := by kernel_rfl
theorem Try.clone_ntmps : Try.f55.ntmps = 8 := rfl
set_option maxRecDepth 1000000 in
set_option maxHeartbeats 2000000 in
theorem clone_nil (w : World) (cap : Nat) : Calls Try.prog 55 #[.slice none 0 cap] w fun e w' => e = .returned (.slice none 0 0) ∧ w' = w := by
  have q : ∀ (w : World) (a : Option Addr) (n c n2 c2 : Nat), (binOp .eql 22 (.slice a n c) (.slice none n2 c2)).run Try.prog w = .ok (.bool a.isNone) w := fun w a n c n2 c2 => Lib.run_eql_slice_nil w _ _ a n c n2 c2 Try.underlying22
  go_enter Try.func55, Try.clone_ntmps
  go_wp2
  go_ret
  exact ⟨rfl, rfl⟩
theorem clone_known : PrimOK Try.prog 55 (cloneF 8 64) := clone_prim Try.mixed (by kernel_rfl) (by decide) clone_nil
namespace Base
theorem k_least_Route : compF Try.prog 13 c_least_Route.ro c_least_Route.mv = some c_least_Route := by kernel_rfl
theorem k_least_search_next : compF Try.prog 30 c_least_search_next.ro c_least_search_next.mv = some c_least_search_next := by kernel_rfl
theorem k_feluccalaw18_small : compF Try.prog 24 c_feluccalaw18_small.ro c_feluccalaw18_small.mv = some c_feluccalaw18_small := by kernel_rfl
theorem k_feluccalaw18_net : compF Try.prog 51 c_feluccalaw18_net.ro c_feluccalaw18_net.mv = some c_feluccalaw18_net := by kernel_rfl
theorem k_feluccalaw18_SpurBans : compF Try.prog 9 c_feluccalaw18_SpurBans.ro c_feluccalaw18_SpurBans.mv = some c_feluccalaw18_SpurBans := by kernel_rfl
theorem k_spur_Route : compF Try.prog 25 c_spur_Route.ro c_spur_Route.mv = some c_spur_Route := by kernel_rfl
theorem k_spur_Route_1 : compF Try.prog 52 c_spur_Route_1.ro c_spur_Route_1.mv = some c_spur_Route_1 := by kernel_rfl
theorem k_feluccaref05_Ints : compF Try.prog 28 c_feluccaref05_Ints.ro c_feluccaref05_Ints.mv = some c_feluccaref05_Ints := by kernel_rfl
theorem k_path_Route : compF Try.prog 22 c_path_Route.ro c_path_Route.mv = some c_path_Route := by kernel_rfl
theorem k_path_Ends : compF Try.prog 16 c_path_Ends.ro c_path_Ends.mv = some c_path_Ends := by kernel_rfl
theorem k_path_IDs : compF Try.prog 17 c_path_IDs.ro c_path_IDs.mv = some c_path_IDs := by kernel_rfl
theorem k_path_Same : compF Try.prog 18 c_path_Same.ro c_path_Same.mv = some c_path_Same := by kernel_rfl
theorem k_slices_Equal_Hop : compF Try.prog 34 c_slices_Equal_Hop.ro c_slices_Equal_Hop.mv = some c_slices_Equal_Hop := by kernel_rfl
theorem k_order_Compare : compF Try.prog 19 c_order_Compare.ro c_order_Compare.mv = some c_order_Compare := by kernel_rfl
theorem k_order_Less : compF Try.prog 27 c_order_Less.ro c_order_Less.mv = some c_order_Less := by kernel_rfl
theorem k_slices_Compare_int : compF Try.prog 37 c_slices_Compare_int.ro c_slices_Compare_int.mv = some c_slices_Compare_int := by kernel_rfl
theorem k_slices_DeleteFunc_Edge : compF Try.prog 54 c_slices_DeleteFunc_Edge.ro c_slices_DeleteFunc_Edge.mv = some c_slices_DeleteFunc_Edge := by kernel_rfl
theorem k_slices_IndexFunc_Edge : compF Try.prog 78 c_slices_IndexFunc_Edge.ro c_slices_IndexFunc_Edge.mv = some c_slices_IndexFunc_Edge := by kernel_rfl
theorem k_check_Node : compF Try.prog 47 c_check_Node.ro c_check_Node.mv = some c_check_Node := by kernel_rfl
theorem k_late_Times : compF Try.prog 58 c_late_Times.ro c_late_Times.mv = some c_late_Times := by kernel_rfl
theorem k_late_Fewest : compF Try.prog 23 c_late_Fewest.ro c_late_Fewest.mv = some c_late_Fewest := by kernel_rfl
theorem k_late_asked : compF Try.prog 49 c_late_asked.ro c_late_asked.mv = some c_late_asked := by kernel_rfl
theorem k_late_times_later : compF Try.prog 76 c_late_times_later.ro c_late_times_later.mv = some c_late_times_later := by kernel_rfl
theorem k_late_times_row_1 : compF Try.prog 101 c_late_times_row_1.ro c_late_times_row_1.mv = some c_late_times_row_1 := by kernel_rfl
theorem k_slices_Contains_int : compF Try.prog 53 c_slices_Contains_int.ro c_slices_Contains_int.mv = some c_slices_Contains_int := by kernel_rfl
theorem k_slices_Index_int : compF Try.prog 77 c_slices_Index_int.ro c_slices_Index_int.mv = some c_slices_Index_int := by kernel_rfl
theorem k_hop_Latest : compF Try.prog 75 c_hop_Latest.ro c_hop_Latest.mv = some c_hop_Latest := by kernel_rfl
theorem k_early_At : compF Try.prog 20 c_early_At.ro c_early_At.mv = some c_early_At := by kernel_rfl
theorem k_early_Times : compF Try.prog 21 c_early_Times.ro c_early_Times.mv = some c_early_Times := by kernel_rfl
theorem k_early_asked : compF Try.prog 38 c_early_asked.ro c_early_asked.mv = some c_early_asked := by kernel_rfl
theorem k_early_Times_1 : compF Try.prog 46 c_early_Times_1.ro c_early_Times_1.mv = some c_early_Times_1 := by kernel_rfl
theorem k_path_Walk : compF Try.prog 48 c_path_Walk.ro c_path_Walk.mv = some c_path_Walk := by kernel_rfl
theorem k_path_steps : compF Try.prog 33 c_path_steps.ro c_path_steps.mv = some c_path_steps := by kernel_rfl
theorem k_path_asked : compF Try.prog 32 c_path_asked.ro c_path_asked.mv = some c_path_asked := by kernel_rfl
theorem k_path_Right : compF Try.prog 64 c_path_Right.ro c_path_Right.mv = some c_path_Right := by kernel_rfl
theorem k_hop_Pass : compF Try.prog 43 c_hop_Pass.ro c_hop_Pass.mv = some c_hop_Pass := by kernel_rfl
theorem k_hop_Takes : compF Try.prog 69 c_hop_Takes.ro c_hop_Takes.mv = some c_hop_Takes := by kernel_rfl
theorem k_hop_right : compF Try.prog 70 c_hop_right.ro c_hop_right.mv = some c_hop_right := by kernel_rfl
theorem k_hop_Right : compF Try.prog 89 c_hop_Right.ro c_hop_Right.mv = some c_hop_Right := by kernel_rfl
theorem k_check_Bundle : compF Try.prog 63 c_check_Bundle.ro c_check_Bundle.mv = some c_check_Bundle := by kernel_rfl
theorem k_num_In : compF Try.prog 74 c_num_In.ro c_num_In.mv = some c_num_In := by kernel_rfl
theorem k_num_Ceil : compF Try.prog 90 c_num_Ceil.ro c_num_Ceil.mv = some c_num_Ceil := by kernel_rfl
theorem k_view_From : compF Try.prog 42 c_view_From.ro c_view_From.mv = some c_view_From := by kernel_rfl
theorem k_cmp_isNaN_int : compF Try.prog 65 c_cmp_isNaN_int.ro c_cmp_isNaN_int.mv = some c_cmp_isNaN_int := by kernel_rfl
theorem k_heap_New : compF Try.prog 39 c_heap_New.ro c_heap_New.mv = some c_heap_New := by kernel_rfl
theorem k_heap_Heap_Push : compF Try.prog 44 c_heap_Heap_Push.ro c_heap_Heap_Push.mv = some c_heap_Heap_Push := by kernel_rfl
theorem k_heap_Heap_Pop : compF Try.prog 41 c_heap_Heap_Pop.ro c_heap_Heap_Pop.mv = some c_heap_Heap_Pop := by kernel_rfl
theorem k_heap_Heap_Peek : compF Try.prog 66 c_heap_Heap_Peek.ro c_heap_Heap_Peek.mv = some c_heap_Heap_Peek := by kernel_rfl
theorem k_heap_Heap_Len : compF Try.prog 40 c_heap_Heap_Len.ro c_heap_Heap_Len.mv = some c_heap_Heap_Len := by kernel_rfl
theorem k_heap_Heap_ahead : compF Try.prog 71 c_heap_Heap_ahead.ro c_heap_Heap_ahead.mv = some c_heap_Heap_ahead := by kernel_rfl
theorem k_heap_Heap_swap : compF Try.prog 67 c_heap_Heap_swap.ro c_heap_Heap_swap.mv = some c_heap_Heap_swap := by kernel_rfl
theorem k_heap_Heap_down : compF Try.prog 68 c_heap_Heap_down.ro c_heap_Heap_down.mv = some c_heap_Heap_down := by kernel_rfl
theorem k_cmp_Or_int : compF Try.prog 35 c_cmp_Or_int.ro c_cmp_Or_int.mv = some c_cmp_Or_int := by kernel_rfl
theorem k_cmp_Compare_int : compF Try.prog 36 c_cmp_Compare_int.ro c_cmp_Compare_int.mv = some c_cmp_Compare_int := by kernel_rfl
theorem known : Known Try.prog Γ := by
  intro f fd h
  unfold Γ at h
  split at h
  · cases h; exact k_least_Route
  · cases h; exact k_least_search_next
  · cases h; exact k_feluccalaw18_small
  · cases h; exact k_feluccalaw18_net
  · cases h; exact k_feluccalaw18_SpurBans
  · cases h; exact k_spur_Route
  · cases h; exact k_spur_Route_1
  · cases h; exact k_feluccaref05_Ints
  · cases h; exact k_path_Route
  · cases h; exact k_path_Ends
  · cases h; exact k_path_IDs
  · cases h; exact k_path_Same
  · cases h; exact k_slices_Equal_Hop
  · cases h; exact k_order_Compare
  · cases h; exact k_order_Less
  · cases h; exact k_slices_Compare_int
  · cases h; exact k_slices_DeleteFunc_Edge
  · cases h; exact k_slices_IndexFunc_Edge
  · cases h; exact k_check_Node
  · cases h; exact k_late_Times
  · cases h; exact k_late_Fewest
  · cases h; exact k_late_asked
  · cases h; exact k_late_times_later
  · cases h; exact k_late_times_row_1
  · cases h; exact k_slices_Contains_int
  · cases h; exact k_slices_Index_int
  · cases h; exact k_hop_Latest
  · cases h; exact k_early_At
  · cases h; exact k_early_Times
  · cases h; exact k_early_asked
  · cases h; exact k_early_Times_1
  · cases h; exact k_path_Walk
  · cases h; exact k_path_steps
  · cases h; exact k_path_asked
  · cases h; exact k_path_Right
  · cases h; exact k_hop_Pass
  · cases h; exact k_hop_Takes
  · cases h; exact k_hop_right
  · cases h; exact k_hop_Right
  · cases h; exact k_check_Bundle
  · cases h; exact k_num_In
  · cases h; exact k_num_Ceil
  · cases h; exact k_view_From
  · cases h; exact k_cmp_isNaN_int
  · cases h; exact k_heap_New
  · cases h; exact k_heap_Heap_Push
  · cases h; exact k_heap_Heap_Pop
  · cases h; exact k_heap_Heap_Peek
  · cases h; exact k_heap_Heap_Len
  · cases h; exact k_heap_Heap_ahead
  · cases h; exact k_heap_Heap_swap
  · cases h; exact k_heap_Heap_down
  · cases h; exact k_cmp_Or_int
  · cases h; exact k_cmp_Compare_int
  · cases h; exact sort_known
  · cases h; exact clone_known
  · cases h
end Base
theorem ko_step : compF Try.prog 50 c_late_times_step.ro c_late_times_step.mv = some c_late_times_step := by kernel_rfl
theorem ko_row : compF Try.prog 79 c_late_times_row.ro c_late_times_row.mv = some c_late_times_row := by kernel_rfl
theorem step_known : PrimSOK Try.prog 50 stepF := by
  refine Sm.primS_of ⟨Base.known, Try.mixed⟩ ko_step (fun ds st r st' hno h => ?_)
  obtain ⟨p, t, s, to, sz, t', s', M, l, shut, rfl, hb, hs, hs', hll, hsl, hlp, hp, rfl, rfl⟩ := stepF_inv h
  refine ⟨p, kvOf M, hb, (upd_ne _ _ (Nat.ne_of_lt hp)).trans hb, fun hn es cl => ?_⟩
  rw [kvOf_keys] at hn
  refine (w_step l hll to sz shut hsl t t' s s' hs hs' M hn st p hp hlp hb hno es cl).mono (fun x ρ1 s1 hq => ?_)
  obtain ⟨q1, q2, kv', q3, q4, q5, q6, q7, q8, q9, q10, q11⟩ := hq
  refine ⟨q1, q2, .inr q6, q8.symm, q9.symm, q7.symm, q11.symm, q10.symm, fun i x hi hx => ?_, fun i hi hip => ?_⟩
  · by_cases e : i = st.next
    · subst e
      have hx : upd st.boxes st.next _ st.next = some x := hx
      rw [upd_same] at hx
      cases hx
      exact .inr ⟨kv', _, rfl, q4, q3⟩
    · have hx : upd st.boxes st.next _ i = some x := hx
      rw [upd_ne _ _ e] at hx
      have hlt : i < st.next := by
        rcases Nat.lt_or_ge i st.next with h | h
        · exact h
        · rw [hno i h] at hx; cases hx
      exact .inl ((q5 i hlt hi).trans hx)
  · have : i < st.next := by omega
    rw [q5 i this hip]
    exact upd_ne _ _ (by omega)
theorem row_known : PrimSOK Try.prog 79 rowF := by
  refine Sm.primS_of ⟨known_r, Try.mixed⟩ ko_row (fun ds st r st' hno h => ?_)
  obtain ⟨p, M, rfl, hb, h0, hMl, hlp, hp, rfl, rfl⟩ := rowF_inv h
  refine ⟨p, kvOf M, hb, (upd_ne _ _ (by omega)).trans hb, fun hn es cl => ?_⟩
  rw [kvOf_keys] at hn
  refine (w_row M hn h0 hMl st p hp hlp hb es cl).mono (fun x ρ1 s1 hq => ?_)
  obtain ⟨q1, q2, q4, q5, q6, q7, q8, q9, q10, q11⟩ := hq
  refine ⟨q1, q2, .inl q6, q8.symm, q9.symm, q7.symm, q11.symm, q10.symm, fun i x hi hx => ?_, fun i hi hip => ?_⟩
  · by_cases e : i = st.next + M.length
    · subst e
      have hx : upd st.boxes (st.next + M.length) _ (st.next + M.length) = some x := hx
      rw [upd_same] at hx
      cases hx
      exact .inl q4
    · have hx : upd st.boxes (st.next + M.length) _ i = some x := hx
      rw [upd_ne _ _ e] at hx
      have hlt : i < st.next := by
        rcases Nat.lt_or_ge i st.next with h | h
        · exact h
        · rw [hno i h] at hx; cases hx
      exact .inl ((q5 i hlt hi).trans hx)
  · have : i < st.next := by omega
    rw [q5 i this hip]
    exact upd_ne _ _ (by omega)
theorem known : Known Try.prog Γ2 := by
  intro f fd h
  unfold Γ2 at h
  split at h
  · cases h; exact step_known
  · cases h; exact row_known
  · exact Base.known f fd h
end Go.Proofs.Ytjcilbnbciclpaa
/-
  With how few hops.
-/
namespace Go.Lea
open Go.Ev
def hasB (fr now : Int) (M : List Rd) : Bool := match atN fr M with
  | some a => decide (now ≤ a)
  | none => false
def fewF (to sz : Int) (shut : List Int) (l : List Eg) (fr now : Int) : Nat → Nat → List Rd → Option Nat
  | 0, _, _ => none
  | m + 1, k, M => if hasB fr now M then some k else fewF to sz shut l fr now m (k + 1) (stepL to sz shut l M)
def fewM (l : List Eg) (fr to now by' sz : Int) (shut : List Int) : Option Nat := if AskC l fr now sz ∧ AskC l to by' sz then fewF to sz shut l fr now (l.length + 1) 0 [⟨to, by'⟩] else none
def fewT : Option Nat → D
  | some h => .tuple [.int .i64 h, .bool true]
  | none => .tuple [.int .i64 0, .bool false]
set_option maxHeartbeats 2000000 in
theorem l_few (l : List Eg) (hll : l.length ≤ 900) (fr to now sz : Int) (shut : List Int) (hsl : shut.length ≤ 1000000) (t t' : Tok) (s s' : Nat) (hs : s = 8 ∨ l = []) (hs' : s' = 1 ∨ shut = []) (n : Nat) (hn : n ≤ 901) : ∀ (m k : Nat), n = k + m → ∀ (M : List Rd) (ρ : Nat → D) (st : Store) (p : Nat), p < st.next → st.lim ≤ p → st.boxes p = some (.map (kvOf M)) →
    ρ 0 = .slice t s (l.map Eg.e) → ρ 1 = .int .i64 fr → ρ 2 = .int .i64 to → ρ 3 = .int .i64 now → ρ 5 = .int .i64 sz → ρ 6 = .slice t' s' (shut.map (D.int .i64)) → ρ 16 = .map p → ρ 40 = .int .i64 n → ρ 41 = .int .i64 k → ∀ (Q : X → (Nat → D) → Store → Prop),
    (fewF to sz shut l fr now m k M = none → ∀ ρ' st', Q (.exit 0) ρ' st') → (∀ h, fewF to sz shut l fr now m k M = some h → ∀ ρ' st', ρ' 14 = .int .i64 h → ρ' 15 = .bool true → Q .ret ρ' st') → WC Γ2 (.loop c_late_Fewest_l0) ρ st Q := by
  intro m
  induction m with
  | zero =>
    intro k hk M ρ st p hp hlp hbp h0 h1 h2 h3 h5 h6 h16 h40 h41 Q hQ hQ2
    have hk' : n = k := hk
    subst hk'
    rw [← upd_self h0, ← upd_self h1, ← upd_self h2, ← upd_self h3, ← upd_self h5, ← upd_self h6, ← upd_self h16, ← upd_self h40, ← upd_self h41]
    refine WC_loop ?_
    repeat' (first
 | (refine I_WS ?_; first
 | (refine I_bin ?_; first
 | refine W_lssF rfl rfl rfl rfl (by omega) ?_)
 | refine WS_nil ?_)
 | refine WC_seq ?_
 | refine WC_opsS ?_
 | refine WC_condF rfl ?_
 | refine WC_exit ?_)
    exact hQ rfl _ _
  | succ m ih =>
    intro k hk M ρ st p hp hlp hbp h0 h1 h2 h3 h5 h6 h16 h40 h41 Q hQ hQ2
    have hlt : (k : Int) < n := by omega
    have hS := fun t t' => run_step l hll to sz shut hsl t t' s s' hs hs' M st p hp hlp hbp
    have hnext := ih (k + 1) (by omega) (stepL to sz shut l M)
    clear ih
    have hu : fewF to sz shut l fr now (m + 1) k M = if hasB fr now M then some k else fewF to sz shut l fr now m (k + 1) (stepL to sz shut l M) := rfl
    rw [hu] at hQ hQ2
    clear hu
    rw [← upd_self h0, ← upd_self h1, ← upd_self h2, ← upd_self h3, ← upd_self h5, ← upd_self h6, ← upd_self h16, ← upd_self h40, ← upd_self h41]
    refine WC_loop ?_
    have hgo : hasB fr now M = false → ∀ ρ' : Nat → D, ρ' 0 = .slice t s (l.map Eg.e) → ρ' 1 = .int .i64 fr → ρ' 2 = .int .i64 to → ρ' 3 = .int .i64 now → ρ' 5 = .int .i64 sz → ρ' 6 = .slice t' s' (shut.map (D.int .i64)) → ρ' 16 = .map st.next → ρ' 40 = .int .i64 n → ρ' 41 = .int .i64 ((k : Int) + 1) → WC Γ2 (.loop c_late_Fewest_l0) ρ' { st with boxes := upd st.boxes st.next (some (.map (kvOf (stepL to sz shut l M)))), next := st.next + 2 + l.length } Q := fun hb ρ' k0 k1 k2 k3 k5 k6 k16 k40 k41 => by
      rw [hb] at hQ hQ2
      exact hnext ρ' _ st.next (by show st.next < st.next + 2 + l.length; omega) (by show st.lim ≤ st.next; omega) (upd_same _ _ _) k0 k1 k2 k3 k5 k6 k16 k40 k41 Q hQ hQ2
    cases ha : atN fr M with
    | none =>
      have hg1 : (kvGet fr (kvOf M)).getD (.int .i64 0) = .int .i64 0 := by rw [kvGet_of, ha]; rfl
      have hg2 : (kvGet fr (kvOf M)).isSome = false := by rw [kvGet_of, ha]; rfl
      have hb : hasB fr now M = false := by unfold hasB; rw [ha]
      have hgo := hgo hb
      clear hnext hQ hQ2
      repeat' (first
 | (refine I_WS ?_; first
 | refine W_lookupT rfl rfl rfl hbp hg1 hg2 rfl ?_
 | (refine WS_callRW rfl rfl rfl (hS _ _) ?_)
 | (refine I_mov ?_; first
 | refine W_skip rfl ?_
 | refine W_mov (v := .int _ _) rfl rfl rfl ?_
 | refine W_mov (v := .bool _) rfl rfl rfl ?_
 | refine W_mov (v := .slice _ _ _) rfl rfl rfl ?_
 | refine W_mov (v := .tuple _) rfl rfl rfl ?_
 | refine W_mov (v := .map _) rfl rfl rfl ?_)
 | (refine I_bin ?_; first
 | refine W_skip rfl ?_
 | refine W_lssT rfl rfl rfl rfl (by omega) ?_
 | refine W_add rfl rfl rfl rfl (by first | exact w64 (by omega) | rfl) ?_)
 | (refine I_pick ?_; first
 | refine W_pick (v := .bool _) rfl rfl rfl rfl ?_)
 | (refine I_extract ?_; first
 | refine W_extract (d := .int _ _) rfl rfl rfl rfl ?_
 | refine W_extract (d := .bool _) rfl rfl rfl rfl ?_)
 | refine WS_nil ?_)
 | refine WC_seq ?_
 | refine WC_opsS ?_
 | refine WC_skip ?_
 | refine WC_condT rfl ?_
 | refine WC_condF rfl ?_
 | refine WC_block ?_)
      refine hgo _ ?_ ?_ ?_ ?_ ?_ ?_ ?_ ?_ ?_ <;> rfl
    | some a =>
      have hg1 : (kvGet fr (kvOf M)).getD (.int .i64 0) = .int .i64 a := by rw [kvGet_of, ha]; rfl
      have hg2 : (kvGet fr (kvOf M)).isSome = true := by rw [kvGet_of, ha]; rfl
      by_cases hle : now ≤ a
      · have hb : hasB fr now M = true := by unfold hasB; rw [ha]; exact decide_eq_true hle
        rw [hb] at hQ2
        have hQ2 := hQ2 k rfl
        clear hnext hQ hgo
        repeat' (first
 | (refine I_WS ?_; first
 | refine W_lookupT rfl rfl rfl hbp hg1 hg2 rfl ?_
 | (refine I_mov ?_; first
 | refine W_mov (v := .int _ _) rfl rfl rfl ?_
 | refine W_mov (v := .bool _) rfl rfl rfl ?_
 | refine W_mov (v := .tuple _) rfl rfl rfl ?_
 | refine W_mov (v := .map _) rfl rfl rfl ?_)
 | (refine I_bin ?_; first
 | refine W_lssT rfl rfl rfl rfl (by omega) ?_
 | refine W_leqT rfl rfl rfl rfl (by omega) ?_)
 | (refine I_pick ?_; first
 | refine W_pick (v := .bool _) rfl rfl rfl rfl ?_)
 | (refine I_extract ?_; first
 | refine W_extract (d := .int _ _) rfl rfl rfl rfl ?_
 | refine W_extract (d := .bool _) rfl rfl rfl rfl ?_)
 | refine WS_nil ?_)
 | refine WC_seq ?_
 | refine WC_opsS ?_
 | refine WC_skip ?_
 | refine WC_condT rfl ?_
 | refine WC_block ?_
 | refine WC_ret ?_)
        exact hQ2 _ _ rfl rfl
      · have hb : hasB fr now M = false := by unfold hasB; rw [ha]; exact decide_eq_false hle
        have hgo := hgo hb
        clear hnext hQ hQ2
        repeat' (first
 | (refine I_WS ?_; first
 | refine W_lookupT rfl rfl rfl hbp hg1 hg2 rfl ?_
 | (refine WS_callRW rfl rfl rfl (hS _ _) ?_)
 | (refine I_mov ?_; first
 | refine W_mov (v := .int _ _) rfl rfl rfl ?_
 | refine W_mov (v := .bool _) rfl rfl rfl ?_
 | refine W_mov (v := .slice _ _ _) rfl rfl rfl ?_
 | refine W_mov (v := .tuple _) rfl rfl rfl ?_
 | refine W_mov (v := .map _) rfl rfl rfl ?_)
 | (refine I_bin ?_; first
 | refine W_lssT rfl rfl rfl rfl (by omega) ?_
 | refine W_leqF rfl rfl rfl rfl (by omega) ?_
 | refine W_add rfl rfl rfl rfl (by first | exact w64 (by omega) | rfl) ?_)
 | (refine I_pick ?_; first
 | refine W_pick (v := .bool _) rfl rfl rfl rfl ?_)
 | (refine I_extract ?_; first
 | refine W_extract (d := .int _ _) rfl rfl rfl rfl ?_
 | refine W_extract (d := .bool _) rfl rfl rfl rfl ?_)
 | refine WS_nil ?_)
 | refine WC_seq ?_
 | refine WC_opsS ?_
 | refine WC_skip ?_
 | refine WC_condT rfl ?_
 | refine WC_condF rfl ?_
 | refine WC_block ?_)
        refine hgo _ ?_ ?_ ?_ ?_ ?_ ?_ ?_ ?_ ?_ <;> rfl
set_option maxHeartbeats 4000000 in
theorem s_Fewest (l : List Eg) (hll : l.length ≤ 900) (fr to now by' sz : Int) (shut : List Int) (hsl : shut.length ≤ 1000000) (t t' : Tok) (s s' : Nat) (hs : s = 8 ∨ l = []) (hs' : s' = 1 ∨ shut = []) :
    EvP Γ2 23 [.slice t s (l.map Eg.e), .int .i64 fr, .int .i64 to, .int .i64 now, .int .i64 by', .int .i64 sz, .slice t' s' (shut.map (D.int .i64))] (fewT (fewM l fr to now by' sz shut)) := by
  refine EvP_code rfl rfl ?_
  have hA := fun t => (s_lasked l (by omega) fr now sz t s hs).grow hx2
  have hB := fun t => (s_lasked l (by omega) to by' sz t s hs).grow hx2
  unfold fewM
  by_cases ha : AskC l fr now sz
  · rw [decide_eq_true ha] at hA
    by_cases hb : AskC l to by' sz
    · rw [decide_eq_true hb] at hB
      rw [if_pos ⟨ha, hb⟩]
      repeat' (first
 | (refine I_WS ?_; first
 | refine W_lenM rfl rfl rfl ?_
 | refine W_mkmap rfl rfl ?_
 | refine W_mapset (v := .int .i64 by') rfl rfl rfl rfl (Nat.le_refl _) rfl rfl ?_
 | (refine I_mov ?_; first
 | refine W_mov (v := .int _ _) rfl rfl rfl ?_
 | refine W_mov (v := .bool _) rfl rfl rfl ?_
 | refine W_mov (v := .slice _ _ _) rfl rfl rfl ?_
 | refine W_mov (v := .map _) rfl rfl rfl ?_)
 | (refine I_bin ?_; first
 | refine W_add rfl rfl rfl rfl (by first | exact w64 (by omega) | rfl) ?_)
 | (refine I_call ?_; first
 | refine W_call rfl rfl rfl (hA _) rfl rfl ?_
 | refine W_call rfl rfl rfl (hB _) rfl rfl ?_)
 | (refine I_pick ?_; first
 | refine W_pick (v := .bool _) rfl rfl rfl rfl ?_)
 | refine W_not rfl rfl rfl ?_
 | refine WS_nil ?_)
 | refine WC_seq ?_
 | refine WC_opsS ?_
 | refine WC_skip ?_
 | refine WC_condF rfl ?_
 | refine WC_block ?_)
      refine l_few l hll fr to now sz shut hsl t t' s s' hs hs' (l.length + 1) (by omega) (l.length + 1) 0 (by omega) [⟨to, by'⟩] _ _ 0 ?_ ?_ ?_ ?_ ?_ ?_ ?_ ?_ ?_ ?_ ?_ ?_ _ (fun hf ρ' st' => ?_) (fun h hf ρ' st' h14 h15 => ?_)
      · exact Nat.zero_lt_one
      · exact Nat.le_refl _
      · rfl
      all_goals first | rfl | skip
      · rw [hf]
        repeat' (first
 | (refine I_WS ?_; first
 | (refine I_mov ?_; first
 | refine W_mov (v := .int _ _) rfl rfl rfl ?_
 | refine W_mov (v := .bool _) rfl rfl rfl ?_)
 | refine WS_nil ?_)
 | refine WC_seq ?_
 | refine WC_opsS ?_
 | refine WC_ret ?_)
        exact fin_ground (r' := .tuple [.int _ _, .bool _]) (.inr rfl) rfl rfl rfl
      · rw [hf, ← upd_self h14, ← upd_self h15]
        exact fin_ground (r' := .tuple [.int _ _, .bool _]) (.inr rfl) rfl rfl rfl
    · rw [decide_eq_false hb] at hB
      rw [if_neg (fun h => hb h.2)]
      repeat' (first
 | (refine I_WS ?_; first
 | (refine I_mov ?_; first
 | refine W_mov (v := .int _ _) rfl rfl rfl ?_
 | refine W_mov (v := .bool _) rfl rfl rfl ?_
 | refine W_mov (v := .slice _ _ _) rfl rfl rfl ?_)
 | (refine I_call ?_; first
 | refine W_call rfl rfl rfl (hA _) rfl rfl ?_
 | refine W_call rfl rfl rfl (hB _) rfl rfl ?_)
 | (refine I_pick ?_; first
 | refine W_pick (v := .bool _) rfl rfl rfl rfl ?_)
 | refine W_not rfl rfl rfl ?_
 | refine WS_nil ?_)
 | refine WC_seq ?_
 | refine WC_opsS ?_
 | refine WC_condT rfl ?_
 | refine WC_ret ?_)
      exact fin_ground (r' := .tuple [.int _ _, .bool _]) (.inr rfl) rfl rfl rfl
  · rw [decide_eq_false ha] at hA
    rw [if_neg (fun h => ha h.1)]
    repeat' (first
 | (refine I_WS ?_; first
 | (refine I_mov ?_; first
 | refine W_skip rfl ?_
 | refine W_mov (v := .int _ _) rfl rfl rfl ?_
 | refine W_mov (v := .bool _) rfl rfl rfl ?_
 | refine W_mov (v := .slice _ _ _) rfl rfl rfl ?_)
 | (refine I_call ?_; first
 | refine W_skip rfl ?_
 | refine W_call rfl rfl rfl (hA _) rfl rfl ?_)
 | (refine I_pick ?_; first
 | refine W_pick (v := .bool _) rfl rfl rfl rfl ?_)
 | refine W_not rfl rfl rfl ?_
 | refine W_skip rfl ?_
 | refine WS_nil ?_)
 | refine WC_seq ?_
 | refine WC_opsS ?_
 | refine WC_condT rfl ?_
 | refine WC_ret ?_)
    exact fin_ground (r' := .tuple [.int _ _, .bool _]) (.inr rfl) rfl rfl rfl
end Go.Lea
/-
  Plain laws of the latest times, for the statements.
-/
namespace Go.Lea
variable {l : List Eg} {to by' sz : Int} {shut : List Int}
theorem at_perm {L M : List Rd} (hp : L.Perm M) (hn : (M.map Rd.node).Nodup) (n : Int) : atN n L = atN n M := by
  have hL : (L.map Rd.node).Nodup := (hp.map _).nodup_iff.2 hn
  cases h : atN n M with
  | some t => exact atN_of hL (hp.mem_iff.2 (atN_some h))
  | none =>
    cases h' : atN n L with
    | none => rfl
    | some t =>
      have := atN_of hn (hp.mem_iff.1 (atN_some h'))
      rw [h] at this; cases this
theorem start_nd : (([⟨to, by'⟩] : List Rd).map Rd.node).Nodup := by simp
theorem Le.at_ {M N : List Rd} (h : Le M N) (h' : Le N M) (n : Int) : atN n M = atN n N := by
  cases h1 : atN n M with
  | some t =>
    obtain ⟨u, h2, h3⟩ := h n t h1
    obtain ⟨v, h4, h5⟩ := h' n u h2
    rw [h1] at h4
    cases h4
    rw [h2]
    have : t = u := by omega
    rw [this]
  | none =>
    cases h2 : atN n N with
    | none => rfl
    | some u =>
      obtain ⟨v, h4, h5⟩ := h' n u h2
      rw [h1] at h4; cases h4
theorem at_full (hf : by' ≤ 1099511627776) {k : Nat} (hk : l.length ≤ k) (n : Int) : atN n (iterL to sz shut l k [⟨to, by'⟩]) = atN n (iterL to sz shut l l.length [⟨to, by'⟩]) :=
  (iter_full hf k).at_ (iter_ups hk _) n
theorem at_late (ha : AskC l to by' sz) {hops : Int} (h0 : 0 ≤ hops) (n : Int) : atN n (lateM l to by' sz hops shut) = atN n (iterL to sz shut l hops.toNat [⟨to, by'⟩]) := by
  unfold lateM lateL
  rw [if_pos ⟨h0, ha⟩, at_perm (srtK_perm Rd.node _) (iter_nodes _ _ start_nd)]
  unfold mn
  split
  · rename_i h
    rw [at_full ha.2.2.1.2 (k := hops.toNat) (by omega)]
    rfl
  · rfl
/-! ### Edges -/
theorem why_iter (hf : by' ≤ 1099511627776) : ∀ (k : Nat) {n t : Int}, atN n (iterL to sz shut l (k + 1) [⟨to, by'⟩]) = some t → n = to ∨ ∃ e ∈ l, e.fr = n ∧ ∃ b, atN e.to (iterL to sz shut l k [⟨to, by'⟩]) = some b ∧ Stp to sz shut e b t := by
  intro k
  induction k with
  | zero =>
    intro n t h
    rw [iter_snoc] at h
    rcases step_inv h with h | ⟨e, he, b, h1, h2, h3⟩
    · simp only [iterL, atN] at h
      split at h <;> cases h
      rename_i e
      exact .inl e.symm
    · exact .inr ⟨e, he, h3, b, h1, h2⟩
  | succ k ih =>
    intro n t h
    have h' := h
    rw [iter_snoc] at h
    rcases step_inv h with h | ⟨e, he, b, h1, h2, h3⟩
    · rcases ih h with h | ⟨e, he, h3, b, h1, h2⟩
      · exact .inl h
      obtain ⟨b', h4, h5⟩ := iter_up (to := to) (sz := sz) (shut := shut) (l := l) k [⟨to, by'⟩] _ _ h1
      have hb' := iter_bd (to := to) (sz := sz) (shut := shut) (l := l) (k + 1) _ (start_bd (to := to) (by' := by')) _ _ h4
      obtain ⟨x', h6, h7⟩ := latO_mono h2.2.2 h5 (by omega)
      obtain ⟨u, h8, h9⟩ := step_at (to := to) (sz := sz) (shut := shut) he h4 (x := x') ⟨h2.1, h2.2.1, h6⟩
      rw [← iter_snoc, h3, h'] at h8
      cases h8
      exact .inr ⟨e, he, h3, b', h4, h2.1, h2.2.1, by rw [h6, show x' = t by omega]⟩
    · exact .inr ⟨e, he, h3, b, h1, h2⟩
/-! ### The fewest -/
variable {fr now : Int}
theorem few_some : ∀ (m k : Nat) (M : List Rd) {h : Nat}, fewF to sz shut l fr now m k M = some h → k ≤ h ∧ h < k + m ∧ hasB fr now (iterL to sz shut l (h - k) M) = true ∧ ∀ j, j < h - k → hasB fr now (iterL to sz shut l j M) = false
  | 0, k, M, h, e => by cases e
  | m + 1, k, M, h, e => by
    rw [fewF] at e
    split at e
    · rename_i hb
      cases e
      exact ⟨Nat.le_refl _, by omega, by rw [Nat.sub_self]; exact hb, fun j hj => by omega⟩
    · rename_i hb
      obtain ⟨h1, h2, h3, h4⟩ := few_some m (k + 1) _ e
      refine ⟨by omega, by omega, ?_, fun j hj => ?_⟩
      · rw [show h - k = (h - (k + 1)) + 1 by omega, iterL]; exact h3
      · cases j with
        | zero => simpa [iterL] using hb
        | succ j => rw [iterL]; exact h4 j (by omega)
theorem few_none : ∀ (m k : Nat) (M : List Rd), fewF to sz shut l fr now m k M = none → ∀ j, j < m → hasB fr now (iterL to sz shut l j M) = false
  | 0, k, M, e, j, hj => by omega
  | m + 1, k, M, e, j, hj => by
    rw [fewF] at e
    split at e
    · cases e
    · rename_i hb
      cases j with
      | zero => simpa [iterL] using hb
      | succ j => rw [iterL]; exact few_none m (k + 1) _ e j (by omega)
theorem has_iff {M : List Rd} : hasB fr now M = true ↔ ∃ a, atN fr M = some a ∧ now ≤ a := by
  unfold hasB
  split
  · rename_i a h
    rw [decide_eq_true_eq, h]
    exact ⟨fun h' => ⟨a, rfl, h'⟩, fun ⟨b, e, h'⟩ => by cases e; exact h'⟩
  · rename_i h
    rw [h]
    exact ⟨fun h' => (by cases h'), fun ⟨b, e, h'⟩ => (by cases e)⟩
def reachB (l : List Eg) (fr to now sz by' : Int) : Bool := match atN to (timesM l fr now sz []) with
  | some a => decide (a ≤ by')
  | none => false
theorem reachB_iff {ha : AskC l fr now sz} : reachB l fr to now sz by' = true ↔ ∃ t, t ≤ by' ∧ Reach (psz sz) (clS []) l fr now to t := by
  have hT := times_isT ha []
  unfold reachB
  constructor
  · intro h
    split at h
    · rename_i a h1
      exact ⟨a, of_decide_eq_true h, hT.t1 _ (atN_some h1)⟩
    · cases h
  · rintro ⟨t, h1, h2⟩
    obtain ⟨u, h3, h4⟩ := hT.at_ h2
    rw [h3]
    exact decide_eq_true (by omega)
theorem meets (ha : AskC l fr now sz) (hb : AskC l to by' sz) : reachB l fr to now sz by' = hasB fr now (iterL to sz [] l l.length [⟨to, by'⟩]) := by
  have key : reachB l fr to now sz by' = true ↔ hasB fr now (iterL to sz [] l l.length [⟨to, by'⟩]) = true := by
    rw [reachB_iff (ha := ha), has_iff]
    constructor
    · rintro ⟨t, h1, h2⟩
      obtain ⟨p, b, h3, h4⟩ := reach_wk hb.2.2.1.2 h2 (.nil (to := to) (sz := sz) (shut := []) (l := l) (by' := by')) h1
      obtain ⟨u, h5, h6⟩ := iter_of_wk hb.2.2.1.2 h3
      obtain ⟨v, h7, h8⟩ := iter_full hb.2.2.1.2 p.length _ _ h5
      exact ⟨v, h7, by omega⟩
    · rintro ⟨a, h1, h2⟩
      obtain ⟨p, _, h3⟩ := wk_of_iter _ h1
      obtain ⟨a', h4, h5⟩ := wk_reach h3 (clS []) (fun m => by simp [clS]) now ha.2.2.1.1 h2
      exact ⟨a', h4, h5⟩
  cases h1 : reachB l fr to now sz by' <;> cases h2 : hasB fr now (iterL to sz [] l l.length [⟨to, by'⟩]) <;> simp_all
end Go.Lea
/-
  Plain laws of the best route.
-/
namespace Go.Lea
/-! ### What is looked for -/
def okN (to sz : Int) (shut : List Int) (L : List Rd) (t : Int) (e : Eg) : Bool := match atN e.to L with
  | some b => decide (passC e t sz) && (decide (thereE e t sz ≤ b) && (decide (e.to = to) || decide (e.to ∉ shut)))
  | none => false
def nextM (l : List Eg) (to by' sz : Int) (shut : List Int) (n t hops : Int) : Option Eg := (fromE n l).find? (okN to sz shut (lateM l to by' sz hops shut) t)
def goM (l : List Eg) (to by' sz : Int) (shut : List Int) : Nat → Int → Int → Option (List Eg)
  | 0, _, _ => some []
  | k + 1, n, t => match nextM l to by' sz shut n t k with
    | none => none
    | some e => (goM l to by' sz shut k e.to (thereE e t sz)).map (e :: ·)
def bestM (l : List Eg) (fr to now sz by' : Int) (shut : List Int) : Option (List Eg × Int) := match atN to (timesM l fr now sz shut) with
  | none => none
  | some a => if by' < a then none else match fewM l fr to now a sz shut with
    | none => none
    | some n => (goM l to a sz shut n fr now).map fun es => (es, a)
/-! ### Walks by edges -/
inductive Way (sz : Int) (l : List Eg) : Int → Int → List Eg → Int → Int → Prop
  | nil {n t : Int} : Way sz l n t [] n t
  | cons {n t m u : Int} {e : Eg} {es : List Eg} (he : e ∈ l) (hf : e.fr = n) (hp : passC e t sz) (h : Way sz l e.to (thereE e t sz) es m u) : Way sz l n t (e :: es) m u
variable {l : List Eg} {to by' sz : Int} {shut : List Int}
theorem Way.ge {n t m u : Int} {es : List Eg} (h : Way sz l n t es m u) : t ≤ u := by
  induction h with
  | nil => exact Int.le_refl _
  | cons _ _ hp _ ih => exact Int.le_trans (pass_ge hp) ih
theorem Way.inj {n t m u m' u' : Int} {es : List Eg} (h : Way sz l n t es m u) (h' : Way sz l n t es m' u') : m = m' ∧ u = u' := by
  induction h with
  | nil => cases h'; exact ⟨rfl, rfl⟩
  | cons he hf hp h ih => cases h' with | cons _ _ _ h' => exact ih h'
theorem Way.trans {n t m u m' u' : Int} {es es' : List Eg} (h : Way sz l n t es m u) (h' : Way sz l m u es' m' u') : Way sz l n t (es ++ es') m' u' := by
  induction h with
  | nil => exact h'
  | cons he hf hp h ih => exact .cons he hf hp (ih h')
theorem Way.split {n t m u : Int} : ∀ {es es' : List Eg}, Way sz l n t (es ++ es') m u → ∃ m' u', Way sz l n t es m' u' ∧ Way sz l m' u' es' m u := by
  intro es
  induction es generalizing n t with
  | nil => intro es' h; exact ⟨n, t, .nil, h⟩
  | cons e es ih =>
    intro es' h
    cases h with
    | cons he hf hp h =>
      obtain ⟨m', u', h1, h2⟩ := ih h
      exact ⟨m', u', .cons he hf hp h1, h2⟩
theorem Way.mem {n t m u : Int} {es : List Eg} (h : Way sz l n t es m u) : ∀ e ∈ es, e ∈ l := by
  induction h with
  | nil => simp
  | cons he _ _ _ ih =>
    intro e h
    rcases List.mem_cons.1 h with rfl | h
    · exact he
    · exact ih e h
theorem Way.sub {l' : List Eg} {n t m u : Int} {es : List Eg} (h : Way sz l n t es m u) (hs : ∀ e ∈ es, e ∈ l') : Way sz l' n t es m u := by
  induction h with
  | nil => exact .nil
  | cons he hf hp h ih => exact .cons (hs _ List.mem_cons_self) hf hp (ih fun e h => hs e (List.mem_cons_of_mem _ h))
def nodesW (n : Int) (es : List Eg) : List Int := n :: es.map Eg.to
theorem Way.reach {n t m u : Int} {es : List Eg} (h : Way sz l n t es m u) (hs : ∀ e ∈ es, e.to ∉ shut) {fr now : Int} (hr : Reach (psz sz) (clS shut) l fr now n t) : Reach (psz sz) (clS shut) l fr now m u := by
  induction h with
  | nil => exact hr
  | cons he hf hp h ih =>
    rename_i n t m u e es
    exact ih (fun e h => hs e (List.mem_cons_of_mem _ h)) (.go hr he hf (psz_some.2 ⟨hp, rfl⟩) (by simp [clS, hs e List.mem_cons_self]))
theorem Way.late {n t m u : Int} {es : List Eg} (h : Way sz l n t es m u) (hm : m = to) (hu : u ≤ by') (hb : by' ≤ 1099511627776) (hto : ∀ e ∈ es, e.fr ≠ to) (hs : ∀ e ∈ es, e.to = to ∨ e.to ∉ shut) : hasB n t (iterL to sz shut l es.length [⟨to, by'⟩]) = true := by
  induction h with
  | nil =>
    subst hm
    exact has_iff.2 ⟨by', by simp [iterL, atN], hu⟩
  | cons he hf hp h ih =>
    rename_i n t m u e es
    have hi := ih hm hu (fun e h => hto e (List.mem_cons_of_mem _ h)) (fun e h => hs e (List.mem_cons_of_mem _ h))
    obtain ⟨b, h1, h2⟩ := has_iff.1 hi
    have hbb := iter_bd es.length _ (start_bd (to := to) (by' := by')) _ _ h1
    obtain ⟨x, h3, h4⟩ := pass_lat hp h2 (by omega)
    obtain ⟨v, h5, h6⟩ := step_at (shut := shut) he h1 (x := x) ⟨hto e List.mem_cons_self, hs e List.mem_cons_self, h3⟩
    rw [List.length_cons, iter_snoc]
    exact has_iff.2 ⟨v, by rw [← hf]; exact h5, by omega⟩
/-! ### The search -/
def Want (l : List Eg) (to by' sz : Int) (shut : List Int) (k : Nat) (n t : Int) : Prop := hasB n t (iterL to sz shut l k [⟨to, by'⟩]) = true ∧ ∀ j, j < k → hasB n t (iterL to sz shut l j [⟨to, by'⟩]) = false
theorem want_zero {n t : Int} (h : Want l to by' sz shut 0 n t) : n = to ∧ t ≤ by' := by
  obtain ⟨a, h1, h2⟩ := has_iff.1 h.1
  simp only [iterL, atN] at h1
  split at h1 <;> cases h1
  rename_i e
  exact ⟨e.symm, h2⟩
theorem want_ne {k : Nat} {n t : Int} (h : Want l to by' sz shut (k + 1) n t) : n ≠ to := by
  rintro rfl
  obtain ⟨a, h1, h2⟩ := has_iff.1 h.1
  rw [iter_to] at h1
  cases h1
  have := h.2 0 (by omega)
  unfold hasB at this
  rw [iter_to] at this
  simp at this
  omega
theorem mem_fromE {n : Int} {e : Eg} : e ∈ fromE n l ↔ e ∈ l ∧ e.fr = n := by simp [fromE]
theorem okN_iff {L : List Rd} {t : Int} {e : Eg} : okN to sz shut L t e = true ↔ ∃ b, atN e.to L = some b ∧ passC e t sz ∧ thereE e t sz ≤ b ∧ (e.to = to ∨ e.to ∉ shut) := by
  unfold okN
  split
  · rename_i b h
    rw [h]
    simp
  · rename_i h
    rw [h]
    simp
theorem want_go {k : Nat} {n t : Int} (ha : AskC l to by' sz) (h : Want l to by' sz shut (k + 1) n t) {e : Eg} (he : e ∈ l) (hf : e.fr = n) (ho : okN to sz shut (lateM l to by' sz k shut) t e = true) : Want l to by' sz shut k e.to (thereE e t sz) := by
  obtain ⟨b, h1, h2, h3, h4⟩ := okN_iff.1 ho
  rw [at_late ha (by omega)] at h1
  refine ⟨has_iff.2 ⟨b, h1, h3⟩, fun j hj => ?_⟩
  cases hb : hasB e.to (thereE e t sz) (iterL to sz shut l j [⟨to, by'⟩]) with
  | false => rfl
  | true =>
    exfalso
    obtain ⟨c, h5, h6⟩ := has_iff.1 hb
    have hbb := iter_bd (to := to) (sz := sz) (shut := shut) (l := l) j _ (start_bd (to := to) (by' := by')) _ _ h5
    have := ha.2.2.1.2
    obtain ⟨x, h7, h8⟩ := pass_lat h2 h6 (by omega)
    obtain ⟨v, h9, h10⟩ := step_at (shut := shut) he h5 (x := x) ⟨by rw [hf]; exact want_ne h, h4, h7⟩
    have := h.2 (j + 1) (by omega)
    rw [iter_snoc] at this
    rw [has_iff.2 ⟨v, by rw [← hf]; exact h9, by omega⟩] at this
    cases this
theorem want_some {k : Nat} {n t : Int} (ha : AskC l to by' sz) (h0 : 0 ≤ t) (h : Want l to by' sz shut (k + 1) n t) : ∃ e, nextM l to by' sz shut n t k = some e := by
  obtain ⟨a, h1, h2⟩ := has_iff.1 h.1
  rcases why_iter ha.2.2.1.2 k h1 with h3 | ⟨e, he, h3, b, h4, h5⟩
  · exact absurd h3 (want_ne h)
  · obtain ⟨h6, h7⟩ := lat_pass h5.2.2 h0 h2
    cases hn : nextM l to by' sz shut n t k with
    | some e => exact ⟨e, rfl⟩
    | none =>
      exfalso
      unfold nextM at hn
      rw [List.find?_eq_none] at hn
      refine hn e (mem_fromE.2 ⟨he, h3⟩) (okN_iff.2 ⟨b, ?_, h6, h7, h5.2.1⟩)
      rw [at_late ha (by omega)]
      exact h4
theorem next_spec {n t hops : Int} {e : Eg} (h : nextM l to by' sz shut n t hops = some e) : e ∈ l ∧ e.fr = n ∧ okN to sz shut (lateM l to by' sz hops shut) t e = true := by
  unfold nextM at h
  have h1 := List.mem_of_find?_eq_some h
  have h2 := List.find?_some h
  exact ⟨(mem_fromE.1 h1).1, (mem_fromE.1 h1).2, h2⟩
theorem fromE_sorted (hl : l.Pairwise fun a b => a.id < b.id) (n : Int) : (fromE n l).Pairwise fun a b => a.id < b.id := hl.filter _
theorem find_least : ∀ {m : List Eg} {p : Eg → Bool} {e e' : Eg}, (m.Pairwise fun a b => a.id < b.id) → m.find? p = some e → e' ∈ m → p e' = true → e = e' ∨ e.id < e'.id
  | [], p, e, e', _, h, _, _ => by cases h
  | x :: m, p, e, e', hs, h, he, hp => by
    have hs' := List.pairwise_cons.1 hs
    rw [List.find?_cons] at h
    cases hx : p x with
    | true =>
      rw [hx] at h
      cases h
      rcases List.mem_cons.1 he with rfl | he
      · exact .inl rfl
      · exact .inr (hs'.1 _ he)
    | false =>
      rw [hx] at h
      rcases List.mem_cons.1 he with rfl | he
      · rw [hx] at hp; cases hp
      · exact find_least hs'.2 h he hp
theorem next_least (hl : RL l) {n t hops : Int} {e e' : Eg} (h : nextM l to by' sz shut n t hops = some e) (he : e' ∈ l) (hf : e'.fr = n) (ho : okN to sz shut (lateM l to by' sz hops shut) t e' = true) : e = e' ∨ e.id < e'.id :=
  find_least (fromE_sorted hl.2 n) h (mem_fromE.2 ⟨he, hf⟩) ho
def lexI : List Int → List Int → Int
  | [], [] => 0
  | [], _ :: _ => -1
  | _ :: _, [] => 1
  | a :: xs, b :: ys => if a < b then -1 else if b < a then 1 else lexI xs ys
theorem lexI_refl : ∀ a : List Int, lexI a a = 0
  | [] => rfl
  | a :: xs => by rw [lexI, if_neg (Int.lt_irrefl _), if_neg (Int.lt_irrefl _), lexI_refl xs]
structure Best (l : List Eg) (to by' sz : Int) (shut : List Int) (k : Nat) (n t : Int) (es : List Eg) : Prop where
  way : ∃ u, Way sz l n t es to u ∧ u ≤ by'
  len : es.length = k
  nd : (nodesW n es).Nodup
  op : ∀ e ∈ es, e.to = to ∨ e.to ∉ shut
  best : RL l → ∀ es' u', Way sz l n t es' to u' → u' ≤ by' → es'.length = k → (∀ e ∈ es', e.fr ≠ to) → (∀ e ∈ es', e.to = to ∨ e.to ∉ shut) → es = es' ∨ lexI (es.map Eg.id) (es'.map Eg.id) = -1
theorem id_inj (hl : RL l) {a b : Eg} (ha : a ∈ l) (hb : b ∈ l) (h : a.id = b.id) : a = b := by
  obtain ⟨i, hi, rfl⟩ := List.getElem_of_mem ha
  obtain ⟨j, hj, rfl⟩ := List.getElem_of_mem hb
  have hp := List.pairwise_iff_getElem.1 hl.2
  rcases Nat.lt_trichotomy i j with h1 | h1 | h1
  · have := hp i j hi hj h1; omega
  · subst h1; rfl
  · have := hp j i hj hi h1; omega
theorem go_best (ha : AskC l to by' sz) : ∀ (k : Nat) {n t : Int}, 0 ≤ t → Want l to by' sz shut k n t → ∃ es, goM l to by' sz shut k n t = some es ∧ Best l to by' sz shut k n t es ∧ ∀ (j : Nat) (h : j < es.length), ∃ tj, t ≤ tj ∧ Want l to by' sz shut (k - (j + 1)) (es[j]'h).to tj := by
  intro k
  induction k with
  | zero =>
    intro n t h0 h
    obtain ⟨rfl, h1⟩ := want_zero h
    exact ⟨[], rfl, ⟨⟨t, .nil, h1⟩, rfl, by simp [nodesW], by simp, fun _ es' u' _ _ hl _ _ => .inl (List.length_eq_zero_iff.1 hl).symm⟩, fun j h => by simp at h⟩
  | succ k ih =>
    intro n t h0 h
    obtain ⟨e, he⟩ := want_some ha h0 h
    obtain ⟨h1, h2, h3⟩ := next_spec he
    have hw := want_go ha h h1 h2 h3
    obtain ⟨b, h4, h5, h6, h7⟩ := okN_iff.1 h3
    have hge := pass_ge h5
    obtain ⟨es, g1, g2, g3⟩ := ih (by omega) hw
    obtain ⟨u, hway, hu⟩ := g2.way
    have hg3 : ∀ (j : Nat) (h : j < (e :: es).length), ∃ tj, t ≤ tj ∧ Want l to by' sz shut (k + 1 - (j + 1)) ((e :: es)[j]'h).to tj := fun j hj => by
      cases j with
      | zero => exact ⟨_, hge, hw⟩
      | succ j =>
        obtain ⟨tj, a1, a2⟩ := g3 j (by simpa using hj)
        exact ⟨tj, by omega, by rw [show k + 1 - (j + 1 + 1) = k - (j + 1) by omega]; exact a2⟩
    refine ⟨e :: es, by rw [goM, he]; simp only [g1]; rfl, ⟨⟨u, .cons h1 h2 h5 hway, hu⟩, by simp [g2.len], ?_, ?_, ?_⟩, hg3⟩
    · refine List.nodup_cons.2 ⟨fun hn => ?_, g2.nd⟩
      obtain ⟨j, hj, hjn⟩ := List.getElem_of_mem hn
      have hj' : j < (e :: es).length := by simpa using hj
      obtain ⟨tj, a1, a2⟩ := hg3 j hj'
      rw [List.getElem_map] at hjn
      rw [hjn] at a2
      obtain ⟨c, c1, c2⟩ := has_iff.1 a2.1
      have := h.2 (k + 1 - (j + 1)) (by omega)
      rw [has_iff.2 ⟨c, c1, by omega⟩] at this
      cases this
    · intro e' h
      rcases List.mem_cons.1 h with rfl | h
      · exact h7
      · exact g2.op e' h
    · intro hl es' u' hw' hu' hl' hto hs
      cases hw' with
      | nil => simp at hl'
      | cons he' hf' hp' hw' =>
        rename_i e' es'
        have hlate := hw'.late rfl hu' ha.2.2.1.2 (fun e h => hto e (List.mem_cons_of_mem _ h)) (fun e h => hs e (List.mem_cons_of_mem _ h))
        simp only [List.length_cons, Nat.add_right_cancel_iff] at hl'
        rw [hl'] at hlate
        obtain ⟨b', h8, h9⟩ := has_iff.1 hlate
        have ho : okN to sz shut (lateM l to by' sz k shut) t e' = true := okN_iff.2 ⟨b', by rw [at_late ha (by omega)]; exact h8, hp', h9, hs e' List.mem_cons_self⟩
        rcases next_least hl he he' hf' ho with rfl | hlt
        · rcases g2.best hl es' u' hw' hu' hl' (fun e h => hto e (List.mem_cons_of_mem _ h)) (fun e h => hs e (List.mem_cons_of_mem _ h)) with rfl | hlt
          · exact .inl rfl
          · right
            rw [List.map_cons, List.map_cons, lexI, if_neg (Int.lt_irrefl _), if_neg (Int.lt_irrefl _)]
            exact hlt
        · right
          rw [List.map_cons, List.map_cons, lexI, if_pos hlt]
end Go.Lea
