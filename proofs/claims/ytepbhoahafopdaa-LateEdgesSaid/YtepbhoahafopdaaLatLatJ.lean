/-
  The table with what goes over maps; the latest times, and with how few hops.
-/
import Derived.Test.YtepbhoahafopdaaLatLatP
import Derived.Test.YtepbhoahafopdaaLatLatP
import Derived.Test.YtepbhoahafopdaaLatLatP
import Derived.Test.YtepbhoahafopdaaEvEvG
import Derived.Test.YtepbhoahafopdaaLatLatP
import Derived.Test.YtepbhoahafopdaaEvEvX4
set_option linter.unusedVariables false
set_option linter.unusedSimpArgs false
set_option linter.unnecessarySimpa false

namespace Go.Lat
open Go.Ev
set_option linter.unusedVariables false
set_option linter.unusedSimpArgs false
def Γ2 : Nat → Option FD
  | 32 => some (.primS stepF)
  | 34 => some (.primS rowF)
  | f => Γ f
theorem hx2 : ∀ f fd, Γ f = some fd → Γ2 f = some fd := fun f fd h => by
  unfold Γ2
  split
  · cases h
  · cases h
  · exact h
/-- The latest times. -/
def lateL (l : List Eg) (to by' sz hops : Int) (shut : List Int) : List Rd := iterL to sz shut l (mn hops l.length).toNat [⟨to, by'⟩]
def lateM (l : List Eg) (to by' sz hops : Int) (shut : List Int) : List Rd := if 0 ≤ hops ∧ AskC l to by' sz then srtK Rd.node (lateL l to by' sz hops shut) else []
theorem run_step (l : List Eg) (hll : l.length ≤ 900) (to sz : Int) (shut : List Int) (hsl : shut.length ≤ 1000000) (t t' : Tok) (s s' : Nat) (hs : s = 8 ∨ l = []) (hs' : s' = 1 ∨ shut = []) (M : List Rd) (st : Store) (p : Nat) (hp : p < st.next) (hlp : st.lim ≤ p) (hbp : st.boxes p = some (.map (kvOf M))) :
    EvRW Γ2 32 [.map p, .slice t s (l.map Eg.e), .int .i64 to, .int .i64 sz, .slice t' s' (shut.map (D.int .i64))] st (.map st.next) { st with boxes := upd st.boxes st.next (some (.map (kvOf (stepL to sz shut l M)))), next := st.next + 2 + l.length } := by
  refine EvRW_primS (F := stepF) rfl ?_
  show stepF [.map p, .slice t.strip s (l.map Eg.e), .int .i64 to, .int .i64 sz, .slice t'.strip s' (shut.map (D.int .i64))] st = _
  simp only [stepF, hbp, rdsOf_kv, egsOf_map, intsOf_map]
  rw [if_pos ⟨hs.imp id (by rintro rfl; rfl), hs'.imp id (by rintro rfl; rfl), by omega, by omega, hlp, hp⟩]
theorem run_row (M : List Rd) (h0 : 0 < M.length) (hMl : M.length ≤ 1000000) (st : Store) (p : Nat) (hp : p < st.next) (hlp : st.lim ≤ p) (hbp : st.boxes p = some (.map (kvOf M))) :
    EvRW Γ2 34 [.map p] st (.rs (st.next + M.length) 0 2 M.length M.length) { st with boxes := upd st.boxes (st.next + M.length) (some (.row (((srtK Rd.node M).map Rd.e).flatMap D.cells))), next := st.next + M.length + 1 } := by
  refine EvRW_primS (F := rowF) rfl ?_
  show rowF [.map p] st = _
  simp only [rowF, hbp, rdsOf_kv]
  rw [if_pos ⟨h0, hMl, hlp, hp⟩]
theorem s_lasked (l : List Eg) (hll : l.length ≤ 1073741824) (fr now sz : Int) (t : Tok) (s : Nat) (hs : s = 8 ∨ l = []) : EvP Γ 31 [.slice t s (l.map Eg.e), .int .i64 fr, .int .i64 now, .int .i64 sz] (.bool (decide (AskC l fr now sz))) := by
  refine EvP_code rfl rfl ?_
  by_cases ha : AskC l fr now sz
  · have hw : walkM l [] fr now sz = some [] := by unfold walkM; rw [if_pos ha]; rfl
    have hW := fun t => s_Walk1 l hll [] (by simp) fr now sz [] hw t s hs .isnil 0 (.inr rfl)
    rw [decide_eq_true ha]
    repeat' (first
 | (refine I_WS ?_; first
 | (refine I_mov ?_; first
 | refine W_mov (v := .int _ _) rfl rfl rfl ?_
 | refine W_mov (v := .bool _) rfl rfl rfl ?_
 | refine W_mov (v := .slice _ _ _) rfl rfl rfl ?_
 | refine W_mov (v := .tuple _) rfl rfl rfl ?_)
 | (refine I_call ?_; first
 | (refine W_callT rfl rfl rfl (hW _) rfl ?_; intro tm sm hsm tk2 nt2))
 | (refine I_extract ?_; first
 | refine W_extract (d := .bool _) rfl rfl rfl rfl ?_
 | refine W_extract (d := .slice _ _ _) rfl rfl rfl rfl ?_)
 | refine WS_nil ?_)
 | refine WC_seq ?_
 | refine WC_opsS ?_
 | refine WC_ret ?_)
    exact fin_bool (.inr rfl) rfl rfl
  · have hw : walkM l [] fr now sz = none := by unfold walkM; rw [if_neg ha]
    have hW := fun t => s_Walk0 l hll [] (by simp) fr now sz hw t s hs .isnil 0 (.inr rfl)
    rw [decide_eq_false ha]
    repeat' (first
 | (refine I_WS ?_; first
 | (refine I_mov ?_; first
 | refine W_mov (v := .int _ _) rfl rfl rfl ?_
 | refine W_mov (v := .bool _) rfl rfl rfl ?_
 | refine W_mov (v := .slice _ _ _) rfl rfl rfl ?_
 | refine W_mov (v := .tuple _) rfl rfl rfl ?_)
 | (refine I_call ?_; first
 | refine W_call rfl rfl rfl (hW _) rfl rfl ?_)
 | (refine I_extract ?_; first
 | refine W_extract (d := .bool _) rfl rfl rfl rfl ?_
 | refine W_extract (d := .slice _ _ _) rfl rfl rfl rfl ?_)
 | refine WS_nil ?_)
 | refine WC_seq ?_
 | refine WC_opsS ?_
 | refine WC_ret ?_)
    exact fin_bool (.inr rfl) rfl rfl
theorem lateM_len (l : List Eg) (to by' sz hops : Int) (shut : List Int) : (lateM l to by' sz hops shut).length ≤ 1 + l.length * l.length := by
  unfold lateM lateL
  split
  · rw [(srtK_perm Rd.node _).length_eq]
    have h1 := iter_len (to := to) (sz := sz) (shut := shut) (l := l) (mn hops l.length).toNat [⟨to, by'⟩]
    have h2 := (mn_le (a := hops) (b := l.length)).2
    have h3 : (mn hops l.length).toNat * l.length ≤ l.length * l.length := Nat.mul_le_mul_right _ (by omega)
    simp at h1
    omega
  · simp
theorem sq900 {n : Nat} (h : n ≤ 900) : n * n ≤ 810000 := Nat.mul_le_mul h h
theorem l_times (l : List Eg) (hll : l.length ≤ 900) (to sz : Int) (shut : List Int) (hsl : shut.length ≤ 1000000) (t t' : Tok) (s s' : Nat) (hs : s = 8 ∨ l = []) (hs' : s' = 1 ∨ shut = []) (n : Nat) (hn : n ≤ 900) : ∀ (m k : Nat), n = k + m → ∀ (M : List Rd) (ρ : Nat → D) (st : Store) (p : Nat), p < st.next → st.lim ≤ p → st.boxes p = some (.map (kvOf M)) →
    ρ 0 = .slice t s (l.map Eg.e) → ρ 1 = .int .i64 to → ρ 3 = .int .i64 sz → ρ 5 = .slice t' s' (shut.map (D.int .i64)) → ρ 13 = .map p → ρ 31 = .int .i64 n → ρ 32 = .int .i64 k → ∀ (Q : X → (Nat → D) → Store → Prop),
    (∀ ρ' st' p', p' < st'.next → st'.lim ≤ p' → st'.boxes p' = some (.map (kvOf (iterL to sz shut l m M))) → ρ' 13 = .map p' → Q (.exit 0) ρ' st') → WC Γ2 (.loop c_late_Times_l0) ρ st Q := by
  intro m
  induction m with
  | zero =>
    intro k hk M ρ st p hp hlp hbp h0 h1 h3 h5 h13 h31 h32 Q hQ
    have hk' : n = k := hk
    subst hk'
    rw [← upd_self h0, ← upd_self h1, ← upd_self h3, ← upd_self h5, ← upd_self h13, ← upd_self h31, ← upd_self h32]
    refine WC_loop ?_
    repeat' (first
 | (refine I_WS ?_; first
 | (refine I_bin ?_; first
 | refine W_lssF rfl rfl rfl rfl (by omega) ?_)
 | refine WS_nil ?_)
 | refine WC_seq ?_
 | refine WC_opsS ?_
 | refine WC_condF rfl ?_
 | refine WC_exit ?_)
    exact hQ _ _ p hp hlp hbp rfl
  | succ m ih =>
    intro k hk M ρ st p hp hlp hbp h0 h1 h3 h5 h13 h31 h32 Q hQ
    have hlt : (k : Int) < n := by omega
    have hS := fun t t' => run_step l hll to sz shut hsl t t' s s' hs hs' M st p hp hlp hbp
    have hnext := ih (k + 1) (by omega) (stepL to sz shut l M)
    clear ih
    rw [← upd_self h0, ← upd_self h1, ← upd_self h3, ← upd_self h5, ← upd_self h13, ← upd_self h31, ← upd_self h32]
    refine WC_loop ?_
    repeat' (first
 | (refine I_WS ?_; first
 | (refine WS_callRW rfl rfl rfl (hS _ _) ?_)
 | (refine I_mov ?_; first
 | refine W_mov (v := .int _ _) rfl rfl rfl ?_
 | refine W_mov (v := .slice _ _ _) rfl rfl rfl ?_
 | refine W_mov (v := .map _) rfl rfl rfl ?_)
 | (refine I_bin ?_; first
 | refine W_lssT rfl rfl rfl rfl (by omega) ?_
 | refine W_add rfl rfl rfl rfl (by first | exact w64 (by omega) | rfl) ?_)
 | refine WS_nil ?_)
 | refine WC_seq ?_
 | refine WC_opsS ?_
 | refine WC_skip ?_
 | refine WC_condT rfl ?_
 | refine WC_block ?_)
    refine hnext _ _ st.next ?_ ?_ ?_ ?_ ?_ ?_ ?_ ?_ ?_ ?_ Q hQ
    · show st.next < st.next + 2 + l.length
      omega
    · show st.lim ≤ st.next
      omega
    · exact upd_same _ _ _
    all_goals rfl
set_option maxHeartbeats 4000000 in
theorem s_lTimes (l : List Eg) (hll : l.length ≤ 900) (to by' sz hops : Int) (shut : List Int) (hsl : shut.length ≤ 1000000) (t t' : Tok) (s s' : Nat) (hs : s = 8 ∨ l = []) (hs' : s' = 1 ∨ shut = []) :
    EvX Γ2 17 [.slice t s (l.map Eg.e), .int .i64 to, .int .i64 by', .int .i64 sz, .int .i64 hops, .slice t' s' (shut.map (D.int .i64))] (IsN Rd.e 2 (lateM l to by' sz hops shut)) := by
  refine EvX_code rfl rfl ?_
  have hA := fun t => (s_lasked l (by omega) to by' sz t s hs).grow hx2
  have hlen := lateM_len l to by' sz hops shut
  have hsq := sq900 hll
  unfold lateM at hlen ⊢
  by_cases h0 : 0 ≤ hops
  · by_cases ha : AskC l to by' sz
    · rw [decide_eq_true ha] at hA
      rw [if_pos ⟨h0, ha⟩] at hlen ⊢
      unfold lateL at hlen ⊢
      have hm1 := mn_le (a := hops) (b := l.length)
      have hm2 : 0 ≤ mn hops l.length := le_mn.2 ⟨h0, by omega⟩
      obtain ⟨n, hn⟩ := Int.eq_ofNat_of_zero_le hm2
      rw [hn] at hlen ⊢
      have hn9 : n ≤ 900 := by omega
      repeat' (first
 | (refine I_WS ?_; first
 | refine W_lenM rfl rfl rfl ?_
 | refine W_mn rfl rfl rfl rfl hn ?_
 | refine W_mkmap rfl rfl ?_
 | refine W_mapset (v := .int .i64 by') rfl rfl rfl rfl (Nat.le_refl _) rfl rfl ?_
 | (refine I_mov ?_; first
 | refine W_mov (v := .int _ _) rfl rfl rfl ?_
 | refine W_mov (v := .bool _) rfl rfl rfl ?_
 | refine W_mov (v := .slice _ _ _) rfl rfl rfl ?_
 | refine W_mov (v := .map _) rfl rfl rfl ?_)
 | (refine I_bin ?_; first
 | refine W_lssF rfl rfl rfl rfl (by omega) ?_)
 | (refine I_call ?_; first
 | refine W_call rfl rfl rfl (hA _) rfl rfl ?_)
 | (refine I_pick ?_; first
 | refine W_pick (v := .bool _) rfl rfl rfl rfl ?_)
 | refine W_not rfl rfl rfl ?_
 | refine WS_nil ?_)
 | refine WC_seq ?_
 | refine WC_opsS ?_
 | refine WC_skip ?_
 | refine WC_condF rfl ?_
 | refine WC_block ?_)
      refine l_times l hll to sz shut hsl t t' s s' hs hs' n hn9 n 0 (by omega) [⟨to, by'⟩] _ _ 0 ?_ ?_ ?_ ?_ ?_ ?_ ?_ ?_ ?_ ?_ _ (fun ρ' st' p' g1 g2 g3 h13 => ?_)
      · exact Nat.zero_lt_one
      · exact Nat.le_refl _
      · rfl
      all_goals first | rfl | skip
      have hto := iter_to (to := to) (sz := sz) (shut := shut) (l := l) (by' := by') n
      simp only [Int.toNat_natCast, Int.ofNat_eq_natCast] at hlen ⊢
      generalize iterL to sz shut l n [⟨to, by'⟩] = es at *
      have hpos : 0 < es.length := by
        rcases es with _ | ⟨e, es⟩
        · cases hto
        · simp
      have hpl := (srtK_perm Rd.node es).length_eq
      have hR := run_row es hpos (by omega) st' p' g1 g2 g3
      rw [← upd_self h13]
      repeat' (first
 | (refine I_WS ?_; first
 | (refine WS_callRW rfl rfl rfl hR ?_)
 | (refine I_mov ?_; first
 | refine W_mov (v := .rs _ _ _ _ _) rfl rfl rfl ?_
 | refine W_mov (v := .map _) rfl rfl rfl ?_)
 | refine WS_nil ?_)
 | refine WC_seq ?_
 | refine WC_opsS ?_
 | refine WC_ret ?_)
      refine finX_N (t := .row) (s := 2) rfl (.inl rfl) (fin_row (.inr rfl) rfl (by rw [List.length_map, hpl]) (by decide) (xs := (srtK Rd.node es).map Rd.e) ⟨?_, ?_, _, upd_same _ _ _, ?_, ?_, ?_⟩ (fun d hd => by
        obtain ⟨e, _, rfl⟩ := List.mem_map.mp hd
        exact ⟨rfl, rfl⟩))
      · show st'.lim ≤ st'.next + es.length
        omega
      · show st'.next + es.length < st'.next + es.length + 1
        omega
      · show _ ≤ (cellsOf _).length
        rw [cells_len]
        simp
      · show (cellsOf _).take _ = cellsOf _
        rw [List.take_of_length_le (by rw [cells_len]; simp)]
      · rw [List.all_eq_true]
        intro d hd
        obtain ⟨x, hx, hd⟩ := List.mem_flatMap.1 hd
        obtain ⟨r, _, rfl⟩ := List.mem_map.1 hx
        simp [Rd.e, D.cells] at hd
        rcases hd with rfl | rfl <;> rfl
    · rw [decide_eq_false ha] at hA
      rw [if_neg (fun h => ha h.2)]
      repeat' (first
 | (refine I_WS ?_; first
 | (refine I_mov ?_; first
 | refine W_mov (v := .int _ _) rfl rfl rfl ?_
 | refine W_mov (v := .bool _) rfl rfl rfl ?_
 | refine W_mov (v := .slice _ _ _) rfl rfl rfl ?_)
 | (refine I_bin ?_; first
 | refine W_lssF rfl rfl rfl rfl (by omega) ?_)
 | (refine I_call ?_; first
 | refine W_call rfl rfl rfl (hA _) rfl rfl ?_)
 | (refine I_pick ?_; first
 | refine W_pick (v := .bool _) rfl rfl rfl rfl ?_)
 | refine W_not rfl rfl rfl ?_
 | refine WS_nil ?_)
 | refine WC_seq ?_
 | refine WC_opsS ?_
 | refine WC_condT rfl ?_
 | refine WC_ret ?_)
      exact finX_N (t := .isnil) (s := 0) rfl (.inr rfl) ⟨.inr rfl, rfl⟩
  · rw [if_neg (fun h => h0 h.1)]
    repeat' (first
 | (refine I_WS ?_; first
 | (refine I_mov ?_; first
 | refine W_skip rfl ?_
 | refine W_mov (v := .int _ _) rfl rfl rfl ?_
 | refine W_mov (v := .bool _) rfl rfl rfl ?_
 | refine W_mov (v := .slice _ _ _) rfl rfl rfl ?_)
 | (refine I_bin ?_; first
 | refine W_lssT rfl rfl rfl rfl (by omega) ?_)
 | (refine I_call ?_; first
 | refine W_skip rfl ?_)
 | (refine I_pick ?_; first
 | refine W_pick (v := .bool _) rfl rfl rfl rfl ?_)
 | refine W_skip rfl ?_
 | refine WS_nil ?_)
 | refine WC_seq ?_
 | refine WC_opsS ?_
 | refine WC_condT rfl ?_
 | refine WC_ret ?_)
    exact finX_N (t := .isnil) (s := 0) rfl (.inr rfl) ⟨.inr rfl, rfl⟩
end Go.Lat

/-
  The code of late, as the evaluator has it, is the program's; what goes over maps is known to hold.
-/
namespace Go.Lat
open Go.Ev
/-- What a step hands back. -/
theorem stepF_inv {ds : List D} {st st' : Store} {r : D} (h : stepF ds st = some (r, st')) : ∃ p t s to sz t' s' M l shut, ds = [.map p, .slice t s (l.map Eg.e), .int .i64 to, .int .i64 sz, .slice t' s' (shut.map (D.int .i64))] ∧ st.boxes p = some (.map (kvOf M)) ∧ (s = 8 ∨ l = []) ∧ (s' = 1 ∨ shut = []) ∧ l.length ≤ 1000000 ∧ shut.length ≤ 1000000 ∧ st.lim ≤ p ∧ p < st.next ∧ r = .map st.next ∧ st' = { st with boxes := upd st.boxes st.next (some (.map (kvOf (stepL to sz shut l M)))), next := st.next + 2 + l.length } := by
  unfold stepF at h
  split at h
  · rename_i p t s xs to sz t' s' ys
    split at h
    · rename_i kv hb
      split at h
      · rename_i M l shut h1 h2 h3
        split at h
        · rename_i hc
          obtain ⟨c1, c2, c3, c4, c5, c6⟩ := hc
          cases h
          have e1 := rdsOf_inv h1
          have e2 := egsOf_inv h2
          have e3 := intsOf_inv h3
          subst e1 e2 e3
          exact ⟨p, t, s, to, sz, t', s', M, l, shut, rfl, hb, c1.imp id (fun h => by simpa using h), c2.imp id (fun h => by simpa using h), c3, c4, c5, c6, rfl, rfl⟩
        · cases h
      · cases h
    · cases h
  · cases h
theorem rowF_inv {ds : List D} {st st' : Store} {r : D} (h : rowF ds st = some (r, st')) : ∃ p M, ds = [.map p] ∧ st.boxes p = some (.map (kvOf M)) ∧ 0 < M.length ∧ M.length ≤ 1000000 ∧ st.lim ≤ p ∧ p < st.next ∧ r = .rs (st.next + M.length) 0 2 M.length M.length ∧ st' = { st with boxes := upd st.boxes (st.next + M.length) (some (.row (((srtK Rd.node M).map Rd.e).flatMap D.cells))), next := st.next + M.length + 1 } := by
  unfold rowF at h
  split at h
  · rename_i p
    split at h
    · rename_i kv hb
      split at h
      · rename_i M h1
        split at h
        · rename_i hc
          obtain ⟨c1, c2, c3, c4⟩ := hc
          cases h
          have e1 := rdsOf_inv h1
          subst e1
          exact ⟨p, M, rfl, hb, c1, c2, c3, c4, rfl, rfl⟩
        · cases h
      · cases h
    · cases h
  · cases h
end Go.Lat
namespace Go.Proofs.Ytepbhoahafopdaa
open Go.ChangeShapes Go.WideShapes Go.ChangeAt Go.RowKit Go.Ev Go.Lat
theorem Try.own : ownKnob Try.prog.godebug = none := by kernel_rfl
theorem Try.laidOut : laidOutB Try.prog = true := by kernel_rfl
namespace Base
theorem k_feluccalaw16_small : compF Try.prog 13 c_feluccalaw16_small.ro c_feluccalaw16_small.mv = some c_feluccalaw16_small := by kernel_rfl
theorem k_feluccalaw16_net : compF Try.prog 30 c_feluccalaw16_net.ro c_feluccalaw16_net.mv = some c_feluccalaw16_net := by kernel_rfl
theorem k_feluccalaw16_LateMore : compF Try.prog 4 c_feluccalaw16_LateMore.ro c_feluccalaw16_LateMore.mv = some c_feluccalaw16_LateMore := by kernel_rfl
theorem k_feluccalaw16_LateEdges : compF Try.prog 5 c_feluccalaw16_LateEdges.ro c_feluccalaw16_LateEdges.mv = some c_feluccalaw16_LateEdges := by kernel_rfl
theorem k_feluccalaw16_LateMeets : compF Try.prog 11 c_feluccalaw16_LateMeets.ro c_feluccalaw16_LateMeets.mv = some c_feluccalaw16_LateMeets := by kernel_rfl
theorem k_feluccalaw16_LateFewest : compF Try.prog 12 c_feluccalaw16_LateFewest.ro c_feluccalaw16_LateFewest.mv = some c_feluccalaw16_LateFewest := by kernel_rfl
theorem k_late_Times : compF Try.prog 17 c_late_Times.ro c_late_Times.mv = some c_late_Times := by kernel_rfl
theorem k_late_Fewest : compF Try.prog 14 c_late_Fewest.ro c_late_Fewest.mv = some c_late_Fewest := by kernel_rfl
theorem k_late_asked : compF Try.prog 31 c_late_asked.ro c_late_asked.mv = some c_late_asked := by kernel_rfl
theorem k_late_times_later : compF Try.prog 54 c_late_times_later.ro c_late_times_later.mv = some c_late_times_later := by kernel_rfl
theorem k_late_times_row_1 : compF Try.prog 57 c_late_times_row_1.ro c_late_times_row_1.mv = some c_late_times_row_1 := by kernel_rfl
theorem k_slices_Contains_int : compF Try.prog 53 c_slices_Contains_int.ro c_slices_Contains_int.mv = some c_slices_Contains_int := by kernel_rfl
theorem k_slices_Index_int : compF Try.prog 75 c_slices_Index_int.ro c_slices_Index_int.mv = some c_slices_Index_int := by kernel_rfl
theorem k_hop_Latest : compF Try.prog 20 c_hop_Latest.ro c_hop_Latest.mv = some c_hop_Latest := by kernel_rfl
theorem k_early_At : compF Try.prog 19 c_early_At.ro c_early_At.mv = some c_early_At := by kernel_rfl
theorem k_early_Times : compF Try.prog 23 c_early_Times.ro c_early_Times.mv = some c_early_Times := by kernel_rfl
theorem k_early_Reaches : compF Try.prog 25 c_early_Reaches.ro c_early_Reaches.mv = some c_early_Reaches := by kernel_rfl
theorem k_early_asked : compF Try.prog 41 c_early_asked.ro c_early_asked.mv = some c_early_asked := by kernel_rfl
theorem k_early_Times_1 : compF Try.prog 48 c_early_Times_1.ro c_early_Times_1.mv = some c_early_Times_1 := by kernel_rfl
theorem k_feluccaref15_Same : compF Try.prog 16 c_feluccaref15_Same.ro c_feluccaref15_Same.mv = some c_feluccaref15_Same := by kernel_rfl
theorem k_path_Walk : compF Try.prog 27 c_path_Walk.ro c_path_Walk.mv = some c_path_Walk := by kernel_rfl
theorem k_path_steps : compF Try.prog 51 c_path_steps.ro c_path_steps.mv = some c_path_steps := by kernel_rfl
theorem k_path_asked : compF Try.prog 52 c_path_asked.ro c_path_asked.mv = some c_path_asked := by kernel_rfl
theorem k_path_Right : compF Try.prog 74 c_path_Right.ro c_path_Right.mv = some c_path_Right := by kernel_rfl
theorem k_hop_Pass : compF Try.prog 29 c_hop_Pass.ro c_hop_Pass.mv = some c_hop_Pass := by kernel_rfl
theorem k_hop_Takes : compF Try.prog 38 c_hop_Takes.ro c_hop_Takes.mv = some c_hop_Takes := by kernel_rfl
theorem k_hop_right : compF Try.prog 39 c_hop_right.ro c_hop_right.mv = some c_hop_right := by kernel_rfl
theorem k_hop_Right : compF Try.prog 63 c_hop_Right.ro c_hop_Right.mv = some c_hop_Right := by kernel_rfl
theorem k_check_Bundle : compF Try.prog 73 c_check_Bundle.ro c_check_Bundle.mv = some c_check_Bundle := by kernel_rfl
theorem k_check_Node : compF Try.prog 78 c_check_Node.ro c_check_Node.mv = some c_check_Node := by kernel_rfl
theorem k_num_In : compF Try.prog 62 c_num_In.ro c_num_In.mv = some c_num_In := by kernel_rfl
theorem k_num_Ceil : compF Try.prog 61 c_num_Ceil.ro c_num_Ceil.mv = some c_num_Ceil := by kernel_rfl
theorem k_view_From : compF Try.prog 45 c_view_From.ro c_view_From.mv = some c_view_From := by kernel_rfl
theorem k_cmp_isNaN_int : compF Try.prog 70 c_cmp_isNaN_int.ro c_cmp_isNaN_int.mv = some c_cmp_isNaN_int := by kernel_rfl
theorem k_heap_New : compF Try.prog 42 c_heap_New.ro c_heap_New.mv = some c_heap_New := by kernel_rfl
theorem k_heap_Heap_Push : compF Try.prog 46 c_heap_Heap_Push.ro c_heap_Heap_Push.mv = some c_heap_Heap_Push := by kernel_rfl
theorem k_heap_Heap_Pop : compF Try.prog 44 c_heap_Heap_Pop.ro c_heap_Heap_Pop.mv = some c_heap_Heap_Pop := by kernel_rfl
theorem k_heap_Heap_Peek : compF Try.prog 64 c_heap_Heap_Peek.ro c_heap_Heap_Peek.mv = some c_heap_Heap_Peek := by kernel_rfl
theorem k_heap_Heap_Len : compF Try.prog 43 c_heap_Heap_Len.ro c_heap_Heap_Len.mv = some c_heap_Heap_Len := by kernel_rfl
theorem k_heap_Heap_ahead : compF Try.prog 67 c_heap_Heap_ahead.ro c_heap_Heap_ahead.mv = some c_heap_Heap_ahead := by kernel_rfl
theorem k_heap_Heap_swap : compF Try.prog 65 c_heap_Heap_swap.ro c_heap_Heap_swap.mv = some c_heap_Heap_swap := by kernel_rfl
theorem k_heap_Heap_down : compF Try.prog 66 c_heap_Heap_down.ro c_heap_Heap_down.mv = some c_heap_Heap_down := by kernel_rfl
theorem k_cmp_Or_int : compF Try.prog 79 c_cmp_Or_int.ro c_cmp_Or_int.mv = some c_cmp_Or_int := by kernel_rfl
theorem k_cmp_Compare_int : compF Try.prog 49 c_cmp_Compare_int.ro c_cmp_Compare_int.mv = some c_cmp_Compare_int := by kernel_rfl
theorem known : Known Try.prog Γ := by
  intro f fd h
  unfold Γ at h
  split at h
  · cases h; exact k_feluccalaw16_small
  · cases h; exact k_feluccalaw16_net
  · cases h; exact k_feluccalaw16_LateMore
  · cases h; exact k_feluccalaw16_LateEdges
  · cases h; exact k_feluccalaw16_LateMeets
  · cases h; exact k_feluccalaw16_LateFewest
  · cases h; exact k_late_Times
  · cases h; exact k_late_Fewest
  · cases h; exact k_late_asked
  · cases h; exact k_late_times_later
  · cases h; exact k_late_times_row_1
  · cases h; exact k_slices_Contains_int
  · cases h; exact k_slices_Index_int
  · cases h; exact k_hop_Latest
  · cases h; exact k_early_At
  · cases h; exact k_early_Times
  · cases h; exact k_early_Reaches
  · cases h; exact k_early_asked
  · cases h; exact k_early_Times_1
  · cases h; exact k_feluccaref15_Same
  · cases h; exact k_path_Walk
  · cases h; exact k_path_steps
  · cases h; exact k_path_asked
  · cases h; exact k_path_Right
  · cases h; exact k_hop_Pass
  · cases h; exact k_hop_Takes
  · cases h; exact k_hop_right
  · cases h; exact k_hop_Right
  · cases h; exact k_check_Bundle
  · cases h; exact k_check_Node
  · cases h; exact k_num_In
  · cases h; exact k_num_Ceil
  · cases h; exact k_view_From
  · cases h; exact k_cmp_isNaN_int
  · cases h; exact k_heap_New
  · cases h; exact k_heap_Heap_Push
  · cases h; exact k_heap_Heap_Pop
  · cases h; exact k_heap_Heap_Peek
  · cases h; exact k_heap_Heap_Len
  · cases h; exact k_heap_Heap_ahead
  · cases h; exact k_heap_Heap_swap
  · cases h; exact k_heap_Heap_down
  · cases h; exact k_cmp_Or_int
  · cases h; exact k_cmp_Compare_int
  · cases h; exact sort_known
  · cases h
end Base
theorem ko_step : compF Try.prog 32 c_late_times_step.ro c_late_times_step.mv = some c_late_times_step := by kernel_rfl
theorem ko_row : compF Try.prog 34 c_late_times_row.ro c_late_times_row.mv = some c_late_times_row := by kernel_rfl
theorem step_known : PrimSOK Try.prog 32 stepF := by
  refine Sm.primS_of ⟨Base.known, Try.mixed⟩ ko_step (fun ds st r st' hno h => ?_)
  obtain ⟨p, t, s, to, sz, t', s', M, l, shut, rfl, hb, hs, hs', hll, hsl, hlp, hp, rfl, rfl⟩ := stepF_inv h
  refine ⟨p, kvOf M, hb, (upd_ne _ _ (Nat.ne_of_lt hp)).trans hb, fun hn es cl => ?_⟩
  rw [kvOf_keys] at hn
  refine (w_step l hll to sz shut hsl t t' s s' hs hs' M hn st p hp hlp hb hno es cl).mono (fun x ρ1 s1 hq => ?_)
  obtain ⟨q1, q2, kv', q3, q4, q5, q6, q7, q8, q9, q10, q11⟩ := hq
  refine ⟨q1, q2, .inr q6, q8.symm, q9.symm, q7.symm, q11.symm, q10.symm, fun i x hi hx => ?_, fun i hi hip => ?_⟩
  · by_cases e : i = st.next
    · subst e
      have hx : upd st.boxes st.next _ st.next = some x := hx
      rw [upd_same] at hx
      cases hx
      exact .inr ⟨kv', _, rfl, q4, q3⟩
    · have hx : upd st.boxes st.next _ i = some x := hx
      rw [upd_ne _ _ e] at hx
      have hlt : i < st.next := by
        rcases Nat.lt_or_ge i st.next with h | h
        · exact h
        · rw [hno i h] at hx; cases hx
      exact .inl ((q5 i hlt hi).trans hx)
  · have : i < st.next := by omega
    rw [q5 i this hip]
    exact upd_ne _ _ (by omega)
theorem row_known : PrimSOK Try.prog 34 rowF := by
  refine Sm.primS_of ⟨known_r, Try.mixed⟩ ko_row (fun ds st r st' hno h => ?_)
  obtain ⟨p, M, rfl, hb, h0, hMl, hlp, hp, rfl, rfl⟩ := rowF_inv h
  refine ⟨p, kvOf M, hb, (upd_ne _ _ (by omega)).trans hb, fun hn es cl => ?_⟩
  rw [kvOf_keys] at hn
  refine (w_row M hn h0 hMl st p hp hlp hb es cl).mono (fun x ρ1 s1 hq => ?_)
  obtain ⟨q1, q2, q4, q5, q6, q7, q8, q9, q10, q11⟩ := hq
  refine ⟨q1, q2, .inl q6, q8.symm, q9.symm, q7.symm, q11.symm, q10.symm, fun i x hi hx => ?_, fun i hi hip => ?_⟩
  · by_cases e : i = st.next + M.length
    · subst e
      have hx : upd st.boxes (st.next + M.length) _ (st.next + M.length) = some x := hx
      rw [upd_same] at hx
      cases hx
      exact .inl q4
    · have hx : upd st.boxes (st.next + M.length) _ i = some x := hx
      rw [upd_ne _ _ e] at hx
      have hlt : i < st.next := by
        rcases Nat.lt_or_ge i st.next with h | h
        · exact h
        · rw [hno i h] at hx; cases hx
      exact .inl ((q5 i hlt hi).trans hx)
  · have : i < st.next := by omega
    rw [q5 i this hip]
    exact upd_ne _ _ (by omega)
theorem known : Known Try.prog Γ2 := by
  intro f fd h
  unfold Γ2 at h
  split at h
  · cases h; exact step_known
  · cases h; exact row_known
  · exact Base.known f fd h
end Go.Proofs.Ytepbhoahafopdaa

/-
  With how few hops.
-/
namespace Go.Lat
open Go.Ev
set_option linter.unusedVariables false
set_option linter.unusedSimpArgs false
def hasB (fr now : Int) (M : List Rd) : Bool := match atN fr M with
  | some a => decide (now ≤ a)
  | none => false
def fewF (to sz : Int) (shut : List Int) (l : List Eg) (fr now : Int) : Nat → Nat → List Rd → Option Nat
  | 0, _, _ => none
  | m + 1, k, M => if hasB fr now M then some k else fewF to sz shut l fr now m (k + 1) (stepL to sz shut l M)
def fewM (l : List Eg) (fr to now by' sz : Int) (shut : List Int) : Option Nat := if AskC l fr now sz ∧ AskC l to by' sz then fewF to sz shut l fr now (l.length + 1) 0 [⟨to, by'⟩] else none
def fewT : Option Nat → D
  | some h => .tuple [.int .i64 h, .bool true]
  | none => .tuple [.int .i64 0, .bool false]
set_option maxHeartbeats 2000000 in
theorem l_few (l : List Eg) (hll : l.length ≤ 900) (fr to now sz : Int) (shut : List Int) (hsl : shut.length ≤ 1000000) (t t' : Tok) (s s' : Nat) (hs : s = 8 ∨ l = []) (hs' : s' = 1 ∨ shut = []) (n : Nat) (hn : n ≤ 901) : ∀ (m k : Nat), n = k + m → ∀ (M : List Rd) (ρ : Nat → D) (st : Store) (p : Nat), p < st.next → st.lim ≤ p → st.boxes p = some (.map (kvOf M)) →
    ρ 0 = .slice t s (l.map Eg.e) → ρ 1 = .int .i64 fr → ρ 2 = .int .i64 to → ρ 3 = .int .i64 now → ρ 5 = .int .i64 sz → ρ 6 = .slice t' s' (shut.map (D.int .i64)) → ρ 16 = .map p → ρ 40 = .int .i64 n → ρ 41 = .int .i64 k → ∀ (Q : X → (Nat → D) → Store → Prop),
    (fewF to sz shut l fr now m k M = none → ∀ ρ' st', Q (.exit 0) ρ' st') → (∀ h, fewF to sz shut l fr now m k M = some h → ∀ ρ' st', ρ' 14 = .int .i64 h → ρ' 15 = .bool true → Q .ret ρ' st') → WC Γ2 (.loop c_late_Fewest_l0) ρ st Q := by
  intro m
  induction m with
  | zero =>
    intro k hk M ρ st p hp hlp hbp h0 h1 h2 h3 h5 h6 h16 h40 h41 Q hQ hQ2
    have hk' : n = k := hk
    subst hk'
    rw [← upd_self h0, ← upd_self h1, ← upd_self h2, ← upd_self h3, ← upd_self h5, ← upd_self h6, ← upd_self h16, ← upd_self h40, ← upd_self h41]
    refine WC_loop ?_
    repeat' (first
 | (refine I_WS ?_; first
 | (refine I_bin ?_; first
 | refine W_lssF rfl rfl rfl rfl (by omega) ?_)
 | refine WS_nil ?_)
 | refine WC_seq ?_
 | refine WC_opsS ?_
 | refine WC_condF rfl ?_
 | refine WC_exit ?_)
    exact hQ rfl _ _
  | succ m ih =>
    intro k hk M ρ st p hp hlp hbp h0 h1 h2 h3 h5 h6 h16 h40 h41 Q hQ hQ2
    have hlt : (k : Int) < n := by omega
    have hS := fun t t' => run_step l hll to sz shut hsl t t' s s' hs hs' M st p hp hlp hbp
    have hnext := ih (k + 1) (by omega) (stepL to sz shut l M)
    clear ih
    have hu : fewF to sz shut l fr now (m + 1) k M = if hasB fr now M then some k else fewF to sz shut l fr now m (k + 1) (stepL to sz shut l M) := rfl
    rw [hu] at hQ hQ2
    clear hu
    rw [← upd_self h0, ← upd_self h1, ← upd_self h2, ← upd_self h3, ← upd_self h5, ← upd_self h6, ← upd_self h16, ← upd_self h40, ← upd_self h41]
    refine WC_loop ?_
    have hgo : hasB fr now M = false → ∀ ρ' : Nat → D, ρ' 0 = .slice t s (l.map Eg.e) → ρ' 1 = .int .i64 fr → ρ' 2 = .int .i64 to → ρ' 3 = .int .i64 now → ρ' 5 = .int .i64 sz → ρ' 6 = .slice t' s' (shut.map (D.int .i64)) → ρ' 16 = .map st.next → ρ' 40 = .int .i64 n → ρ' 41 = .int .i64 ((k : Int) + 1) → WC Γ2 (.loop c_late_Fewest_l0) ρ' { st with boxes := upd st.boxes st.next (some (.map (kvOf (stepL to sz shut l M)))), next := st.next + 2 + l.length } Q := fun hb ρ' k0 k1 k2 k3 k5 k6 k16 k40 k41 => by
      rw [hb] at hQ hQ2
      exact hnext ρ' _ st.next (by show st.next < st.next + 2 + l.length; omega) (by show st.lim ≤ st.next; omega) (upd_same _ _ _) k0 k1 k2 k3 k5 k6 k16 k40 k41 Q hQ hQ2
    cases ha : atN fr M with
    | none =>
      have hg1 : (kvGet fr (kvOf M)).getD (.int .i64 0) = .int .i64 0 := by rw [kvGet_of, ha]; rfl
      have hg2 : (kvGet fr (kvOf M)).isSome = false := by rw [kvGet_of, ha]; rfl
      have hb : hasB fr now M = false := by unfold hasB; rw [ha]
      have hgo := hgo hb
      clear hnext hQ hQ2
      repeat' (first
 | (refine I_WS ?_; first
 | refine W_lookupT rfl rfl rfl hbp hg1 hg2 rfl ?_
 | (refine WS_callRW rfl rfl rfl (hS _ _) ?_)
 | (refine I_mov ?_; first
 | refine W_skip rfl ?_
 | refine W_mov (v := .int _ _) rfl rfl rfl ?_
 | refine W_mov (v := .bool _) rfl rfl rfl ?_
 | refine W_mov (v := .slice _ _ _) rfl rfl rfl ?_
 | refine W_mov (v := .tuple _) rfl rfl rfl ?_
 | refine W_mov (v := .map _) rfl rfl rfl ?_)
 | (refine I_bin ?_; first
 | refine W_skip rfl ?_
 | refine W_lssT rfl rfl rfl rfl (by omega) ?_
 | refine W_add rfl rfl rfl rfl (by first | exact w64 (by omega) | rfl) ?_)
 | (refine I_pick ?_; first
 | refine W_pick (v := .bool _) rfl rfl rfl rfl ?_)
 | (refine I_extract ?_; first
 | refine W_extract (d := .int _ _) rfl rfl rfl rfl ?_
 | refine W_extract (d := .bool _) rfl rfl rfl rfl ?_)
 | refine WS_nil ?_)
 | refine WC_seq ?_
 | refine WC_opsS ?_
 | refine WC_skip ?_
 | refine WC_condT rfl ?_
 | refine WC_condF rfl ?_
 | refine WC_block ?_)
      refine hgo _ ?_ ?_ ?_ ?_ ?_ ?_ ?_ ?_ ?_ <;> rfl
    | some a =>
      have hg1 : (kvGet fr (kvOf M)).getD (.int .i64 0) = .int .i64 a := by rw [kvGet_of, ha]; rfl
      have hg2 : (kvGet fr (kvOf M)).isSome = true := by rw [kvGet_of, ha]; rfl
      by_cases hle : now ≤ a
      · have hb : hasB fr now M = true := by unfold hasB; rw [ha]; exact decide_eq_true hle
        rw [hb] at hQ2
        have hQ2 := hQ2 k rfl
        clear hnext hQ hgo
        repeat' (first
 | (refine I_WS ?_; first
 | refine W_lookupT rfl rfl rfl hbp hg1 hg2 rfl ?_
 | (refine I_mov ?_; first
 | refine W_mov (v := .int _ _) rfl rfl rfl ?_
 | refine W_mov (v := .bool _) rfl rfl rfl ?_
 | refine W_mov (v := .tuple _) rfl rfl rfl ?_
 | refine W_mov (v := .map _) rfl rfl rfl ?_)
 | (refine I_bin ?_; first
 | refine W_lssT rfl rfl rfl rfl (by omega) ?_
 | refine W_leqT rfl rfl rfl rfl (by omega) ?_)
 | (refine I_pick ?_; first
 | refine W_pick (v := .bool _) rfl rfl rfl rfl ?_)
 | (refine I_extract ?_; first
 | refine W_extract (d := .int _ _) rfl rfl rfl rfl ?_
 | refine W_extract (d := .bool _) rfl rfl rfl rfl ?_)
 | refine WS_nil ?_)
 | refine WC_seq ?_
 | refine WC_opsS ?_
 | refine WC_skip ?_
 | refine WC_condT rfl ?_
 | refine WC_block ?_
 | refine WC_ret ?_)
        exact hQ2 _ _ rfl rfl
      · have hb : hasB fr now M = false := by unfold hasB; rw [ha]; exact decide_eq_false hle
        have hgo := hgo hb
        clear hnext hQ hQ2
        repeat' (first
 | (refine I_WS ?_; first
 | refine W_lookupT rfl rfl rfl hbp hg1 hg2 rfl ?_
 | (refine WS_callRW rfl rfl rfl (hS _ _) ?_)
 | (refine I_mov ?_; first
 | refine W_mov (v := .int _ _) rfl rfl rfl ?_
 | refine W_mov (v := .bool _) rfl rfl rfl ?_
 | refine W_mov (v := .slice _ _ _) rfl rfl rfl ?_
 | refine W_mov (v := .tuple _) rfl rfl rfl ?_
 | refine W_mov (v := .map _) rfl rfl rfl ?_)
 | (refine I_bin ?_; first
 | refine W_lssT rfl rfl rfl rfl (by omega) ?_
 | refine W_leqF rfl rfl rfl rfl (by omega) ?_
 | refine W_add rfl rfl rfl rfl (by first | exact w64 (by omega) | rfl) ?_)
 | (refine I_pick ?_; first
 | refine W_pick (v := .bool _) rfl rfl rfl rfl ?_)
 | (refine I_extract ?_; first
 | refine W_extract (d := .int _ _) rfl rfl rfl rfl ?_
 | refine W_extract (d := .bool _) rfl rfl rfl rfl ?_)
 | refine WS_nil ?_)
 | refine WC_seq ?_
 | refine WC_opsS ?_
 | refine WC_skip ?_
 | refine WC_condT rfl ?_
 | refine WC_condF rfl ?_
 | refine WC_block ?_)
        refine hgo _ ?_ ?_ ?_ ?_ ?_ ?_ ?_ ?_ ?_ <;> rfl
set_option maxHeartbeats 4000000 in
theorem s_Fewest (l : List Eg) (hll : l.length ≤ 900) (fr to now by' sz : Int) (shut : List Int) (hsl : shut.length ≤ 1000000) (t t' : Tok) (s s' : Nat) (hs : s = 8 ∨ l = []) (hs' : s' = 1 ∨ shut = []) :
    EvP Γ2 14 [.slice t s (l.map Eg.e), .int .i64 fr, .int .i64 to, .int .i64 now, .int .i64 by', .int .i64 sz, .slice t' s' (shut.map (D.int .i64))] (fewT (fewM l fr to now by' sz shut)) := by
  refine EvP_code rfl rfl ?_
  have hA := fun t => (s_lasked l (by omega) fr now sz t s hs).grow hx2
  have hB := fun t => (s_lasked l (by omega) to by' sz t s hs).grow hx2
  unfold fewM
  by_cases ha : AskC l fr now sz
  · rw [decide_eq_true ha] at hA
    by_cases hb : AskC l to by' sz
    · rw [decide_eq_true hb] at hB
      rw [if_pos ⟨ha, hb⟩]
      repeat' (first
 | (refine I_WS ?_; first
 | refine W_lenM rfl rfl rfl ?_
 | refine W_mkmap rfl rfl ?_
 | refine W_mapset (v := .int .i64 by') rfl rfl rfl rfl (Nat.le_refl _) rfl rfl ?_
 | (refine I_mov ?_; first
 | refine W_mov (v := .int _ _) rfl rfl rfl ?_
 | refine W_mov (v := .bool _) rfl rfl rfl ?_
 | refine W_mov (v := .slice _ _ _) rfl rfl rfl ?_
 | refine W_mov (v := .map _) rfl rfl rfl ?_)
 | (refine I_bin ?_; first
 | refine W_add rfl rfl rfl rfl (by first | exact w64 (by omega) | rfl) ?_)
 | (refine I_call ?_; first
 | refine W_call rfl rfl rfl (hA _) rfl rfl ?_
 | refine W_call rfl rfl rfl (hB _) rfl rfl ?_)
 | (refine I_pick ?_; first
 | refine W_pick (v := .bool _) rfl rfl rfl rfl ?_)
 | refine W_not rfl rfl rfl ?_
 | refine WS_nil ?_)
 | refine WC_seq ?_
 | refine WC_opsS ?_
 | refine WC_skip ?_
 | refine WC_condF rfl ?_
 | refine WC_block ?_)
      refine l_few l hll fr to now sz shut hsl t t' s s' hs hs' (l.length + 1) (by omega) (l.length + 1) 0 (by omega) [⟨to, by'⟩] _ _ 0 ?_ ?_ ?_ ?_ ?_ ?_ ?_ ?_ ?_ ?_ ?_ ?_ _ (fun hf ρ' st' => ?_) (fun h hf ρ' st' h14 h15 => ?_)
      · exact Nat.zero_lt_one
      · exact Nat.le_refl _
      · rfl
      all_goals first | rfl | skip
      · rw [hf]
        repeat' (first
 | (refine I_WS ?_; first
 | (refine I_mov ?_; first
 | refine W_mov (v := .int _ _) rfl rfl rfl ?_
 | refine W_mov (v := .bool _) rfl rfl rfl ?_)
 | refine WS_nil ?_)
 | refine WC_seq ?_
 | refine WC_opsS ?_
 | refine WC_ret ?_)
        exact fin_ground (r' := .tuple [.int _ _, .bool _]) (.inr rfl) rfl rfl rfl
      · rw [hf, ← upd_self h14, ← upd_self h15]
        exact fin_ground (r' := .tuple [.int _ _, .bool _]) (.inr rfl) rfl rfl rfl
    · rw [decide_eq_false hb] at hB
      rw [if_neg (fun h => hb h.2)]
      repeat' (first
 | (refine I_WS ?_; first
 | (refine I_mov ?_; first
 | refine W_mov (v := .int _ _) rfl rfl rfl ?_
 | refine W_mov (v := .bool _) rfl rfl rfl ?_
 | refine W_mov (v := .slice _ _ _) rfl rfl rfl ?_)
 | (refine I_call ?_; first
 | refine W_call rfl rfl rfl (hA _) rfl rfl ?_
 | refine W_call rfl rfl rfl (hB _) rfl rfl ?_)
 | (refine I_pick ?_; first
 | refine W_pick (v := .bool _) rfl rfl rfl rfl ?_)
 | refine W_not rfl rfl rfl ?_
 | refine WS_nil ?_)
 | refine WC_seq ?_
 | refine WC_opsS ?_
 | refine WC_condT rfl ?_
 | refine WC_ret ?_)
      exact fin_ground (r' := .tuple [.int _ _, .bool _]) (.inr rfl) rfl rfl rfl
  · rw [decide_eq_false ha] at hA
    rw [if_neg (fun h => ha h.1)]
    repeat' (first
 | (refine I_WS ?_; first
 | (refine I_mov ?_; first
 | refine W_skip rfl ?_
 | refine W_mov (v := .int _ _) rfl rfl rfl ?_
 | refine W_mov (v := .bool _) rfl rfl rfl ?_
 | refine W_mov (v := .slice _ _ _) rfl rfl rfl ?_)
 | (refine I_call ?_; first
 | refine W_skip rfl ?_
 | refine W_call rfl rfl rfl (hA _) rfl rfl ?_)
 | (refine I_pick ?_; first
 | refine W_pick (v := .bool _) rfl rfl rfl rfl ?_)
 | refine W_not rfl rfl rfl ?_
 | refine W_skip rfl ?_
 | refine WS_nil ?_)
 | refine WC_seq ?_
 | refine WC_opsS ?_
 | refine WC_condT rfl ?_
 | refine WC_ret ?_)
    exact fin_ground (r' := .tuple [.int _ _, .bool _]) (.inr rfl) rfl rfl rfl
end Go.Lat

/-
  Plain laws of the latest times, for the statements.
-/
namespace Go.Lat
set_option linter.unusedVariables false
set_option linter.unusedSimpArgs false
variable {l : List Eg} {to by' sz : Int} {shut : List Int}
theorem at_perm {L M : List Rd} (hp : L.Perm M) (hn : (M.map Rd.node).Nodup) (n : Int) : atN n L = atN n M := by
  have hL : (L.map Rd.node).Nodup := (hp.map _).nodup_iff.2 hn
  cases h : atN n M with
  | some t => exact atN_of hL (hp.mem_iff.2 (atN_some h))
  | none =>
    cases h' : atN n L with
    | none => rfl
    | some t =>
      have := atN_of hn (hp.mem_iff.1 (atN_some h'))
      rw [h] at this; cases this
theorem start_nd : (([⟨to, by'⟩] : List Rd).map Rd.node).Nodup := by simp
theorem Le.at_ {M N : List Rd} (h : Le M N) (h' : Le N M) (n : Int) : atN n M = atN n N := by
  cases h1 : atN n M with
  | some t =>
    obtain ⟨u, h2, h3⟩ := h n t h1
    obtain ⟨v, h4, h5⟩ := h' n u h2
    rw [h1] at h4
    cases h4
    rw [h2]
    have : t = u := by omega
    rw [this]
  | none =>
    cases h2 : atN n N with
    | none => rfl
    | some u =>
      obtain ⟨v, h4, h5⟩ := h' n u h2
      rw [h1] at h4; cases h4
/-- More rounds than edges tell the same. -/
theorem at_full (hf : by' ≤ 1099511627776) {k : Nat} (hk : l.length ≤ k) (n : Int) : atN n (iterL to sz shut l k [⟨to, by'⟩]) = atN n (iterL to sz shut l l.length [⟨to, by'⟩]) :=
  (iter_full hf k).at_ (iter_ups hk _) n
theorem at_late (ha : AskC l to by' sz) {hops : Int} (h0 : 0 ≤ hops) (n : Int) : atN n (lateM l to by' sz hops shut) = atN n (iterL to sz shut l hops.toNat [⟨to, by'⟩]) := by
  unfold lateM lateL
  rw [if_pos ⟨h0, ha⟩, at_perm (srtK_perm Rd.node _) (iter_nodes _ _ start_nd)]
  unfold mn
  split
  · rename_i h
    rw [at_full ha.2.2.1.2 (k := hops.toNat) (by omega)]
    rfl
  · rfl
theorem late_no {hops : Int} (h : ¬ (0 ≤ hops ∧ AskC l to by' sz)) : lateM l to by' sz hops shut = [] := by
  unfold lateM; rw [if_neg h]
theorem late_nd (hops : Int) : ((lateM l to by' sz hops shut).map Rd.node).Nodup := by
  unfold lateM lateL
  split
  · exact ((srtK_perm Rd.node _).map _).nodup_iff.2 (iter_nodes _ _ start_nd)
  · simp
theorem late_lt (hops : Int) : (lateM l to by' sz hops shut).Pairwise fun a b => a.node < b.node := by
  refine pw_lt ?_ (late_nd hops)
  unfold lateM
  split
  · exact srtK_sorted _ _
  · exact List.Pairwise.nil
theorem late_ask {hops : Int} {r : Rd} (hr : r ∈ lateM l to by' sz hops shut) : 0 ≤ hops ∧ AskC l to by' sz := by
  by_cases h : 0 ≤ hops ∧ AskC l to by' sz
  · exact h
  · rw [late_no h] at hr; cases hr
theorem late_mem {hops : Int} {r : Rd} (hr : r ∈ lateM l to by' sz hops shut) : atN r.node (iterL to sz shut l hops.toNat [⟨to, by'⟩]) = some r.at' := by
  have h := late_ask hr
  rw [← at_late h.2 h.1, atN_of (late_nd hops) hr]
theorem late_to {hops : Int} (ha : AskC l to by' sz) (h0 : 0 ≤ hops) : atN to (lateM l to by' sz hops shut) = some by' := by
  rw [at_late ha h0, iter_to]
/-- Each of the first is there, no earlier, in the second. -/
def CovL (a b : List Rd) : Prop := ∀ r ∈ a, ∃ u, atN r.node b = some u ∧ r.at' ≤ u
theorem more_hops (hops : Int) : CovL (lateM l to by' sz hops shut) (lateM l to by' sz (hops + 1) shut) := fun r hr => by
  have h := late_ask hr
  have h1 := late_mem hr
  obtain ⟨u, h2, h3⟩ := iter_ups (to := to) (sz := sz) (shut := shut) (l := l) (k := hops.toNat) (j := (hops + 1).toNat) (by omega) [⟨to, by'⟩] _ _ h1
  exact ⟨u, by rw [at_late h.2 (by omega)]; exact h2, h3⟩
theorem more_late {later : Int} (hl : by' ≤ later) (hf : later ≤ 1099511627776) (hops : Int) : CovL (lateM l to by' sz hops shut) (lateM l to later sz hops shut) := fun r hr => by
  have h := late_ask hr
  have h1 := late_mem hr
  have ha : AskC l to later sz := ⟨h.2.1, h.2.2.1, ⟨by have := h.2.2.2.1.1; omega, hf⟩, h.2.2.2.2⟩
  obtain ⟨u, h2, h3⟩ := iter_mono (to := to) (sz := sz) (shut := shut) (l := l) (shut' := shut) (fun _ h => h) hops.toNat (M := [⟨to, by'⟩]) (M' := [⟨to, later⟩]) (fun n t h => by
    simp only [atN] at h ⊢
    split at h <;> cases h
    rename_i e
    rw [if_pos e]
    exact ⟨later, rfl, hl⟩) (fun n t h => by
    have := start_bd n t h
    omega) _ _ h1
  exact ⟨u, by rw [at_late ha h.1]; exact h2, h3⟩
theorem more_open (hops : Int) : CovL (lateM l to by' sz hops shut) (lateM l to by' sz hops []) := fun r hr => by
  have h := late_ask hr
  have h1 := late_mem hr
  obtain ⟨u, h2, h3⟩ := iter_mono (to := to) (sz := sz) (shut := shut) (l := l) (shut' := []) (fun _ h => by cases h) hops.toNat (M := [⟨to, by'⟩]) (.refl _) (fun n t h' => by
    have := start_bd n t h'
    have := h.2.2.2.1.2
    omega) _ _ h1
  exact ⟨u, by rw [at_late h.2 h.1]; exact h2, h3⟩
/-! ### Edges -/
/-- By each edge one may be ready as late as its end allows. -/
theorem edge_ok {hops : Int} {e : Eg} (he : e ∈ l) {t x : Int} (ht : atN e.to (lateM l to by' sz (hops - 1) []) = some t) (hx : latO e t sz = some x) (hf : e.fr ≠ to) : ∃ u, atN e.fr (lateM l to by' sz hops []) = some u ∧ x ≤ u := by
  have h := late_ask (atN_some ht)
  rw [at_late h.2 h.1] at ht
  obtain ⟨u, h1, h2⟩ := step_at (to := to) (sz := sz) (shut := []) he ht ⟨hf, .inr (by simp), hx⟩
  refine ⟨u, ?_, h2⟩
  rw [at_late h.2 (by omega), show hops.toNat = (hops - 1).toNat + 1 by omega, iter_snoc]
  exact h1
/-- Some edge is why. -/
theorem why_iter (hf : by' ≤ 1099511627776) : ∀ (k : Nat) {n t : Int}, atN n (iterL to sz shut l (k + 1) [⟨to, by'⟩]) = some t → n = to ∨ ∃ e ∈ l, e.fr = n ∧ ∃ b, atN e.to (iterL to sz shut l k [⟨to, by'⟩]) = some b ∧ Stp to sz shut e b t := by
  intro k
  induction k with
  | zero =>
    intro n t h
    rw [iter_snoc] at h
    rcases step_inv h with h | ⟨e, he, b, h1, h2, h3⟩
    · simp only [iterL, atN] at h
      split at h <;> cases h
      rename_i e
      exact .inl e.symm
    · exact .inr ⟨e, he, h3, b, h1, h2⟩
  | succ k ih =>
    intro n t h
    have h' := h
    rw [iter_snoc] at h
    rcases step_inv h with h | ⟨e, he, b, h1, h2, h3⟩
    · rcases ih h with h | ⟨e, he, h3, b, h1, h2⟩
      · exact .inl h
      obtain ⟨b', h4, h5⟩ := iter_up (to := to) (sz := sz) (shut := shut) (l := l) k [⟨to, by'⟩] _ _ h1
      have hb' := iter_bd (to := to) (sz := sz) (shut := shut) (l := l) (k + 1) _ (start_bd (to := to) (by' := by')) _ _ h4
      obtain ⟨x', h6, h7⟩ := latO_mono h2.2.2 h5 (by omega)
      obtain ⟨u, h8, h9⟩ := step_at (to := to) (sz := sz) (shut := shut) he h4 (x := x') ⟨h2.1, h2.2.1, h6⟩
      rw [← iter_snoc, h3, h'] at h8
      cases h8
      exact .inr ⟨e, he, h3, b', h4, h2.1, h2.2.1, by rw [h6, show x' = t by omega]⟩
    · exact .inr ⟨e, he, h3, b, h1, h2⟩
theorem why_ok {hops : Int} (h1 : 1 ≤ hops) {r : Rd} (hr : r ∈ lateM l to by' sz hops []) (hn : r.node ≠ to) : ∃ e ∈ l, e.fr = r.node ∧ ∃ b, atN e.to (lateM l to by' sz (hops - 1) []) = some b ∧ latO e b sz = some r.at' := by
  have h := late_ask hr
  have hm := late_mem hr
  rw [show hops.toNat = (hops - 1).toNat + 1 by omega] at hm
  rcases why_iter h.2.2.2.1.2 _ hm with h2 | ⟨e, he, h3, b, h4, h5⟩
  · exact absurd h2 hn
  · exact ⟨e, he, h3, b, by rw [at_late h.2 (by omega)]; exact h4, h5.2.2⟩
theorem cov_lenL {a b : List Rd} (h : CovL a b) (hn : (a.map Rd.node).Nodup) : a.length ≤ b.length := by
  have := nd_le (m := b.map Rd.node) hn (fun x hx => by
    obtain ⟨r, hr, rfl⟩ := List.mem_map.mp hx
    obtain ⟨u, h1, _⟩ := h r hr
    exact List.mem_map.mpr ⟨_, atN_some h1, rfl⟩)
  simpa using this
theorem len_more (hops : Int) : (lateM l to by' sz (hops - 1) shut).length ≤ (lateM l to by' sz hops shut).length := by
  have h := more_hops (l := l) (to := to) (by' := by') (sz := sz) (shut := shut) (hops - 1)
  rw [show hops - 1 + 1 = hops by omega] at h
  exact cov_lenL h (late_nd _)
/-! ### The fewest -/
variable {fr now : Int}
theorem few_some : ∀ (m k : Nat) (M : List Rd) {h : Nat}, fewF to sz shut l fr now m k M = some h → k ≤ h ∧ h < k + m ∧ hasB fr now (iterL to sz shut l (h - k) M) = true ∧ ∀ j, j < h - k → hasB fr now (iterL to sz shut l j M) = false
  | 0, k, M, h, e => by cases e
  | m + 1, k, M, h, e => by
    rw [fewF] at e
    split at e
    · rename_i hb
      cases e
      exact ⟨Nat.le_refl _, by omega, by rw [Nat.sub_self]; exact hb, fun j hj => by omega⟩
    · rename_i hb
      obtain ⟨h1, h2, h3, h4⟩ := few_some m (k + 1) _ e
      refine ⟨by omega, by omega, ?_, fun j hj => ?_⟩
      · rw [show h - k = (h - (k + 1)) + 1 by omega, iterL]; exact h3
      · cases j with
        | zero => simpa [iterL] using hb
        | succ j => rw [iterL]; exact h4 j (by omega)
theorem few_none : ∀ (m k : Nat) (M : List Rd), fewF to sz shut l fr now m k M = none → ∀ j, j < m → hasB fr now (iterL to sz shut l j M) = false
  | 0, k, M, e, j, hj => by omega
  | m + 1, k, M, e, j, hj => by
    rw [fewF] at e
    split at e
    · cases e
    · rename_i hb
      cases j with
      | zero => simpa [iterL] using hb
      | succ j => rw [iterL]; exact few_none m (k + 1) _ e j (by omega)
theorem has_iff {M : List Rd} : hasB fr now M = true ↔ ∃ a, atN fr M = some a ∧ now ≤ a := by
  unfold hasB
  split
  · rename_i a h
    rw [decide_eq_true_eq, h]
    exact ⟨fun h' => ⟨a, rfl, h'⟩, fun ⟨b, e, h'⟩ => by cases e; exact h'⟩
  · rename_i h
    rw [h]
    exact ⟨fun h' => (by cases h'), fun ⟨b, e, h'⟩ => (by cases e)⟩
theorem has_up {j k : Nat} (h : j ≤ k) (hb : hasB fr now (iterL to sz shut l j [⟨to, by'⟩]) = true) : hasB fr now (iterL to sz shut l k [⟨to, by'⟩]) = true := by
  obtain ⟨a, h1, h2⟩ := has_iff.1 hb
  obtain ⟨u, h3, h4⟩ := iter_ups (to := to) (sz := sz) (shut := shut) (l := l) h [⟨to, by'⟩] _ _ h1
  exact has_iff.2 ⟨u, h3, by omega⟩
/-- Is it there in time? -/
def reachB (l : List Eg) (fr to now sz by' : Int) : Bool := match atN to (timesM l fr now sz []) with
  | some a => decide (a ≤ by')
  | none => false
theorem reachB_iff {ha : AskC l fr now sz} : reachB l fr to now sz by' = true ↔ ∃ t, t ≤ by' ∧ Reach (psz sz) (clS []) l fr now to t := by
  have hT := times_isT ha []
  unfold reachB
  constructor
  · intro h
    split at h
    · rename_i a h1
      exact ⟨a, of_decide_eq_true h, hT.t1 _ (atN_some h1)⟩
    · cases h
  · rintro ⟨t, h1, h2⟩
    obtain ⟨u, h3, h4⟩ := hT.at_ h2
    rw [h3]
    exact decide_eq_true (by omega)
theorem reachB_no (ha : ¬ AskC l fr now sz) : reachB l fr to now sz by' = false := by
  unfold reachB
  rw [times_no ha]; rfl
/-- One is in time just if one is ready by then. -/
theorem meets (ha : AskC l fr now sz) (hb : AskC l to by' sz) : reachB l fr to now sz by' = hasB fr now (iterL to sz [] l l.length [⟨to, by'⟩]) := by
  have key : reachB l fr to now sz by' = true ↔ hasB fr now (iterL to sz [] l l.length [⟨to, by'⟩]) = true := by
    rw [reachB_iff (ha := ha), has_iff]
    constructor
    · rintro ⟨t, h1, h2⟩
      obtain ⟨p, b, h3, h4⟩ := reach_wk hb.2.2.1.2 h2 (.nil (to := to) (sz := sz) (shut := []) (l := l) (by' := by')) h1
      obtain ⟨u, h5, h6⟩ := iter_of_wk hb.2.2.1.2 h3
      obtain ⟨v, h7, h8⟩ := iter_full hb.2.2.1.2 p.length _ _ h5
      exact ⟨v, h7, by omega⟩
    · rintro ⟨a, h1, h2⟩
      obtain ⟨p, _, h3⟩ := wk_of_iter _ h1
      obtain ⟨a', h4, h5⟩ := wk_reach h3 (clS []) (fun m => by simp [clS]) now ha.2.2.1.1 h2
      exact ⟨a', h4, h5⟩
  cases h1 : reachB l fr to now sz by' <;> cases h2 : hasB fr now (iterL to sz [] l l.length [⟨to, by'⟩]) <;> simp_all
/-- Each node of which it is told is one. -/
theorem iter_node (ht : 1 ≤ to ∧ to ≤ 255) {k : Nat} {n t : Int} (h : atN n (iterL to sz shut l k [⟨to, by'⟩]) = some t) : 1 ≤ n ∧ n ≤ 255 := by
  obtain ⟨p, _, hw⟩ := wk_of_iter k h
  cases hw with
  | nil => exact ht
  | cons _ _ hx => exact (latO_some.1 hx.2.2).1.1.2.2.1.1
/-- What is told of the latest times is whether one is in time. -/
theorem meets_late (hn : 0 ≤ now ∧ now ≤ 1099511627776) (hb : 0 ≤ by' ∧ by' ≤ 1099511627776) : reachB l fr to now sz by' = hasB fr now (lateM l to by' sz l.length []) := by
  by_cases h1 : AskC l to by' sz
  · have e : hasB fr now (lateM l to by' sz l.length []) = hasB fr now (iterL to sz [] l l.length [⟨to, by'⟩]) := by
      unfold hasB
      rw [at_late h1 (by omega)]
      rfl
    rw [e]
    by_cases h2 : AskC l fr now sz
    · exact meets h2 h1
    · rw [reachB_no h2]
      cases h3 : hasB fr now (iterL to sz [] l l.length [⟨to, by'⟩]) with
      | false => rfl
      | true =>
        obtain ⟨a, h4, _⟩ := has_iff.1 h3
        exact absurd ⟨iter_node h1.1 h4, h1.2.1, hn, h1.2.2.2⟩ h2
  · rw [late_no (fun h => h1 h.2)]
    have e : hasB fr now [] = false := rfl
    rw [e]
    cases h3 : reachB l fr to now sz by' with
    | false => rfl
    | true =>
      by_cases h2 : AskC l fr now sz
      · obtain ⟨t, _, h4⟩ := (reachB_iff (ha := h2)).1 h3
        exact absurd ⟨reach_node h2.1 h4, h2.2.1, hb, h2.2.2.2⟩ h1
      · rw [reachB_no h2] at h3; cases h3
/-- With the fewest hops one may be in time, with fewer not. -/
theorem few_ok (hn : 0 ≤ now ∧ now ≤ 1099511627776) (hb : 0 ≤ by' ∧ by' ≤ 1099511627776) : (fewM l fr to now by' sz []).isSome = reachB l fr to now sz by' := by
  unfold fewM
  by_cases h1 : AskC l fr now sz ∧ AskC l to by' sz
  · rw [if_pos h1, meets h1.1 h1.2]
    cases h : fewF to sz [] l fr now (l.length + 1) 0 [⟨to, by'⟩] with
    | none => rw [few_none _ _ _ h l.length (by omega)]; rfl
    | some k =>
      obtain ⟨_, h2, h3, _⟩ := few_some _ _ _ h
      rw [has_up (j := k) (k := l.length) (by omega) h3]; rfl
  · rw [if_neg h1]
    cases h3 : reachB l fr to now sz by' with
    | false => rfl
    | true =>
      by_cases h2 : AskC l fr now sz
      · obtain ⟨t, _, h4⟩ := (reachB_iff (ha := h2)).1 h3
        exact absurd ⟨h2, reach_node h2.1 h4, h2.2.1, hb, h2.2.2.2⟩ h1
      · rw [reachB_no h2] at h3; cases h3
theorem few_at {k : Nat} (h : fewM l fr to now by' sz [] = some k) : k ≤ l.length ∧ (∃ t, atN fr (lateM l to by' sz k []) = some t ∧ now ≤ t) ∧ (∀ u, atN fr (lateM l to by' sz (k - 1) []) = some u → u < now) ∧ (k = 0 ↔ fr = to) := by
  unfold fewM at h
  split at h
  · rename_i ha
    obtain ⟨_, h2, h3, h4⟩ := few_some _ _ _ h
    rw [Nat.sub_zero] at h3 h4
    obtain ⟨t, h5, h6⟩ := has_iff.1 h3
    refine ⟨by omega, ⟨t, by rw [at_late ha.2 (by omega)]; exact h5, h6⟩, fun u hu => ?_, ?_⟩
    · have hk := late_ask (atN_some hu)
      have hk0 : 1 ≤ k := by have := hk.1; omega
      rw [at_late ha.2 hk.1, show ((k : Int) - 1).toNat = k - 1 by omega] at hu
      have := h4 (k - 1) (by omega)
      unfold hasB at this
      rw [hu] at this
      simpa using this
    · constructor
      · rintro rfl
        simp only [iterL, atN] at h5
        split at h5 <;> cases h5
        rename_i e
        exact e.symm
      · rintro rfl
        rw [iter_to] at h5
        cases h5
        refine Classical.byContradiction fun hk => ?_
        have := h4 0 (by omega)
        unfold hasB at this
        rw [iter_to] at this
        simp at this
        omega
  · cases h
end Go.Lat

/-
  The statements on the latest times, as the evaluator runs them.
-/
namespace Go.Lat
open Go.Ev
set_option linter.unusedVariables false
set_option linter.unusedSimpArgs false
set_option maxRecDepth 100000 in
theorem small_run : isT (callP Γ2 400 13 []) = true := by decide +kernel
theorem s_small : EvP Γ2 13 [] (.bool true) := EvP_of_run (isT_eq small_run)
theorem s_Reaches (l : List Eg) (hll : l.length ≤ 1000) (fr to now sz by' : Int) (t : Tok) (s : Nat) (hs : s = 8 ∨ l = []) : EvP Γ 25 [.slice t s (l.map Eg.e), .int .i64 fr, .int .i64 to, .int .i64 now, .int .i64 sz, .int .i64 by'] (.bool (reachB l fr to now sz by')) := by
  refine EvP_code rfl rfl ?_
  have hT := fun t => s_Times l hll fr now sz [] (by simp) t .isnil s 0 hs (.inr rfl)
  have hl := times_len l fr now sz []
  have hA := fun t s h => s_At to (timesM l fr now sz []) (by omega) t s h
  unfold reachB
  generalize timesM l fr now sz [] = T at *
  cases ha : atN to T with
  | none =>
    rw [ha] at hA
    repeat' (first
 | (refine I_WS ?_; first
 | (refine I_mov ?_; first
 | refine W_skip rfl ?_
 | refine W_mov (v := .int _ _) rfl rfl rfl ?_
 | refine W_mov (v := .bool _) rfl rfl rfl ?_
 | refine W_mov (v := .slice _ _ _) rfl rfl rfl ?_
 | refine W_mov (v := .tuple _) rfl rfl rfl ?_)
 | (refine I_bin ?_; first
 | refine W_skip rfl ?_)
 | (refine I_call ?_; first
 | (refine W_callN rfl rfl rfl (hT _) rfl ?_; intro ta sa hsa hta)
 | refine W_call rfl rfl rfl (hA _ _ hsa) rfl rfl ?_)
 | (refine I_pick ?_; first
 | refine W_pick (v := .bool _) rfl rfl rfl rfl ?_)
 | (refine I_extract ?_; first
 | refine W_extract (d := .int _ _) rfl rfl rfl rfl ?_
 | refine W_extract (d := .bool _) rfl rfl rfl rfl ?_)
 | refine WS_nil ?_)
 | refine WC_seq ?_
 | refine WC_opsS ?_
 | refine WC_ret ?_)
    exact fin_bool (.inr rfl) rfl rfl
  | some a =>
    rw [ha] at hA
    by_cases hab : a ≤ by'
    · simp only [decide_eq_true hab]
      repeat' (first
 | (refine I_WS ?_; first
 | refine W_leqT rfl rfl rfl rfl hab ?_
 | (refine I_mov ?_; first
 | refine W_mov (v := .int _ _) rfl rfl rfl ?_
 | refine W_mov (v := .bool _) rfl rfl rfl ?_
 | refine W_mov (v := .slice _ _ _) rfl rfl rfl ?_
 | refine W_mov (v := .tuple _) rfl rfl rfl ?_)
 | (refine I_call ?_; first
 | (refine W_callN rfl rfl rfl (hT _) rfl ?_; intro ta sa hsa hta)
 | refine W_call rfl rfl rfl (hA _ _ hsa) rfl rfl ?_)
 | (refine I_pick ?_; first
 | refine W_pick (v := .bool _) rfl rfl rfl rfl ?_)
 | (refine I_extract ?_; first
 | refine W_extract (d := .int _ _) rfl rfl rfl rfl ?_
 | refine W_extract (d := .bool _) rfl rfl rfl rfl ?_)
 | refine WS_nil ?_)
 | refine WC_seq ?_
 | refine WC_opsS ?_
 | refine WC_ret ?_)
      exact fin_bool (.inr rfl) rfl rfl
    · simp only [decide_eq_false hab]
      have hab' : by' < a := by omega
      repeat' (first
 | (refine I_WS ?_; first
 | refine W_leqF rfl rfl rfl rfl hab' ?_
 | (refine I_mov ?_; first
 | refine W_mov (v := .int _ _) rfl rfl rfl ?_
 | refine W_mov (v := .bool _) rfl rfl rfl ?_
 | refine W_mov (v := .slice _ _ _) rfl rfl rfl ?_
 | refine W_mov (v := .tuple _) rfl rfl rfl ?_)
 | (refine I_call ?_; first
 | (refine W_callN rfl rfl rfl (hT _) rfl ?_; intro ta sa hsa hta)
 | refine W_call rfl rfl rfl (hA _ _ hsa) rfl rfl ?_)
 | (refine I_pick ?_; first
 | refine W_pick (v := .bool _) rfl rfl rfl rfl ?_)
 | (refine I_extract ?_; first
 | refine W_extract (d := .int _ _) rfl rfl rfl rfl ?_
 | refine W_extract (d := .bool _) rfl rfl rfl rfl ?_)
 | refine WS_nil ?_)
 | refine WC_seq ?_
 | refine WC_opsS ?_
 | refine WC_ret ?_)
      exact fin_bool (.inr rfl) rfl rfl
theorem s_At1 (n : Int) (l : List Rd) (hll : l.length ≤ 1073741824) (u : Int) (hu : atN n l = some u) (t : Tok) (sz : Nat) (hs : sz = 2 ∨ l = []) : EvP Γ2 19 [.slice t sz (l.map Rd.e), .int .i64 n] (.tuple [.int .i64 u, .bool true]) := by
  have h := s_At n l hll t sz hs
  rw [hu] at h
  exact h.grow hx2
theorem s_At0 (n : Int) (l : List Rd) (hll : l.length ≤ 1073741824) (hu : atN n l = none) (t : Tok) (sz : Nat) (hs : sz = 2 ∨ l = []) : EvP Γ2 19 [.slice t sz (l.map Rd.e), .int .i64 n] (.tuple [.int .i64 0, .bool false]) := by
  have h := s_At n l hll t sz hs
  rw [hu] at h
  exact h.grow hx2
set_option maxHeartbeats 4000000 in
theorem run_Meets (l : List Eg) (fr to now by' sz : Int) : EvP Γ2 11 [.slice .no 8 (l.map Eg.e), .int .i64 fr, .int .i64 to, .int .i64 now, .int .i64 by', .int .i64 sz] (.bool true) := by
  refine EvP_code rfl rfl ?_
  by_cases hf : l.length ≤ 30 ∧ 0 ≤ now ∧ now ≤ 1099511627776 ∧ 0 ≤ by' ∧ by' ≤ 1099511627776
  · obtain ⟨f1, f2, f3, f4, f5⟩ := hf
    have hT := s_lTimes l (by omega) to by' sz l.length [] (by simp) .no .isnil 8 0 (.inl rfl) (.inr rfl)
    have hl := lateM_len l to by' sz l.length []
    have hsq := sq900 (n := l.length) (by omega)
    have hR := (s_Reaches l (by omega) fr to now sz by' .no 8 (.inl rfl)).grow hx2
    rw [meets_late ⟨f2, f3⟩ ⟨f4, f5⟩] at hR
    unfold hasB at hR
    generalize lateM l to by' sz l.length [] = T at *
    cases ha : atN fr T with
    | none =>
      have hA := fun t s h => s_At0 fr T (by omega) ha t s h
      rw [ha] at hR
      repeat' (first
 | (refine I_WS ?_; first
 | refine W_lenM rfl rfl rfl ?_
 | (refine I_mov ?_; first
 | refine W_skip rfl ?_
 | refine W_mov (v := .int _ _) rfl rfl rfl ?_
 | refine W_mov (v := .bool _) rfl rfl rfl ?_
 | refine W_mov (v := .slice _ _ _) rfl rfl rfl ?_
 | refine W_mov (v := .tuple _) rfl rfl rfl ?_)
 | (refine I_bin ?_; first
 | refine W_skip rfl ?_
 | refine W_lssF rfl rfl rfl rfl (by omega) ?_
 | refine W_gtrF rfl rfl rfl rfl (by omega) ?_)
 | (refine I_call ?_; first
 | refine W_call rfl rfl rfl s_small rfl rfl ?_
 | (refine W_callN rfl rfl rfl hT rfl ?_; intro ta sa hsa hta)
 | refine W_call rfl rfl rfl hR rfl rfl ?_
 | refine W_call rfl rfl rfl (hA _ _ hsa) rfl rfl ?_)
 | (refine I_pick ?_; first
 | refine W_pick (v := .bool _) rfl rfl rfl rfl ?_)
 | (refine I_extract ?_; first
 | refine W_extract (d := .int _ _) rfl rfl rfl rfl ?_
 | refine W_extract (d := .bool _) rfl rfl rfl rfl ?_)
 | (refine W_eqlB rfl rfl rfl rfl ?_)
 | refine WS_nil ?_)
 | refine WC_seq ?_
 | refine WC_opsS ?_
 | refine WC_skip ?_
 | refine WC_condF rfl ?_
 | refine WC_ret ?_)
      all_goals first | exact fin_bool (.inr rfl) rfl rfl | (exfalso; omega)
    | some u =>
      have hA := fun t s h => s_At1 fr T (by omega) u ha t s h
      rw [ha] at hR
      by_cases hu : now ≤ u
      · simp only [decide_eq_true hu] at hR
        repeat' (first
 | (refine I_WS ?_; first
 | refine W_lenM rfl rfl rfl ?_
 | (refine I_mov ?_; first
 | refine W_mov (v := .int _ _) rfl rfl rfl ?_
 | refine W_mov (v := .bool _) rfl rfl rfl ?_
 | refine W_mov (v := .slice _ _ _) rfl rfl rfl ?_
 | refine W_mov (v := .tuple _) rfl rfl rfl ?_)
 | (refine I_bin ?_; first
 | refine W_lssF rfl rfl rfl rfl (by omega) ?_
 | refine W_leqT rfl rfl rfl rfl (by omega) ?_
 | refine W_gtrF rfl rfl rfl rfl (by omega) ?_)
 | (refine I_call ?_; first
 | refine W_call rfl rfl rfl s_small rfl rfl ?_
 | (refine W_callN rfl rfl rfl hT rfl ?_; intro ta sa hsa hta)
 | refine W_call rfl rfl rfl hR rfl rfl ?_
 | refine W_call rfl rfl rfl (hA _ _ hsa) rfl rfl ?_)
 | (refine I_pick ?_; first
 | refine W_pick (v := .bool _) rfl rfl rfl rfl ?_)
 | (refine I_extract ?_; first
 | refine W_extract (d := .int _ _) rfl rfl rfl rfl ?_
 | refine W_extract (d := .bool _) rfl rfl rfl rfl ?_)
 | (refine W_eqlB rfl rfl rfl rfl ?_)
 | refine WS_nil ?_)
 | refine WC_seq ?_
 | refine WC_opsS ?_
 | refine WC_skip ?_
 | refine WC_condF rfl ?_
 | refine WC_ret ?_)
        all_goals first | exact fin_bool (.inr rfl) rfl rfl | (exfalso; omega)
      · simp only [decide_eq_false hu] at hR
        repeat' (first
 | (refine I_WS ?_; first
 | refine W_lenM rfl rfl rfl ?_
 | (refine I_mov ?_; first
 | refine W_mov (v := .int _ _) rfl rfl rfl ?_
 | refine W_mov (v := .bool _) rfl rfl rfl ?_
 | refine W_mov (v := .slice _ _ _) rfl rfl rfl ?_
 | refine W_mov (v := .tuple _) rfl rfl rfl ?_)
 | (refine I_bin ?_; first
 | refine W_lssF rfl rfl rfl rfl (by omega) ?_
 | refine W_leqF rfl rfl rfl rfl (by omega) ?_
 | refine W_gtrF rfl rfl rfl rfl (by omega) ?_)
 | (refine I_call ?_; first
 | refine W_call rfl rfl rfl s_small rfl rfl ?_
 | (refine W_callN rfl rfl rfl hT rfl ?_; intro ta sa hsa hta)
 | refine W_call rfl rfl rfl hR rfl rfl ?_
 | refine W_call rfl rfl rfl (hA _ _ hsa) rfl rfl ?_)
 | (refine I_pick ?_; first
 | refine W_pick (v := .bool _) rfl rfl rfl rfl ?_)
 | (refine I_extract ?_; first
 | refine W_extract (d := .int _ _) rfl rfl rfl rfl ?_
 | refine W_extract (d := .bool _) rfl rfl rfl rfl ?_)
 | (refine W_eqlB rfl rfl rfl rfl ?_)
 | refine WS_nil ?_)
 | refine WC_seq ?_
 | refine WC_opsS ?_
 | refine WC_skip ?_
 | refine WC_condF rfl ?_
 | refine WC_ret ?_)
        all_goals first | exact fin_bool (.inr rfl) rfl rfl | (exfalso; omega)
  · repeat' (first
 | (refine I_WS ?_; first
 | refine W_lenM rfl rfl rfl ?_
 | (refine I_mov ?_; first
 | refine W_skip rfl ?_
 | refine W_mov (v := .int _ _) rfl rfl rfl ?_
 | refine W_mov (v := .bool _) rfl rfl rfl ?_
 | refine W_mov (v := .slice _ _ _) rfl rfl rfl ?_)
 | (refine I_bin ?_; first
 | refine W_skip rfl ?_
 | (refine W_lss rfl rfl rfl rfl ?_ ?_ <;> intro _)
 | refine W_gtrT rfl rfl rfl rfl (by omega) ?_
 | (refine W_gtr rfl rfl rfl rfl ?_ ?_ <;> intro _))
 | (refine I_call ?_; first
 | refine W_call rfl rfl rfl s_small rfl rfl ?_)
 | (refine I_pick ?_; first
 | refine W_pick (v := .bool _) rfl rfl rfl rfl ?_)
 | refine WS_nil ?_)
 | refine WC_seq ?_
 | refine WC_opsS ?_
 | refine WC_condT rfl ?_
 | refine WC_ret ?_)
    all_goals first | exact fin_bool (.inr rfl) rfl rfl | (exfalso; omega)
theorem l_M1 (a x y z : List Rd) (to by' : Int) (hal : a.length ≤ 1000000) (hxl : x.length ≤ 1000000) (hyl : y.length ≤ 1000000) (hzl : z.length ≤ 1000000) (hX : CovL a x) (hY : CovL a y) (hZ : CovL a z) (hlt : a.Pairwise fun a b => a.node < b.node) (ta tx ty tz : Tok) (sa sx sy sz : Nat) (hsa : sa = 2 ∨ a = []) (hsx : sx = 2 ∨ x = []) (hsy : sy = 2 ∨ y = []) (hsz : sz = 2 ∨ z = []) : ∀ (post pre : List Rd), a = pre ++ post → ∀ (ρ : Nat → D) (st : Store),
    ρ 1 = .int .i64 to → ρ 2 = .int .i64 by' → ρ 15 = .bool true → ρ 16 = .slice ta sa (a.map Rd.e) → ρ 17 = .slice tx sx (x.map Rd.e) → ρ 18 = .slice ty sy (y.map Rd.e) → ρ 19 = .slice tz sz (z.map Rd.e) → ρ 20 = .int .i64 pre.length → ∀ (Q : X → (Nat → D) → Store → Prop),
    (∀ ρ', ρ' 1 = .int .i64 to → ρ' 2 = .int .i64 by' → ρ' 15 = .bool true → ρ' 16 = .slice ta sa (a.map Rd.e) → Q (.exit 0) ρ' st) → WC Γ2 (.loop c_feluccalaw16_LateMore_l0) ρ st Q := by
  intro post
  induction post with
  | nil =>
    intro pre hpp ρ st h1 h2 h15 h16 h17 h18 h19 h20 Q hQ
    rw [List.append_nil] at hpp
    subst hpp
    rw [← upd_self h1, ← upd_self h2, ← upd_self h15, ← upd_self h16, ← upd_self h17, ← upd_self h18, ← upd_self h19, ← upd_self h20]
    refine WC_loop ?_
    repeat' (first
 | (refine I_WS ?_; first
 | (refine I_mov ?_; first
 | refine W_mov (v := .int _ _) rfl rfl rfl ?_
 | refine W_mov (v := .slice _ _ _) rfl rfl rfl ?_)
 | (refine I_bin ?_; first
 | refine W_lssF rfl rfl rfl rfl (by omega) ?_)
 | refine W_lenM rfl rfl rfl ?_
 | refine WS_nil ?_)
 | refine WC_seq ?_
 | refine WC_opsS ?_
 | refine WC_condF rfl ?_
 | refine WC_exit ?_)
    exact hQ _ rfl rfl rfl rfl
  | cons r post ih =>
    intro pre hpp ρ st h1 h2 h15 h16 h17 h18 h19 h20 Q hQ
    have hv := rd_mid hpp
    have hlen : a.length = pre.length + (post.length + 1) := by rw [hpp]; simp
    have hz : sa = 2 := hsa.resolve_right (by rintro rfl; simp at hlen)
    subst hz
    have hpl : pre.length < (a.map Rd.e).length := by simp; omega
    have hpl2 : pre.length - 1 < (a.map Rd.e).length := by simp; omega
    have hltl : (pre.length : Int) < a.length := by omega
    have hm := List.mem_of_getElem? hv
    obtain ⟨u, hu, hle⟩ := hX r hm
    obtain ⟨v, hv', hle2⟩ := hY r hm
    obtain ⟨w, hw, hle3⟩ := hZ r hm
    have hA1 := fun t => s_At1 r.node x (by omega) u hu t sx hsx
    have hA2 := fun t => s_At1 r.node y (by omega) v hv' t sy hsy
    have hA3 := fun t => s_At1 r.node z (by omega) w hw t sz hsz
    have hnext : ∀ (ρ' : Nat → D), ρ' 1 = .int .i64 to → ρ' 2 = .int .i64 by' → ρ' 15 = .bool true → ρ' 16 = .slice ta 2 (a.map Rd.e) → ρ' 17 = .slice tx sx (x.map Rd.e) → ρ' 18 = .slice ty sy (y.map Rd.e) → ρ' 19 = .slice tz sz (z.map Rd.e) → ρ' 20 = .int .i64 ((pre.length : Int) + 1) → WC Γ2 (.loop c_feluccalaw16_LateMore_l0) ρ' st Q := fun ρ' k1 k2 k15 k16 k17 k18 k19 k20 =>
      ih (pre ++ [r]) (by simp [hpp]) ρ' st k1 k2 k15 k16 k17 k18 k19 (by rw [List.length_append]; exact k20) Q hQ
    clear ih hQ
    rw [← upd_self h1, ← upd_self h2, ← upd_self h15, ← upd_self h16, ← upd_self h17, ← upd_self h18, ← upd_self h19, ← upd_self h20]
    refine WC_loop ?_
    by_cases hz : 0 < pre.length
    · have hsub : IntKind.i64.wrap ((pre.length : Int) - 1) = ((pre.length - 1 : Nat) : Int) := by rw [w64 (by omega)]; omega
      have hz' : (0 : Int) < pre.length := by omega
      obtain ⟨y0, hy⟩ : ∃ y, pre[pre.length - 1]? = some y := ⟨pre[pre.length - 1]'(by omega), List.getElem?_eq_getElem _⟩
      have hvy : a[pre.length - 1]? = some y0 := by rw [hpp, List.getElem?_append_left (by omega)]; exact hy
      have hyr : y0.node < r.node := by
        rw [hpp] at hlt
        exact (List.pairwise_append.1 hlt).2.2 y0 (List.mem_of_getElem? hy) r List.mem_cons_self
      clear hpp hlt hX hY hZ
      repeat' (first
 | (refine I_WS ?_; first
 | refine W_sub (s := ((pre.length - 1 : Nat) : Int)) rfl rfl rfl rfl hsub ?_
 | refine W_iaddr (j := pre.length) rfl rfl rfl rfl rfl hpl ?_
 | refine W_iaddr (j := pre.length - 1) rfl rfl rfl rfl rfl hpl2 ?_
 | (refine I_mov ?_; first
 | refine W_mov (v := .int _ _) rfl rfl rfl ?_
 | refine W_mov (v := .bool _) rfl rfl rfl ?_
 | refine W_mov (v := .slice _ _ _) rfl rfl rfl ?_
 | refine W_mov (v := .tuple _) rfl rfl rfl ?_)
 | (refine I_bin ?_; first
 | refine W_lssT rfl rfl rfl rfl (by omega) ?_
 | refine W_lssF rfl rfl rfl rfl (by omega) ?_
 | refine W_leqF rfl rfl rfl rfl (by omega) ?_
 | refine W_gtrT rfl rfl rfl rfl (by omega) ?_
 | refine W_add rfl rfl rfl rfl (by first | exact w64 (by omega) | rfl) ?_)
 | (refine I_load ?_; first
 | refine W_loadE (agg := false) (d := .int _ _) rfl rfl rfl hv rfl ?_
 | refine W_loadE (agg := false) (d := .int _ _) rfl rfl rfl hvy rfl ?_)
 | (refine I_call ?_; first
 | refine W_call rfl rfl rfl (hA1 _) rfl rfl ?_
 | refine W_call rfl rfl rfl (hA2 _) rfl rfl ?_
 | refine W_call rfl rfl rfl (hA3 _) rfl rfl ?_)
 | (refine I_pick ?_; first
 | refine W_pick (v := .bool _) rfl rfl rfl rfl ?_)
 | (refine I_extract ?_; first
 | refine W_extract (d := .int _ _) rfl rfl rfl rfl ?_
 | refine W_extract (d := .bool _) rfl rfl rfl rfl ?_)
 | refine W_not rfl rfl rfl ?_
 | refine W_lenM rfl rfl rfl ?_
 | refine W_faddrE rfl rfl rfl ?_
 | refine WS_nil ?_)
 | refine okF_intro (okFlags_onlyR rfl) ?_
 | refine WC_seq ?_
 | refine WC_opsS ?_
 | refine WC_drawS ?_
 | refine WC_skip ?_
 | refine WC_condT rfl ?_
 | refine WC_condF rfl ?_
 | refine WC_block ?_)
      refine hnext _ ?_ ?_ ?_ ?_ ?_ ?_ ?_ ?_ <;> rfl
    · have hz' : (pre.length : Int) ≤ 0 := by omega
      clear hpp hlt hX hY hZ
      repeat' (first
 | (refine I_WS ?_; first
 | refine W_iaddr (j := pre.length) rfl rfl rfl rfl rfl hpl ?_
 | (refine I_mov ?_; first
 | refine W_skip rfl ?_
 | refine W_mov (v := .int _ _) rfl rfl rfl ?_
 | refine W_mov (v := .bool _) rfl rfl rfl ?_
 | refine W_mov (v := .slice _ _ _) rfl rfl rfl ?_
 | refine W_mov (v := .tuple _) rfl rfl rfl ?_)
 | (refine I_bin ?_; first
 | refine W_skip rfl ?_
 | refine W_lssT rfl rfl rfl rfl (by omega) ?_
 | refine W_lssF rfl rfl rfl rfl (by omega) ?_
 | refine W_gtrF rfl rfl rfl rfl (by omega) ?_
 | refine W_add rfl rfl rfl rfl (by first | exact w64 (by omega) | rfl) ?_)
 | (refine I_load ?_; first
 | refine W_skip rfl ?_
 | refine W_loadE (agg := false) (d := .int _ _) rfl rfl rfl hv rfl ?_)
 | (refine I_call ?_; first
 | refine W_call rfl rfl rfl (hA1 _) rfl rfl ?_
 | refine W_call rfl rfl rfl (hA2 _) rfl rfl ?_
 | refine W_call rfl rfl rfl (hA3 _) rfl rfl ?_)
 | (refine I_pick ?_; first
 | refine W_pick (v := .bool _) rfl rfl rfl rfl ?_)
 | (refine I_extract ?_; first
 | refine W_extract (d := .int _ _) rfl rfl rfl rfl ?_
 | refine W_extract (d := .bool _) rfl rfl rfl rfl ?_)
 | refine W_not rfl rfl rfl ?_
 | refine W_lenM rfl rfl rfl ?_
 | refine W_faddrE rfl rfl rfl ?_
 | refine W_skip rfl ?_
 | refine WS_nil ?_)
 | refine okF_intro (okFlags_onlyR rfl) ?_
 | refine WC_seq ?_
 | refine WC_opsS ?_
 | refine WC_drawS ?_
 | refine WC_skip ?_
 | refine WC_condT rfl ?_
 | refine WC_condF rfl ?_
 | refine WC_block ?_)
      refine hnext _ ?_ ?_ ?_ ?_ ?_ ?_ ?_ ?_ <;> rfl
set_option maxHeartbeats 4000000 in
theorem run_More (l : List Eg) (to by' later sz hops : Int) (shut : List Int) : EvP Γ2 4 [.slice .no 8 (l.map Eg.e), .int .i64 to, .int .i64 by', .int .i64 later, .int .i64 sz, .int .i64 hops, .slice .no 1 (shut.map (D.int .i64))] (.bool true) := by
  refine EvP_code rfl rfl ?_
  by_cases hf : l.length ≤ 30 ∧ shut.length ≤ 30 ∧ 0 ≤ by' ∧ by' ≤ later ∧ later ≤ 1099511627776 ∧ 0 ≤ hops ∧ hops ≤ 1000
  · obtain ⟨f1, f2, f3, f4, f5, f6, f7⟩ := hf
    have hT := fun by' hops => s_lTimes l (by omega) to by' sz hops shut (by omega) .no .no 8 1 (.inl rfl) (.inl rfl)
    have hT0 := s_lTimes l (by omega) to by' sz hops [] (by simp) .no .isnil 8 0 (.inl rfl) (.inr rfl)
    have hsq := sq900 (n := l.length) (by omega)
    have hl := lateM_len l to by' sz hops shut
    have hl1 := lateM_len l to by' sz (hops + 1) shut
    have hl2 := lateM_len l to later sz hops shut
    have hl3 := lateM_len l to by' sz hops []
    have hX := more_hops (l := l) (to := to) (by' := by') (sz := sz) (shut := shut) hops
    have hY := more_late (l := l) (to := to) (by' := by') (sz := sz) (shut := shut) f4 f5 hops
    have hZ := more_open (l := l) (to := to) (by' := by') (sz := sz) (shut := shut) hops
    have hlt := late_lt (l := l) (to := to) (by' := by') (sz := sz) (shut := shut) hops
    have hlast : lateM l to by' sz hops shut = [] ∨ atN to (lateM l to by' sz hops shut) = some by' := by
      by_cases ha : AskC l to by' sz
      · exact .inr (late_to ha f6)
      · exact .inl (late_no (fun h => ha h.2))
    have hTa := hT by' hops
    have hTx := hT by' (hops + 1)
    have hTy := hT later hops
    clear hT
    have hw : IntKind.i64.wrap (hops + 1) = hops + 1 := w64 (by omega)
    generalize lateM l to by' sz hops shut = a at *
    generalize lateM l to by' sz (hops + 1) shut = x at *
    generalize lateM l to later sz hops shut = y at *
    generalize lateM l to by' sz hops [] = z at *
    repeat' (first
 | (refine I_WS ?_; first
 | refine W_lenM rfl rfl rfl ?_
 | (refine I_mov ?_; first
 | refine W_mov (v := .int _ _) rfl rfl rfl ?_
 | refine W_mov (v := .bool _) rfl rfl rfl ?_
 | refine W_mov (v := .slice _ _ _) rfl rfl rfl ?_)
 | (refine I_bin ?_; first
 | refine W_lssF rfl rfl rfl rfl (by omega) ?_
 | refine W_gtrF rfl rfl rfl rfl (by omega) ?_
 | refine W_add rfl rfl rfl rfl (by first | exact w64 (by omega) | rfl) ?_)
 | (refine I_call ?_; first
 | refine W_call rfl rfl rfl s_small rfl rfl ?_
 | (refine W_callN rfl rfl rfl hTa rfl ?_; intro ta sa hsa hta)
 | (refine W_callN rfl rfl rfl hTx rfl ?_; intro tx sx hsx htx)
 | (refine W_callN rfl rfl rfl hTy rfl ?_; intro ty sy hsy hty)
 | (refine W_callN rfl rfl rfl hT0 rfl ?_; intro tz sz' hsz htz))
 | (refine I_pick ?_; first
 | refine W_pick (v := .bool _) rfl rfl rfl rfl ?_)
 | refine WS_nil ?_)
 | refine WC_seq ?_
 | refine WC_opsS ?_
 | refine WC_skip ?_
 | refine WC_condF rfl ?_
 | refine WC_block ?_)
    refine l_M1 a x y z to by' (by omega) (by omega) (by omega) (by omega) hX hY hZ hlt ta tx ty tz sa sx sy sz' hsa hsx hsy hsz a [] rfl _ _ ?_ ?_ ?_ ?_ ?_ ?_ ?_ ?_ _ (fun ρ' h1 h2 h15 h16 => ?_)
    all_goals first | rfl | skip
    rw [← upd_self h1, ← upd_self h2, ← upd_self h15, ← upd_self h16]
    rcases hlast with rfl | hat
    · have hA := fun t s h => s_At0 to [] (by simp) rfl t s h
      repeat' (first
 | (refine I_WS ?_; first
 | refine W_lenM rfl rfl rfl ?_
 | (refine I_mov ?_; first
 | refine W_skip rfl ?_
 | refine W_mov (v := .int _ _) rfl rfl rfl ?_
 | refine W_mov (v := .bool _) rfl rfl rfl ?_
 | refine W_mov (v := .slice _ _ _) rfl rfl rfl ?_
 | refine W_mov (v := .tuple _) rfl rfl rfl ?_)
 | (refine I_bin ?_; first
 | refine W_skip rfl ?_
 | (refine W_eql rfl rfl rfl rfl ?_ ?_ <;> intro _))
 | (refine I_call ?_; first
 | refine W_call rfl rfl rfl (hA _ _ hsa) rfl rfl ?_)
 | (refine I_pick ?_; first
 | refine W_pick (v := .bool _) rfl rfl rfl rfl ?_
 | refine W_skip rfl ?_)
 | (refine I_extract ?_; first
 | refine W_extract (d := .int _ _) rfl rfl rfl rfl ?_
 | refine W_extract (d := .bool _) rfl rfl rfl rfl ?_)
 | refine WS_nil ?_)
 | refine WC_seq ?_
 | refine WC_opsS ?_
 | refine WC_ret ?_)
      all_goals first | exact fin_bool (.inr rfl) rfl rfl | (exfalso; simp at *; done)
    · have hA := fun t s h => s_At1 to a (by omega) by' hat t s h
      have hpos : (0 : Int) < a.length := by
        rcases a with _ | ⟨r, a⟩
        · cases hat
        · simp
      repeat' (first
 | (refine I_WS ?_; first
 | refine W_lenM rfl rfl rfl ?_
 | (refine I_mov ?_; first
 | refine W_mov (v := .int _ _) rfl rfl rfl ?_
 | refine W_mov (v := .bool _) rfl rfl rfl ?_
 | refine W_mov (v := .slice _ _ _) rfl rfl rfl ?_
 | refine W_mov (v := .tuple _) rfl rfl rfl ?_)
 | (refine I_bin ?_; first
 | refine W_eqlT rfl rfl rfl rfl (by omega) ?_
 | refine W_eqlF rfl rfl rfl rfl (by omega) ?_)
 | (refine I_call ?_; first
 | refine W_call rfl rfl rfl (hA _ _ hsa) rfl rfl ?_)
 | (refine I_pick ?_; first
 | refine W_pick (v := .bool _) rfl rfl rfl rfl ?_)
 | (refine I_extract ?_; first
 | refine W_extract (d := .int _ _) rfl rfl rfl rfl ?_
 | refine W_extract (d := .bool _) rfl rfl rfl rfl ?_)
 | refine WS_nil ?_)
 | refine WC_seq ?_
 | refine WC_opsS ?_
 | refine WC_ret ?_)
      all_goals first | exact fin_bool (.inr rfl) rfl rfl | (exfalso; omega)
  · repeat' (first
 | (refine I_WS ?_; first
 | refine W_lenM rfl rfl rfl ?_
 | (refine I_mov ?_; first
 | refine W_skip rfl ?_
 | refine W_mov (v := .int _ _) rfl rfl rfl ?_
 | refine W_mov (v := .bool _) rfl rfl rfl ?_
 | refine W_mov (v := .slice _ _ _) rfl rfl rfl ?_)
 | (refine I_bin ?_; first
 | refine W_skip rfl ?_
 | (refine W_lss rfl rfl rfl rfl ?_ ?_ <;> intro _)
 | refine W_gtrT rfl rfl rfl rfl (by omega) ?_
 | (refine W_gtr rfl rfl rfl rfl ?_ ?_ <;> intro _))
 | (refine I_call ?_; first
 | refine W_call rfl rfl rfl s_small rfl rfl ?_)
 | (refine I_pick ?_; first
 | refine W_pick (v := .bool _) rfl rfl rfl rfl ?_)
 | refine W_skip rfl ?_
 | refine WS_nil ?_)
 | refine WC_seq ?_
 | refine WC_opsS ?_
 | refine WC_condT rfl ?_
 | refine WC_ret ?_)
    all_goals first | exact fin_bool (.inr rfl) rfl rfl | (exfalso; omega)
set_option maxHeartbeats 4000000 in
theorem run_Fewest (l : List Eg) (fr to now by' sz : Int) : EvP Γ2 12 [.slice .no 8 (l.map Eg.e), .int .i64 fr, .int .i64 to, .int .i64 now, .int .i64 by', .int .i64 sz] (.bool true) := by
  refine EvP_code rfl rfl ?_
  by_cases hf : l.length ≤ 30 ∧ 0 ≤ now ∧ now ≤ 1099511627776 ∧ 0 ≤ by' ∧ by' ≤ 1099511627776
  · obtain ⟨f1, f2, f3, f4, f5⟩ := hf
    have hR := (s_Reaches l (by omega) fr to now sz by' .no 8 (.inl rfl)).grow hx2
    have hF := s_Fewest l (by omega) fr to now by' sz [] (by simp) .no .isnil 8 0 (.inl rfl) (.inr rfl)
    rw [← few_ok ⟨f2, f3⟩ ⟨f4, f5⟩] at hR
    cases hk : fewM l fr to now by' sz [] with
    | none =>
      rw [hk] at hR hF
      repeat' (first
 | (refine I_WS ?_; first
 | refine W_lenM rfl rfl rfl ?_
 | (refine I_mov ?_; first
 | refine W_mov (v := .int _ _) rfl rfl rfl ?_
 | refine W_mov (v := .bool _) rfl rfl rfl ?_
 | refine W_mov (v := .slice _ _ _) rfl rfl rfl ?_
 | refine W_mov (v := .tuple _) rfl rfl rfl ?_)
 | (refine I_bin ?_; first
 | refine W_lssF rfl rfl rfl rfl (by omega) ?_
 | refine W_gtrF rfl rfl rfl rfl (by omega) ?_
 | refine W_eqlT rfl rfl rfl rfl (by omega) ?_)
 | (refine I_call ?_; first
 | refine W_call rfl rfl rfl s_small rfl rfl ?_
 | refine W_call rfl rfl rfl hF rfl rfl ?_
 | refine W_call rfl rfl rfl hR rfl rfl ?_)
 | (refine I_pick ?_; first
 | refine W_pick (v := .bool _) rfl rfl rfl rfl ?_)
 | (refine I_extract ?_; first
 | refine W_extract (d := .int _ _) rfl rfl rfl rfl ?_
 | refine W_extract (d := .bool _) rfl rfl rfl rfl ?_)
 | refine W_not rfl rfl rfl ?_
 | (refine W_neqB rfl rfl rfl rfl ?_)
 | refine WS_nil ?_)
 | refine WC_seq ?_
 | refine WC_opsS ?_
 | refine WC_skip ?_
 | refine WC_condT rfl ?_
 | refine WC_condF rfl ?_
 | refine WC_ret ?_)
      all_goals first | exact fin_bool (.inr rfl) rfl rfl | (exfalso; omega)
    | some k =>
      rw [hk] at hR hF
      obtain ⟨g1, ⟨t, g2, g3⟩, g4, g5⟩ := few_at hk
      have hT := fun hops => s_lTimes l (by omega) to by' sz hops [] (by simp) .no .isnil 8 0 (.inl rfl) (.inr rfl)
      have hsq := sq900 (n := l.length) (by omega)
      have hl1 := lateM_len l to by' sz k []
      have hl2 := lateM_len l to by' sz (k - 1) []
      have hT1 := hT k
      have hT2 := hT (k - 1)
      clear hT hk
      have hw : IntKind.i64.wrap ((k : Int) - 1) = (k : Int) - 1 := w64 (by omega)
      have g5' : ((k : Int) = 0 ↔ fr = to) := by rw [← g5]; omega
      generalize lateM l to by' sz k [] = x at *
      generalize lateM l to by' sz (k - 1) [] = y at *
      have hA := fun t' s h => s_At1 fr x (by omega) t g2 t' s h
      have hkl : (k : Int) ≤ l.length := by omega
      have hk0 : (0 : Int) ≤ k := by omega
      cases hy : atN fr y with
      | none =>
        have hB := fun t s h => s_At0 fr y (by omega) hy t s h
        by_cases hft : fr = to
        · have hk00 : (k : Int) = 0 := g5'.2 hft
          repeat' (first
 | (refine I_WS ?_; first
 | refine W_lenM rfl rfl rfl ?_
 | refine W_eqlT rfl rfl rfl rfl hft ?_
 | refine W_eqlT rfl rfl rfl rfl hk00 ?_
 | (refine I_mov ?_; first
 | refine W_skip rfl ?_
 | refine W_mov (v := .int _ _) rfl rfl rfl ?_
 | refine W_mov (v := .bool _) rfl rfl rfl ?_
 | refine W_mov (v := .slice _ _ _) rfl rfl rfl ?_
 | refine W_mov (v := .tuple _) rfl rfl rfl ?_)
 | (refine I_bin ?_; first
 | refine W_skip rfl ?_
 | refine W_lssF rfl rfl rfl rfl (by omega) ?_
 | refine W_leqT rfl rfl rfl rfl (by omega) ?_
 | refine W_gtrF rfl rfl rfl rfl (by omega) ?_
 | refine W_geqT rfl rfl rfl rfl (by omega) ?_
 | refine W_sub rfl rfl rfl rfl (by first | exact w64 (by omega) | rfl) ?_)
 | (refine I_call ?_; first
 | refine W_call rfl rfl rfl s_small rfl rfl ?_
 | refine W_call rfl rfl rfl hF rfl rfl ?_
 | refine W_call rfl rfl rfl hR rfl rfl ?_
 | (refine W_callN rfl rfl rfl hT1 rfl ?_; intro tx sx hsx htx)
 | (refine W_callN rfl rfl rfl hT2 rfl ?_; intro ty sy hsy hty)
 | refine W_call rfl rfl rfl (hA _ _ hsx) rfl rfl ?_
 | refine W_call rfl rfl rfl (hB _ _ hsy) rfl rfl ?_)
 | (refine I_pick ?_; first
 | refine W_pick (v := .bool _) rfl rfl rfl rfl ?_)
 | (refine I_extract ?_; first
 | refine W_extract (d := .int _ _) rfl rfl rfl rfl ?_
 | refine W_extract (d := .bool _) rfl rfl rfl rfl ?_)
 | refine W_not rfl rfl rfl ?_
 | (refine W_eqlB rfl rfl rfl rfl ?_)
 | (refine W_neqB rfl rfl rfl rfl ?_)
 | refine WS_nil ?_)
 | refine WC_seq ?_
 | refine WC_opsS ?_
 | refine WC_skip ?_
 | refine WC_condF rfl ?_
 | refine WC_ret ?_)
          all_goals first | exact fin_bool (.inr rfl) rfl rfl | (exfalso; omega)
        · have hk00 : ¬ (k : Int) = 0 := fun h => hft (g5'.1 h)
          repeat' (first
 | (refine I_WS ?_; first
 | refine W_lenM rfl rfl rfl ?_
 | refine W_eqlF rfl rfl rfl rfl hft ?_
 | refine W_eqlF rfl rfl rfl rfl hk00 ?_
 | (refine I_mov ?_; first
 | refine W_skip rfl ?_
 | refine W_mov (v := .int _ _) rfl rfl rfl ?_
 | refine W_mov (v := .bool _) rfl rfl rfl ?_
 | refine W_mov (v := .slice _ _ _) rfl rfl rfl ?_
 | refine W_mov (v := .tuple _) rfl rfl rfl ?_)
 | (refine I_bin ?_; first
 | refine W_skip rfl ?_
 | refine W_lssF rfl rfl rfl rfl (by omega) ?_
 | refine W_leqT rfl rfl rfl rfl (by omega) ?_
 | refine W_gtrF rfl rfl rfl rfl (by omega) ?_
 | refine W_geqT rfl rfl rfl rfl (by omega) ?_
 | refine W_sub rfl rfl rfl rfl (by first | exact w64 (by omega) | rfl) ?_)
 | (refine I_call ?_; first
 | refine W_call rfl rfl rfl s_small rfl rfl ?_
 | refine W_call rfl rfl rfl hF rfl rfl ?_
 | refine W_call rfl rfl rfl hR rfl rfl ?_
 | (refine W_callN rfl rfl rfl hT1 rfl ?_; intro tx sx hsx htx)
 | (refine W_callN rfl rfl rfl hT2 rfl ?_; intro ty sy hsy hty)
 | refine W_call rfl rfl rfl (hA _ _ hsx) rfl rfl ?_
 | refine W_call rfl rfl rfl (hB _ _ hsy) rfl rfl ?_)
 | (refine I_pick ?_; first
 | refine W_pick (v := .bool _) rfl rfl rfl rfl ?_)
 | (refine I_extract ?_; first
 | refine W_extract (d := .int _ _) rfl rfl rfl rfl ?_
 | refine W_extract (d := .bool _) rfl rfl rfl rfl ?_)
 | refine W_not rfl rfl rfl ?_
 | (refine W_eqlB rfl rfl rfl rfl ?_)
 | (refine W_neqB rfl rfl rfl rfl ?_)
 | refine WS_nil ?_)
 | refine WC_seq ?_
 | refine WC_opsS ?_
 | refine WC_skip ?_
 | refine WC_condF rfl ?_
 | refine WC_ret ?_)
          all_goals first | exact fin_bool (.inr rfl) rfl rfl | (exfalso; omega)
      | some v =>
        have hB := fun t s h => s_At1 fr y (by omega) v hy t s h
        have hvn := g4 v hy
        by_cases hft : fr = to
        · have hk00 : (k : Int) = 0 := g5'.2 hft
          repeat' (first
 | (refine I_WS ?_; first
 | refine W_lenM rfl rfl rfl ?_
 | refine W_eqlT rfl rfl rfl rfl hft ?_
 | refine W_eqlT rfl rfl rfl rfl hk00 ?_
 | (refine I_mov ?_; first
 | refine W_mov (v := .int _ _) rfl rfl rfl ?_
 | refine W_mov (v := .bool _) rfl rfl rfl ?_
 | refine W_mov (v := .slice _ _ _) rfl rfl rfl ?_
 | refine W_mov (v := .tuple _) rfl rfl rfl ?_)
 | (refine I_bin ?_; first
 | refine W_lssF rfl rfl rfl rfl (by omega) ?_
 | refine W_leqT rfl rfl rfl rfl (by omega) ?_
 | refine W_gtrT rfl rfl rfl rfl (by omega) ?_
 | refine W_gtrF rfl rfl rfl rfl (by omega) ?_
 | refine W_geqT rfl rfl rfl rfl (by omega) ?_
 | refine W_sub rfl rfl rfl rfl (by first | exact w64 (by omega) | rfl) ?_)
 | (refine I_call ?_; first
 | refine W_call rfl rfl rfl s_small rfl rfl ?_
 | refine W_call rfl rfl rfl hF rfl rfl ?_
 | refine W_call rfl rfl rfl hR rfl rfl ?_
 | (refine W_callN rfl rfl rfl hT1 rfl ?_; intro tx sx hsx htx)
 | (refine W_callN rfl rfl rfl hT2 rfl ?_; intro ty sy hsy hty)
 | refine W_call rfl rfl rfl (hA _ _ hsx) rfl rfl ?_
 | refine W_call rfl rfl rfl (hB _ _ hsy) rfl rfl ?_)
 | (refine I_pick ?_; first
 | refine W_pick (v := .bool _) rfl rfl rfl rfl ?_)
 | (refine I_extract ?_; first
 | refine W_extract (d := .int _ _) rfl rfl rfl rfl ?_
 | refine W_extract (d := .bool _) rfl rfl rfl rfl ?_)
 | refine W_not rfl rfl rfl ?_
 | (refine W_eqlB rfl rfl rfl rfl ?_)
 | (refine W_neqB rfl rfl rfl rfl ?_)
 | refine WS_nil ?_)
 | refine WC_seq ?_
 | refine WC_opsS ?_
 | refine WC_skip ?_
 | refine WC_condF rfl ?_
 | refine WC_ret ?_)
          all_goals first | exact fin_bool (.inr rfl) rfl rfl | (exfalso; omega)
        · have hk00 : ¬ (k : Int) = 0 := fun h => hft (g5'.1 h)
          repeat' (first
 | (refine I_WS ?_; first
 | refine W_lenM rfl rfl rfl ?_
 | refine W_eqlF rfl rfl rfl rfl hft ?_
 | refine W_eqlF rfl rfl rfl rfl hk00 ?_
 | (refine I_mov ?_; first
 | refine W_mov (v := .int _ _) rfl rfl rfl ?_
 | refine W_mov (v := .bool _) rfl rfl rfl ?_
 | refine W_mov (v := .slice _ _ _) rfl rfl rfl ?_
 | refine W_mov (v := .tuple _) rfl rfl rfl ?_)
 | (refine I_bin ?_; first
 | refine W_lssF rfl rfl rfl rfl (by omega) ?_
 | refine W_leqT rfl rfl rfl rfl (by omega) ?_
 | refine W_gtrT rfl rfl rfl rfl (by omega) ?_
 | refine W_gtrF rfl rfl rfl rfl (by omega) ?_
 | refine W_geqT rfl rfl rfl rfl (by omega) ?_
 | refine W_sub rfl rfl rfl rfl (by first | exact w64 (by omega) | rfl) ?_)
 | (refine I_call ?_; first
 | refine W_call rfl rfl rfl s_small rfl rfl ?_
 | refine W_call rfl rfl rfl hF rfl rfl ?_
 | refine W_call rfl rfl rfl hR rfl rfl ?_
 | (refine W_callN rfl rfl rfl hT1 rfl ?_; intro tx sx hsx htx)
 | (refine W_callN rfl rfl rfl hT2 rfl ?_; intro ty sy hsy hty)
 | refine W_call rfl rfl rfl (hA _ _ hsx) rfl rfl ?_
 | refine W_call rfl rfl rfl (hB _ _ hsy) rfl rfl ?_)
 | (refine I_pick ?_; first
 | refine W_pick (v := .bool _) rfl rfl rfl rfl ?_)
 | (refine I_extract ?_; first
 | refine W_extract (d := .int _ _) rfl rfl rfl rfl ?_
 | refine W_extract (d := .bool _) rfl rfl rfl rfl ?_)
 | refine W_not rfl rfl rfl ?_
 | (refine W_eqlB rfl rfl rfl rfl ?_)
 | (refine W_neqB rfl rfl rfl rfl ?_)
 | refine WS_nil ?_)
 | refine WC_seq ?_
 | refine WC_opsS ?_
 | refine WC_skip ?_
 | refine WC_condF rfl ?_
 | refine WC_ret ?_)
          all_goals first | exact fin_bool (.inr rfl) rfl rfl | (exfalso; omega)
  · repeat' (first
 | (refine I_WS ?_; first
 | refine W_lenM rfl rfl rfl ?_
 | (refine I_mov ?_; first
 | refine W_skip rfl ?_
 | refine W_mov (v := .int _ _) rfl rfl rfl ?_
 | refine W_mov (v := .bool _) rfl rfl rfl ?_
 | refine W_mov (v := .slice _ _ _) rfl rfl rfl ?_)
 | (refine I_bin ?_; first
 | refine W_skip rfl ?_
 | (refine W_lss rfl rfl rfl rfl ?_ ?_ <;> intro _)
 | refine W_gtrT rfl rfl rfl rfl (by omega) ?_
 | (refine W_gtr rfl rfl rfl rfl ?_ ?_ <;> intro _))
 | (refine I_call ?_; first
 | refine W_call rfl rfl rfl s_small rfl rfl ?_)
 | (refine I_pick ?_; first
 | refine W_pick (v := .bool _) rfl rfl rfl rfl ?_)
 | refine WS_nil ?_)
 | refine WC_seq ?_
 | refine WC_opsS ?_
 | refine WC_condT rfl ?_
 | refine WC_ret ?_)
    all_goals first | exact fin_bool (.inr rfl) rfl rfl | (exfalso; omega)
end Go.Lat
