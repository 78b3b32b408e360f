/-
  One hop more, and times by nodes: what goes over a map, as functions that are known to hold.
-/
import Derived.Test.YtjcilbnbciclpaaLeaEarX
import Derived.Test.YtjcilbnbciclpaaLeaEarX
import Derived.Test.YtjcilbnbciclpaaLeaEarX
import Derived.Test.YtjcilbnbciclpaaEvSmR
import Derived.Test.YtjcilbnbciclpaaLeaEarL
set_option linter.unusedVariables false
set_option linter.unusedSimpArgs false
set_option linter.unnecessarySimpa false
namespace Go.Lea
open Go.Ev
/-! ### Plain -/
def kvOf (M : List Rd) : List (Int × D) := M.map fun r => (r.node, .int .i64 r.at')
def setR (n v : Int) : List Rd → List Rd
  | [] => [⟨n, v⟩]
  | r :: M => if r.node = n then ⟨n, v⟩ :: M else r :: setR n v M
def lateR (n v : Int) (M : List Rd) : List Rd := match atN n M with
  | some had => if had < v then setR n v M else M
  | none => setR n v M
def stepE (to sz : Int) (shut : List Int) (M N : List Rd) (e : Eg) : List Rd := match atN e.to M with
  | none => N
  | some by' => if e.fr = to ∨ (e.to ≠ to ∧ e.to ∈ shut) then N else match latO e by' sz with
    | none => N
    | some x => lateR e.fr x N
def stepL (to sz : Int) (shut : List Int) (l : List Eg) (M : List Rd) : List Rd := l.foldl (stepE to sz shut M) M
theorem kvGet_of (n : Int) : ∀ M : List Rd, kvGet n (kvOf M) = (atN n M).map (D.int .i64)
  | [] => rfl
  | r :: M => by
    simp only [kvOf, List.map_cons, kvGet, atN]
    split
    · rfl
    · exact kvGet_of n M
theorem kvSet_of (n v : Int) : ∀ M : List Rd, kvSet n (.int .i64 v) (kvOf M) = kvOf (setR n v M)
  | [] => rfl
  | r :: M => by
    simp only [kvOf, List.map_cons, kvSet, setR]
    split
    · rfl
    · have := kvSet_of n v M
      unfold kvOf at this
      rw [this]; rfl
theorem kvOf_keys (M : List Rd) : (kvOf M).map (·.1) = M.map Rd.node := by simp [kvOf]
theorem setR_nodes {n v : Int} {M : List Rd} (h : (M.map Rd.node).Nodup) : ((setR n v M).map Rd.node).Nodup := by
  rw [← kvOf_keys, ← kvSet_of]
  exact kvSet_keys n _ (by rw [kvOf_keys]; exact h)
theorem lateR_nodes {n v : Int} {M : List Rd} (h : (M.map Rd.node).Nodup) : ((lateR n v M).map Rd.node).Nodup := by
  unfold lateR
  repeat' split
  all_goals first | exact h | exact setR_nodes h
theorem stepE_nodes {to sz : Int} {shut : List Int} {M N : List Rd} {e : Eg} (h : (N.map Rd.node).Nodup) : ((stepE to sz shut M N e).map Rd.node).Nodup := by
  unfold stepE
  repeat' split
  all_goals first | exact h | exact lateR_nodes h
theorem fold_nodes {to sz : Int} {shut : List Int} {M : List Rd} : ∀ (l : List Eg) (N : List Rd), (N.map Rd.node).Nodup → ((l.foldl (stepE to sz shut M) N).map Rd.node).Nodup
  | [], N, h => h
  | e :: l, N, h => fold_nodes l _ (stepE_nodes h)
theorem step_nodes {to sz : Int} {shut : List Int} {M : List Rd} (l : List Eg) (h : (M.map Rd.node).Nodup) : ((stepL to sz shut l M).map Rd.node).Nodup := fold_nodes l M h
/-! ### .. as the evaluator knows it -/
def rdOf : Int × D → Option Rd
  | (k, .int .i64 v) => some ⟨k, v⟩
  | _ => none
def rdsOf : List (Int × D) → Option (List Rd)
  | [] => some []
  | p :: r => match rdOf p, rdsOf r with
    | some x, some xs => some (x :: xs)
    | _, _ => none
def egOf : D → Option Eg
  | .agg [.int .i64 a, .int .i64 b, .int .i64 c, .int .i64 d, .int .i64 e, .int .i64 f, .int .i64 g, .int .i64 h] => some ⟨a, b, c, d, e, f, g, h⟩
  | _ => none
def egsOf : List D → Option (List Eg)
  | [] => some []
  | p :: r => match egOf p, egsOf r with
    | some x, some xs => some (x :: xs)
    | _, _ => none
theorem rdsOf_kv : ∀ M : List Rd, rdsOf (kvOf M) = some M
  | [] => rfl
  | r :: M => by
    have := rdsOf_kv M
    unfold kvOf at this ⊢
    simp only [List.map_cons, rdsOf, rdOf, this]
theorem rdsOf_inv : ∀ {kv : List (Int × D)} {M : List Rd}, rdsOf kv = some M → kv = kvOf M
  | [], M, h => by cases h; rfl
  | p :: r, M, h => by
    simp only [rdsOf] at h
    split at h <;> try contradiction
    rename_i x xs h1 h2
    cases h
    have := rdsOf_inv h2
    obtain ⟨k, d⟩ := p
    unfold rdOf at h1
    split at h1 <;> try contradiction
    rename_i k' v heq
    cases heq
    cases h1
    rw [this]; rfl
theorem egsOf_map : ∀ l : List Eg, egsOf (l.map Eg.e) = some l
  | [] => rfl
  | e :: l => by
    simp only [List.map_cons, egsOf, egsOf_map l]
    rfl
theorem egOf_inv {d : D} {x : Eg} (h : egOf d = some x) : d = x.e := by
  unfold egOf at h
  split at h <;> cases h
  rfl
theorem egsOf_inv : ∀ {xs : List D} {l : List Eg}, egsOf xs = some l → xs = l.map Eg.e
  | [], l, h => by cases h; rfl
  | p :: r, l, h => by
    simp only [egsOf] at h
    split at h <;> try contradiction
    rename_i x xs h1 h2
    cases h
    rw [egsOf_inv h2, egOf_inv h1]; rfl
theorem intsOf_inv : ∀ {xs : List D} {l : List Int}, intsOf xs = some l → xs = l.map (D.int .i64)
  | [], l, h => by cases h; rfl
  | d :: xs, l, h => by
    cases d with
    | int k n =>
      cases k <;> simp only [intsOf] at h <;> try contradiction
      split at h <;> cases h
      rename_i l' hl
      rw [intsOf_inv hl]; rfl
    | _ => simp [intsOf] at h
def stepF (ds : List D) (st : Store) : Option (D × Store) :=
  match ds with
  | [.map p, .slice _ s xs, .int .i64 to, .int .i64 sz, .slice _ s' ys] => match st.boxes p with
    | some (.map kv) => match rdsOf kv, egsOf xs, intsOf ys with
      | some M, some l, some shut => if (s = 8 ∨ l.isEmpty) ∧ (s' = 1 ∨ shut.isEmpty) ∧ l.length ≤ 1000000 ∧ shut.length ≤ 1000000 ∧ st.lim ≤ p ∧ p < st.next then
          some (.map st.next, { st with boxes := upd st.boxes st.next (some (.map (kvOf (stepL to sz shut l M)))), next := st.next + 2 + l.length }) else none
      | _, _, _ => none
    | _ => none
  | _ => none
def rowF (ds : List D) (st : Store) : Option (D × Store) :=
  match ds with
  | [.map p] => match st.boxes p with
    | some (.map kv) => match rdsOf kv with
      | some M => if 0 < M.length ∧ M.length ≤ 1000000 ∧ st.lim ≤ p ∧ p < st.next then
          some (.rs (st.next + M.length) 0 2 M.length M.length, { st with boxes := upd st.boxes (st.next + M.length) (some (.row (((srtK Rd.node M).map Rd.e).flatMap D.cells))), next := st.next + M.length + 1 }) else none
      | _ => none
    | _ => none
  | _ => none
/-! ### later -/
def afterQ (st : Store) (q : Nat) (kv : List (Int × D)) : Store := { st with boxes := upd st.boxes q (some (.map kv)) }
theorem after_same {st : Store} {q : Nat} {kv : List (Int × D)} (h : st.boxes q = some (.map kv)) : afterQ st q kv = st := by
  have e : upd st.boxes q (some (.map kv)) = st.boxes := by
    funext i
    by_cases hi : i = q
    · subst hi; rw [upd_same, h]
    · rw [upd_ne _ _ hi]
  unfold afterQ
  rw [e]
set_option maxHeartbeats 1000000 in
theorem s_later (n v : Int) (st : Store) (q : Nat) (N : List Rd) (kv1 : List (Int × D)) (hp : kv1.Perm (kvOf N)) (hn : (N.map Rd.node).Nodup) (hb : st.boxes q = some (.map kv1)) (hl : st.lim ≤ q) :
    ∃ kv2, kv2.Perm (kvOf (lateR n v N)) ∧ EvRW Γ 76 [.map q, .int .i64 n, .int .i64 v] st (.tuple []) (afterQ st q kv2) := by
  have hnd : ((kvOf N).map (·.1)).Nodup := by rw [kvOf_keys]; exact hn
  have hg : kvGet n kv1 = (atN n N).map (D.int .i64) := by rw [kvGet_perm hp hnd, kvGet_of]
  have hset : (kvSet n (.int .i64 v) kv1).Perm (kvOf (setR n v N)) := by rw [← kvSet_of]; exact kvSet_perm n _ hp hnd
  cases ha : atN n N with
  | none =>
    have hL : lateR n v N = setR n v N := by unfold lateR; rw [ha]
    rw [ha] at hg
    rw [hL]
    have hg1 : (kvGet n kv1).getD (.int .i64 0) = .int .i64 0 := by rw [hg]; rfl
    have hg2 : (kvGet n kv1).isSome = false := by rw [hg]; rfl
    refine ⟨_, hset, ?_⟩
    refine EvRW_code rfl rfl ?_
    repeat' (first
 | (refine I_WS ?_; first
 | refine W_lookupT rfl rfl rfl hb hg1 hg2 rfl ?_
 | refine W_mapset (v := .int .i64 v) rfl rfl rfl hb hl rfl rfl ?_
 | (refine I_mov ?_; first
 | refine W_skip rfl ?_
 | refine W_mov (v := .int _ _) rfl rfl rfl ?_
 | refine W_mov (v := .bool _) rfl rfl rfl ?_
 | refine W_mov (v := .tuple _) rfl rfl rfl ?_
 | refine W_mov (v := .map _) rfl rfl rfl ?_)
 | (refine I_bin ?_; first
 | refine W_skip rfl ?_)
 | (refine I_pick ?_; first
 | refine W_pick (v := .bool _) rfl rfl rfl rfl ?_)
 | (refine I_extract ?_; first
 | refine W_extract (d := .int _ _) rfl rfl rfl rfl ?_
 | refine W_extract (d := .bool _) rfl rfl rfl rfl ?_)
 | refine W_not rfl rfl rfl ?_
 | refine WS_nil ?_)
 | refine WC_seq ?_
 | refine WC_opsS ?_
 | refine WC_condT rfl ?_)
    exact ⟨.inl rfl, rfl⟩
  | some had =>
    rw [ha] at hg
    have hg1 : (kvGet n kv1).getD (.int .i64 0) = .int .i64 had := by rw [hg]; rfl
    have hg2 : (kvGet n kv1).isSome = true := by rw [hg]; rfl
    by_cases hv : had < v
    · have hL : lateR n v N = setR n v N := by unfold lateR; rw [ha]; exact if_pos hv
      rw [hL]
      refine ⟨_, hset, ?_⟩
      refine EvRW_code rfl rfl ?_
      repeat' (first
 | (refine I_WS ?_; first
 | refine W_lookupT rfl rfl rfl hb hg1 hg2 rfl ?_
 | refine W_gtrT rfl rfl rfl rfl hv ?_
 | refine W_mapset (v := .int .i64 v) rfl rfl rfl hb hl rfl rfl ?_
 | (refine I_mov ?_; first
 | refine W_mov (v := .int _ _) rfl rfl rfl ?_
 | refine W_mov (v := .bool _) rfl rfl rfl ?_
 | refine W_mov (v := .tuple _) rfl rfl rfl ?_
 | refine W_mov (v := .map _) rfl rfl rfl ?_)
 | (refine I_pick ?_; first
 | refine W_pick (v := .bool _) rfl rfl rfl rfl ?_)
 | (refine I_extract ?_; first
 | refine W_extract (d := .int _ _) rfl rfl rfl rfl ?_
 | refine W_extract (d := .bool _) rfl rfl rfl rfl ?_)
 | refine W_not rfl rfl rfl ?_
 | refine WS_nil ?_)
 | refine WC_seq ?_
 | refine WC_opsS ?_
 | refine WC_condT rfl ?_)
      exact ⟨.inl rfl, rfl⟩
    · have hL : lateR n v N = N := by unfold lateR; rw [ha]; exact if_neg hv
      rw [hL]
      have hv' : v ≤ had := by omega
      refine ⟨_, hp, ?_⟩
      rw [after_same hb]
      refine EvRW_code rfl rfl ?_
      repeat' (first
 | (refine I_WS ?_; first
 | refine W_lookupT rfl rfl rfl hb hg1 hg2 rfl ?_
 | refine W_gtrF rfl rfl rfl rfl hv' ?_
 | (refine I_mov ?_; first
 | refine W_mov (v := .int _ _) rfl rfl rfl ?_
 | refine W_mov (v := .bool _) rfl rfl rfl ?_
 | refine W_mov (v := .tuple _) rfl rfl rfl ?_
 | refine W_mov (v := .map _) rfl rfl rfl ?_)
 | (refine I_pick ?_; first
 | refine W_pick (v := .bool _) rfl rfl rfl rfl ?_)
 | (refine I_extract ?_; first
 | refine W_extract (d := .int _ _) rfl rfl rfl rfl ?_
 | refine W_extract (d := .bool _) rfl rfl rfl rfl ?_)
 | refine W_not rfl rfl rfl ?_
 | refine WS_nil ?_)
 | refine WC_seq ?_
 | refine WC_opsS ?_
 | refine WC_skip ?_
 | refine WC_condF rfl ?_)
      exact ⟨.inl rfl, rfl⟩
/-! ### The edges, one by one -/
set_option maxHeartbeats 8000000 in
theorem l_edge (l : List Eg) (hll : l.length ≤ 1000000) (to sz : Int) (shut : List Int) (hsl : shut.length ≤ 1000000) (t t' : Tok) (s s' : Nat) (hs : s = 8 ∨ l = []) (hs' : s' = 1 ∨ shut = []) (M : List Rd) (p q : Nat) (hpq : p ≠ q) : ∀ (post pre : List Eg), l = pre ++ post → ∀ (N : List Rd) (kv1 : List (Int × D)), kv1.Perm (kvOf N) → (N.map Rd.node).Nodup →
    ∀ (ρ : Nat → D) (st : Store), st.lim ≤ p → st.lim ≤ q → p < st.next → q < st.next → st.boxes p = some (.map (kvOf M)) → st.boxes q = some (.map kv1) →
    ρ 0 = .map p → ρ 2 = .int .i64 to → ρ 3 = .int .i64 sz → ρ 4 = .slice t' s' (shut.map (D.int .i64)) → ρ 11 = .map q → ρ 31 = .slice t s (l.map Eg.e) → ρ 32 = .int .i64 l.length → ρ 33 = .int .i64 pre.length → ∀ (Q : X → (Nat → D) → Store → Prop),
    (∀ ρ' st' kv', kv'.Perm (kvOf (post.foldl (stepE to sz shut M) N)) → st'.next = st.next + post.length → st'.lim = st.lim → st'.tlim = st.tlim → st'.toks = st.toks → st'.ntok = st.ntok → st'.boxes q = some (.map kv') → (∀ r, r < st.next → r ≠ q → st'.boxes r = st.boxes r) → ρ' 11 = .map q → Q (.exit 2) ρ' st') → WC Γ (.loop c_late_times_step_l1) ρ st Q := by
  intro post
  induction post with
  | nil =>
    intro pre hpp N kv1 hkv hN ρ st hl1 hl2 hp hq hbp hbq h0 h2 h3 h4 h11 h31 h32 h33 Q hQ
    rw [List.append_nil] at hpp
    subst hpp
    rw [← upd_self h0, ← upd_self h2, ← upd_self h3, ← upd_self h4, ← upd_self h11, ← upd_self h31, ← upd_self h32, ← upd_self h33]
    refine WC_loop ?_
    repeat' (first
 | (refine I_WS ?_; first
 | (refine I_bin ?_; first
 | refine W_lssF rfl rfl rfl rfl (by omega) ?_)
 | refine WS_nil ?_)
 | refine WC_seq ?_
 | refine WC_opsS ?_
 | refine WC_condF rfl ?_
 | refine WC_exit ?_)
    exact hQ _ _ kv1 hkv rfl rfl rfl rfl rfl hbq (fun _ _ _ => rfl) rfl
  | cons x post ih =>
    intro pre hpp N kv1 hkv hN ρ st hl1 hl2 hp hq hbp hbq h0 h2 h3 h4 h11 h31 h32 h33 Q hQ
    have hv := eg_mid hpp
    have hlen : l.length = pre.length + (post.length + 1) := by rw [hpp]; simp
    have hz : s = 8 := hs.resolve_right (by rintro rfl; simp at hlen)
    subst hz
    have hpl : pre.length < (l.map Eg.e).length := by simp; omega
    have hltl : (pre.length : Int) < l.length := by omega
    have hnext : ∀ (N2 : List Rd) (kv2 : List (Int × D)), stepE to sz shut M N x = N2 → kv2.Perm (kvOf N2) → ∀ (ρ' : Nat → D) (st' : Store), st'.lim = st.lim → st'.tlim = st.tlim → st'.toks = st.toks → st'.ntok = st.ntok → st'.next = st.next + 1 → st'.boxes q = some (.map kv2) → (∀ r, r < st.next → r ≠ q → st'.boxes r = st.boxes r) → ρ' 0 = .map p → ρ' 2 = .int .i64 to → ρ' 3 = .int .i64 sz → ρ' 4 = .slice t' s' (shut.map (D.int .i64)) → ρ' 11 = .map q → ρ' 31 = .slice t 8 (l.map Eg.e) → ρ' 32 = .int .i64 l.length → ρ' 33 = .int .i64 ((pre.length : Int) + 1) → WC Γ (.loop c_late_times_step_l1) ρ' st' Q := fun N2 kv2 e1 e2 ρ' st' f1 f2 f3 f4 f5 f6 f7 k0 k2 k3 k4 k11 k31 k32 k33 => by
      subst e1
      refine ih (pre ++ [x]) (by simp [hpp]) _ kv2 e2 (stepE_nodes hN) ρ' st' (by rw [f1]; exact hl1) (by rw [f1]; exact hl2) (by rw [f5]; omega) (by rw [f5]; omega) ((f7 p hp hpq).trans hbp) f6 k0 k2 k3 k4 k11 k31 k32 (by rw [List.length_append]; exact k33) Q (fun ρ'' st'' kv' g1 g2 g3 g4 g5 g6 g7 g8 g9 => hQ ρ'' st'' kv' g1 (by rw [g2, f5, List.length_cons]; omega) (g3.trans f1) (g4.trans f2) (g5.trans f3) (g6.trans f4) g7 (fun r hr hrq => (g8 r (by rw [f5]; omega) hrq).trans (f7 r hr hrq)) g9)
    clear ih hQ
    have hnp : p ≠ st.next := Nat.ne_of_lt hp
    have hnq : q ≠ st.next := Nat.ne_of_lt hq
    have hgp : kvGet x.to (kvOf M) = (atN x.to M).map (D.int .i64) := kvGet_of _ _
    have hll1 : st.lim ≤ st.next := by omega
    rw [← upd_self h0, ← upd_self h2, ← upd_self h3, ← upd_self h4, ← upd_self h11, ← upd_self h31, ← upd_self h32, ← upd_self h33]
    refine WC_loop ?_
    clear h0 h2 h3 h4 h11 h31 h32 h33
    cases ha : atN x.to M with
    | none =>
      have hst : stepE to sz shut M N x = N := by unfold stepE; rw [ha]
      rw [ha] at hgp
      have hg1 : (kvGet x.to (kvOf M)).getD (.int .i64 0) = .int .i64 0 := by rw [hgp]; rfl
      have hg2 : (kvGet x.to (kvOf M)).isSome = false := by rw [hgp]; rfl
      repeat' (first
 | (refine I_WS ?_; first
 | refine W_iaddr (j := pre.length) rfl rfl rfl rfl rfl hpl ?_
 | refine W_store (cs' := [_, _, _, _, _, _, _, _]) rfl rfl (upd_same _ _ _) rfl hll1 rfl rfl rfl ?_
 | refine W_lookupT rfl rfl rfl ((upd_ne _ _ hnp).trans ((upd_ne _ _ hnp).trans hbp)) hg1 hg2 rfl ?_
 | (refine I_mov ?_; first
 | refine W_skip rfl ?_
 | refine W_mov (v := .int _ _) rfl rfl rfl ?_
 | refine W_mov (v := .bool _) rfl rfl rfl ?_
 | refine W_mov (v := .tuple _) rfl rfl rfl ?_
 | refine W_mov (v := .map _) rfl rfl rfl ?_)
 | (refine I_bin ?_; first
 | refine W_skip rfl ?_
 | refine W_lssT rfl rfl rfl rfl (by omega) ?_
 | refine W_add rfl rfl rfl rfl (by first | exact w64 (by omega) | rfl) ?_)
 | (refine I_load ?_; first
 | refine W_skip rfl ?_
 | refine W_loadE (agg := true) (d := .agg [_, _, _, _, _, _, _, _]) rfl rfl rfl hv rfl ?_
 | refine W_load (agg := false) (d := .int _ _) rfl rfl rfl (bxc rfl) (by first | exact Nat.zero_le _ | assumption | exact Nat.le_trans hlim (Nat.zero_le _) | omega) rfl ?_)
 | (refine I_call ?_; first
 | refine W_skip rfl ?_)
 | (refine I_pick ?_; first
 | refine W_pick (v := .bool _) rfl rfl rfl rfl ?_
 | refine W_skip rfl ?_)
 | (refine I_extract ?_; first
 | refine W_extract (d := .int _ _) rfl rfl rfl rfl ?_
 | refine W_extract (d := .bool _) rfl rfl rfl rfl ?_)
 | refine W_not rfl rfl rfl ?_
 | refine W_faddr rfl rfl rfl ?_
 | refine W_alloc rfl rfl ?_
 | refine W_skip rfl ?_
 | refine WS_nil ?_)
 | refine WC_seq ?_
 | refine WC_opsS ?_
 | refine WC_skip ?_
 | refine WC_condT rfl ?_
 | refine WC_block ?_
 | refine WC_exit ?_)
      refine hnext N kv1 hst hkv _ _ rfl rfl rfl rfl rfl ((upd_ne _ _ hnq).trans ((upd_ne _ _ hnq).trans hbq)) (fun r hr _ => (upd_ne _ _ (Nat.ne_of_lt hr)).trans (upd_ne _ _ (Nat.ne_of_lt hr))) ?_ ?_ ?_ ?_ ?_ ?_ ?_ ?_ <;> rfl
    | some by' =>
      rw [ha] at hgp
      have hg1 : (kvGet x.to (kvOf M)).getD (.int .i64 0) = .int .i64 by' := by rw [hgp]; rfl
      have hg2 : (kvGet x.to (kvOf M)).isSome = true := by rw [hgp]; rfl
      have hC := fun t => s_Contains x.to shut (by omega) t s' hs'
      by_cases hf : x.fr = to
      · have hst : stepE to sz shut M N x = N := by unfold stepE; rw [ha]; exact if_pos (.inl hf)
        clear hC hpp
        repeat' (first
 | (refine I_WS ?_; first
 | refine W_iaddr (j := pre.length) rfl rfl rfl rfl rfl hpl ?_
 | refine W_store (cs' := [_, _, _, _, _, _, _, _]) rfl rfl (upd_same _ _ _) rfl hll1 rfl rfl rfl ?_
 | refine W_lookupT rfl rfl rfl ((upd_ne _ _ hnp).trans ((upd_ne _ _ hnp).trans hbp)) hg1 hg2 rfl ?_
 | refine W_eqlT rfl rfl rfl rfl hf ?_
 | (refine I_mov ?_; first
 | refine W_skip rfl ?_
 | refine W_mov (v := .int _ _) rfl rfl rfl ?_
 | refine W_mov (v := .bool _) rfl rfl rfl ?_
 | refine W_mov (v := .tuple _) rfl rfl rfl ?_
 | refine W_mov (v := .map _) rfl rfl rfl ?_)
 | (refine I_bin ?_; first
 | refine W_skip rfl ?_
 | refine W_lssT rfl rfl rfl rfl (by omega) ?_
 | refine W_add rfl rfl rfl rfl (by first | exact w64 (by omega) | rfl) ?_)
 | (refine I_load ?_; first
 | refine W_skip rfl ?_
 | refine W_loadE (agg := true) (d := .agg [_, _, _, _, _, _, _, _]) rfl rfl rfl hv rfl ?_
 | refine W_load (agg := false) (d := .int _ _) rfl rfl rfl (bxc rfl) (by first | exact Nat.zero_le _ | assumption | exact Nat.le_trans hlim (Nat.zero_le _) | omega) rfl ?_)
 | (refine I_call ?_; first
 | refine W_skip rfl ?_)
 | (refine I_pick ?_; first
 | refine W_pick (v := .bool _) rfl rfl rfl rfl ?_
 | refine W_skip rfl ?_)
 | (refine I_extract ?_; first
 | refine W_extract (d := .int _ _) rfl rfl rfl rfl ?_
 | refine W_extract (d := .bool _) rfl rfl rfl rfl ?_)
 | refine W_not rfl rfl rfl ?_
 | refine W_faddr rfl rfl rfl ?_
 | refine W_alloc rfl rfl ?_
 | refine W_skip rfl ?_
 | refine WS_nil ?_)
 | refine WC_seq ?_
 | refine WC_opsS ?_
 | refine WC_skip ?_
 | refine WC_condT rfl ?_
 | refine WC_block ?_
 | refine WC_exit ?_)
        refine hnext N kv1 hst hkv _ _ rfl rfl rfl rfl rfl ((upd_ne _ _ hnq).trans ((upd_ne _ _ hnq).trans hbq)) (fun r hr _ => (upd_ne _ _ (Nat.ne_of_lt hr)).trans (upd_ne _ _ (Nat.ne_of_lt hr))) ?_ ?_ ?_ ?_ ?_ ?_ ?_ ?_ <;> rfl
      · by_cases hsh : x.to ≠ to ∧ x.to ∈ shut
        · have hst : stepE to sz shut M N x = N := by unfold stepE; rw [ha]; exact if_pos (.inr hsh)
          have hne := hsh.1
          rw [decide_eq_true hsh.2] at hC
          clear hpp
          repeat' (first
 | (refine I_WS ?_; first
 | refine W_iaddr (j := pre.length) rfl rfl rfl rfl rfl hpl ?_
 | refine W_store (cs' := [_, _, _, _, _, _, _, _]) rfl rfl (upd_same _ _ _) rfl hll1 rfl rfl rfl ?_
 | refine W_lookupT rfl rfl rfl ((upd_ne _ _ hnp).trans ((upd_ne _ _ hnp).trans hbp)) hg1 hg2 rfl ?_
 | refine W_eqlF rfl rfl rfl rfl hf ?_
 | refine W_neqT rfl rfl rfl rfl hne ?_
 | (refine I_mov ?_; first
 | refine W_mov (v := .int _ _) rfl rfl rfl ?_
 | refine W_mov (v := .bool _) rfl rfl rfl ?_
 | refine W_mov (v := .slice _ _ _) rfl rfl rfl ?_
 | refine W_mov (v := .tuple _) rfl rfl rfl ?_
 | refine W_mov (v := .map _) rfl rfl rfl ?_)
 | (refine I_bin ?_; first
 | refine W_lssT rfl rfl rfl rfl (by omega) ?_
 | refine W_add rfl rfl rfl rfl (by first | exact w64 (by omega) | rfl) ?_)
 | (refine I_load ?_; first
 | refine W_loadE (agg := true) (d := .agg [_, _, _, _, _, _, _, _]) rfl rfl rfl hv rfl ?_
 | refine W_load (agg := false) (d := .int _ _) rfl rfl rfl (bxc rfl) (by first | exact Nat.zero_le _ | assumption | exact Nat.le_trans hlim (Nat.zero_le _) | omega) rfl ?_)
 | (refine I_call ?_; first
 | refine W_call rfl rfl rfl (hC _) rfl rfl ?_)
 | (refine I_pick ?_; first
 | refine W_pick (v := .bool _) rfl rfl rfl rfl ?_)
 | (refine I_extract ?_; first
 | refine W_extract (d := .int _ _) rfl rfl rfl rfl ?_
 | refine W_extract (d := .bool _) rfl rfl rfl rfl ?_)
 | refine W_not rfl rfl rfl ?_
 | refine W_faddr rfl rfl rfl ?_
 | refine W_alloc rfl rfl ?_
 | refine WS_nil ?_)
 | refine WC_seq ?_
 | refine WC_opsS ?_
 | refine WC_skip ?_
 | refine WC_condT rfl ?_
 | refine WC_block ?_
 | refine WC_exit ?_)
          refine hnext N kv1 hst hkv _ _ rfl rfl rfl rfl rfl ((upd_ne _ _ hnq).trans ((upd_ne _ _ hnq).trans hbq)) (fun r hr _ => (upd_ne _ _ (Nat.ne_of_lt hr)).trans (upd_ne _ _ (Nat.ne_of_lt hr))) ?_ ?_ ?_ ?_ ?_ ?_ ?_ ?_ <;> rfl
        · have hL := s_Latest x by' sz
          have hst : stepE to sz shut M N x = match latO x by' sz with | none => N | some y => lateR x.fr y N := by unfold stepE; rw [ha]; exact if_neg (by rintro (h | h); exact hf h; exact hsh h)
          unfold latT at hL
          have hq1 : ∀ S : Store, S.boxes = upd (upd st.boxes st.next (some (.cells [.int .i64 0, .int .i64 0, .int .i64 0, .int .i64 0, .int .i64 0, .int .i64 0, .int .i64 0, .int .i64 0]))) st.next (some (.cells x.e.cells)) → S.boxes q = some (.map kv1) := fun S e => by rw [e]; exact (upd_ne _ _ hnq).trans ((upd_ne _ _ hnq).trans hbq)
          cases ho : latO x by' sz with
          | none =>
            rw [ho] at hL hst
            by_cases hto : x.to = to
            · clear hpp
              repeat' (first
 | (refine I_WS ?_; first
 | refine W_iaddr (j := pre.length) rfl rfl rfl rfl rfl hpl ?_
 | refine W_store (cs' := [_, _, _, _, _, _, _, _]) rfl rfl (upd_same _ _ _) rfl hll1 rfl rfl rfl ?_
 | refine W_lookupT rfl rfl rfl ((upd_ne _ _ hnp).trans ((upd_ne _ _ hnp).trans hbp)) hg1 hg2 rfl ?_
 | refine W_eqlF rfl rfl rfl rfl hf ?_
 | refine W_neqF rfl rfl rfl rfl hto ?_
 | (refine I_mov ?_; first
 | refine W_skip rfl ?_
 | refine W_mov (v := .int _ _) rfl rfl rfl ?_
 | refine W_mov (v := .bool _) rfl rfl rfl ?_
 | refine W_mov (v := .tuple _) rfl rfl rfl ?_
 | refine W_mov (v := .map _) rfl rfl rfl ?_)
 | (refine I_bin ?_; first
 | refine W_lssT rfl rfl rfl rfl (by omega) ?_
 | refine W_add rfl rfl rfl rfl (by first | exact w64 (by omega) | rfl) ?_)
 | (refine I_load ?_; first
 | refine W_skip rfl ?_
 | refine W_loadE (agg := true) (d := .agg [_, _, _, _, _, _, _, _]) rfl rfl rfl hv rfl ?_
 | refine W_load (agg := false) (d := .int _ _) rfl rfl rfl (bxc rfl) (by first | exact Nat.zero_le _ | assumption | exact Nat.le_trans hlim (Nat.zero_le _) | omega) rfl ?_
 | refine W_load (agg := true) (d := .agg [_, _, _, _, _, _, _, _]) rfl rfl rfl (bxc rfl) (by first | exact Nat.zero_le _ | assumption | exact Nat.le_trans hlim (Nat.zero_le _) | omega) rfl ?_)
 | (refine I_call ?_; first
 | refine W_skip rfl ?_
 | refine W_call rfl rfl rfl hL rfl rfl ?_)
 | (refine I_pick ?_; first
 | refine W_pick (v := .bool _) rfl rfl rfl rfl ?_)
 | (refine I_extract ?_; first
 | refine W_extract (d := .int _ _) rfl rfl rfl rfl ?_
 | refine W_extract (d := .bool _) rfl rfl rfl rfl ?_)
 | refine W_not rfl rfl rfl ?_
 | refine W_faddr rfl rfl rfl ?_
 | refine W_alloc rfl rfl ?_
 | refine W_skip rfl ?_
 | refine WS_nil ?_)
 | refine WC_seq ?_
 | refine WC_opsS ?_
 | refine WC_skip ?_
 | refine WC_condT rfl ?_
 | refine WC_condF rfl ?_
 | refine WC_block ?_)
              refine hnext N kv1 hst hkv _ _ rfl rfl rfl rfl rfl ((upd_ne _ _ hnq).trans ((upd_ne _ _ hnq).trans hbq)) (fun r hr _ => (upd_ne _ _ (Nat.ne_of_lt hr)).trans (upd_ne _ _ (Nat.ne_of_lt hr))) ?_ ?_ ?_ ?_ ?_ ?_ ?_ ?_ <;> rfl
            · rw [decide_eq_false (fun h => hsh ⟨hto, h⟩)] at hC
              clear hpp
              repeat' (first
 | (refine I_WS ?_; first
 | refine W_iaddr (j := pre.length) rfl rfl rfl rfl rfl hpl ?_
 | refine W_store (cs' := [_, _, _, _, _, _, _, _]) rfl rfl (upd_same _ _ _) rfl hll1 rfl rfl rfl ?_
 | refine W_lookupT rfl rfl rfl ((upd_ne _ _ hnp).trans ((upd_ne _ _ hnp).trans hbp)) hg1 hg2 rfl ?_
 | refine W_eqlF rfl rfl rfl rfl hf ?_
 | refine W_neqT rfl rfl rfl rfl hto ?_
 | (refine I_mov ?_; first
 | refine W_mov (v := .int _ _) rfl rfl rfl ?_
 | refine W_mov (v := .bool _) rfl rfl rfl ?_
 | refine W_mov (v := .slice _ _ _) rfl rfl rfl ?_
 | refine W_mov (v := .tuple _) rfl rfl rfl ?_
 | refine W_mov (v := .map _) rfl rfl rfl ?_)
 | (refine I_bin ?_; first
 | refine W_lssT rfl rfl rfl rfl (by omega) ?_
 | refine W_add rfl rfl rfl rfl (by first | exact w64 (by omega) | rfl) ?_)
 | (refine I_load ?_; first
 | refine W_loadE (agg := true) (d := .agg [_, _, _, _, _, _, _, _]) rfl rfl rfl hv rfl ?_
 | refine W_load (agg := false) (d := .int _ _) rfl rfl rfl (bxc rfl) (by first | exact Nat.zero_le _ | assumption | exact Nat.le_trans hlim (Nat.zero_le _) | omega) rfl ?_
 | refine W_load (agg := true) (d := .agg [_, _, _, _, _, _, _, _]) rfl rfl rfl (bxc rfl) (by first | exact Nat.zero_le _ | assumption | exact Nat.le_trans hlim (Nat.zero_le _) | omega) rfl ?_)
 | (refine I_call ?_; first
 | refine W_call rfl rfl rfl (hC _) rfl rfl ?_
 | refine W_call rfl rfl rfl hL rfl rfl ?_)
 | (refine I_pick ?_; first
 | refine W_pick (v := .bool _) rfl rfl rfl rfl ?_)
 | (refine I_extract ?_; first
 | refine W_extract (d := .int _ _) rfl rfl rfl rfl ?_
 | refine W_extract (d := .bool _) rfl rfl rfl rfl ?_)
 | refine W_not rfl rfl rfl ?_
 | refine W_faddr rfl rfl rfl ?_
 | refine W_alloc rfl rfl ?_
 | refine WS_nil ?_)
 | refine WC_seq ?_
 | refine WC_opsS ?_
 | refine WC_skip ?_
 | refine WC_condT rfl ?_
 | refine WC_condF rfl ?_
 | refine WC_block ?_)
              refine hnext N kv1 hst hkv _ _ rfl rfl rfl rfl rfl ((upd_ne _ _ hnq).trans ((upd_ne _ _ hnq).trans hbq)) (fun r hr _ => (upd_ne _ _ (Nat.ne_of_lt hr)).trans (upd_ne _ _ (Nat.ne_of_lt hr))) ?_ ?_ ?_ ?_ ?_ ?_ ?_ ?_ <;> rfl
          | some y =>
            rw [ho] at hL hst
            obtain ⟨kv2, hkv2, hS⟩ := s_later x.fr y { st with boxes := upd (upd st.boxes st.next (some (.cells [.int .i64 0, .int .i64 0, .int .i64 0, .int .i64 0, .int .i64 0, .int .i64 0, .int .i64 0, .int .i64 0]))) st.next (some (.cells x.e.cells)), next := st.next + 1 } q N kv1 hkv hN (hq1 _ rfl) hl2
            by_cases hto : x.to = to
            · clear hpp
              repeat' (first
 | (refine I_WS ?_; first
 | refine W_iaddr (j := pre.length) rfl rfl rfl rfl rfl hpl ?_
 | refine W_store (cs' := [_, _, _, _, _, _, _, _]) rfl rfl (upd_same _ _ _) rfl hll1 rfl rfl rfl ?_
 | refine W_lookupT rfl rfl rfl ((upd_ne _ _ hnp).trans ((upd_ne _ _ hnp).trans hbp)) hg1 hg2 rfl ?_
 | refine W_eqlF rfl rfl rfl rfl hf ?_
 | refine W_neqF rfl rfl rfl rfl hto ?_
 | refine WS_callRW rfl rfl rfl hS ?_
 | (refine I_mov ?_; first
 | refine W_skip rfl ?_
 | refine W_mov (v := .int _ _) rfl rfl rfl ?_
 | refine W_mov (v := .bool _) rfl rfl rfl ?_
 | refine W_mov (v := .tuple _) rfl rfl rfl ?_
 | refine W_mov (v := .map _) rfl rfl rfl ?_)
 | (refine I_bin ?_; first
 | refine W_lssT rfl rfl rfl rfl (by omega) ?_
 | refine W_add rfl rfl rfl rfl (by first | exact w64 (by omega) | rfl) ?_)
 | (refine I_load ?_; first
 | refine W_skip rfl ?_
 | refine W_loadE (agg := true) (d := .agg [_, _, _, _, _, _, _, _]) rfl rfl rfl hv rfl ?_
 | refine W_load (agg := false) (d := .int _ _) rfl rfl rfl (bxc rfl) (by first | exact Nat.zero_le _ | assumption | exact Nat.le_trans hlim (Nat.zero_le _) | omega) rfl ?_
 | refine W_load (agg := true) (d := .agg [_, _, _, _, _, _, _, _]) rfl rfl rfl (bxc rfl) (by first | exact Nat.zero_le _ | assumption | exact Nat.le_trans hlim (Nat.zero_le _) | omega) rfl ?_)
 | (refine I_call ?_; first
 | refine W_skip rfl ?_
 | refine W_call rfl rfl rfl hL rfl rfl ?_)
 | (refine I_pick ?_; first
 | refine W_pick (v := .bool _) rfl rfl rfl rfl ?_)
 | (refine I_extract ?_; first
 | refine W_extract (d := .int _ _) rfl rfl rfl rfl ?_
 | refine W_extract (d := .bool _) rfl rfl rfl rfl ?_)
 | refine W_not rfl rfl rfl ?_
 | refine W_faddr rfl rfl rfl ?_
 | refine W_alloc rfl rfl ?_
 | refine W_skip rfl ?_
 | refine WS_nil ?_)
 | refine WC_seq ?_
 | refine WC_opsS ?_
 | refine WC_skip ?_
 | refine WC_condT rfl ?_
 | refine WC_condF rfl ?_
 | refine WC_block ?_)
              refine hnext _ kv2 hst hkv2 _ _ rfl rfl rfl rfl rfl (upd_same _ _ _) (fun r hr hrq => (upd_ne _ _ hrq).trans ((upd_ne _ _ (Nat.ne_of_lt hr)).trans (upd_ne _ _ (Nat.ne_of_lt hr)))) ?_ ?_ ?_ ?_ ?_ ?_ ?_ ?_ <;> rfl
            · rw [decide_eq_false (fun h => hsh ⟨hto, h⟩)] at hC
              clear hpp
              repeat' (first
 | (refine I_WS ?_; first
 | refine W_iaddr (j := pre.length) rfl rfl rfl rfl rfl hpl ?_
 | refine W_store (cs' := [_, _, _, _, _, _, _, _]) rfl rfl (upd_same _ _ _) rfl hll1 rfl rfl rfl ?_
 | refine W_lookupT rfl rfl rfl ((upd_ne _ _ hnp).trans ((upd_ne _ _ hnp).trans hbp)) hg1 hg2 rfl ?_
 | refine W_eqlF rfl rfl rfl rfl hf ?_
 | refine W_neqT rfl rfl rfl rfl hto ?_
 | refine WS_callRW rfl rfl rfl hS ?_
 | (refine I_mov ?_; first
 | refine W_mov (v := .int _ _) rfl rfl rfl ?_
 | refine W_mov (v := .bool _) rfl rfl rfl ?_
 | refine W_mov (v := .slice _ _ _) rfl rfl rfl ?_
 | refine W_mov (v := .tuple _) rfl rfl rfl ?_
 | refine W_mov (v := .map _) rfl rfl rfl ?_)
 | (refine I_bin ?_; first
 | refine W_lssT rfl rfl rfl rfl (by omega) ?_
 | refine W_add rfl rfl rfl rfl (by first | exact w64 (by omega) | rfl) ?_)
 | (refine I_load ?_; first
 | refine W_loadE (agg := true) (d := .agg [_, _, _, _, _, _, _, _]) rfl rfl rfl hv rfl ?_
 | refine W_load (agg := false) (d := .int _ _) rfl rfl rfl (bxc rfl) (by first | exact Nat.zero_le _ | assumption | exact Nat.le_trans hlim (Nat.zero_le _) | omega) rfl ?_
 | refine W_load (agg := true) (d := .agg [_, _, _, _, _, _, _, _]) rfl rfl rfl (bxc rfl) (by first | exact Nat.zero_le _ | assumption | exact Nat.le_trans hlim (Nat.zero_le _) | omega) rfl ?_)
 | (refine I_call ?_; first
 | refine W_call rfl rfl rfl (hC _) rfl rfl ?_
 | refine W_call rfl rfl rfl hL rfl rfl ?_)
 | (refine I_pick ?_; first
 | refine W_pick (v := .bool _) rfl rfl rfl rfl ?_)
 | (refine I_extract ?_; first
 | refine W_extract (d := .int _ _) rfl rfl rfl rfl ?_
 | refine W_extract (d := .bool _) rfl rfl rfl rfl ?_)
 | refine W_not rfl rfl rfl ?_
 | refine W_faddr rfl rfl rfl ?_
 | refine W_alloc rfl rfl ?_
 | refine WS_nil ?_)
 | refine WC_seq ?_
 | refine WC_opsS ?_
 | refine WC_skip ?_
 | refine WC_condT rfl ?_
 | refine WC_condF rfl ?_
 | refine WC_block ?_)
              refine hnext _ kv2 hst hkv2 _ _ rfl rfl rfl rfl rfl (upd_same _ _ _) (fun r hr hrq => (upd_ne _ _ hrq).trans ((upd_ne _ _ (Nat.ne_of_lt hr)).trans (upd_ne _ _ (Nat.ne_of_lt hr)))) ?_ ?_ ?_ ?_ ?_ ?_ ?_ ?_ <;> rfl
end Go.Lea
/-
  .. as functions that are known to hold.
-/
namespace Go.Lea
open Go.Ev
theorem sub_len {a b : List Int} (hn : a.Nodup) (h : ∀ x ∈ a, x ∈ b) : a.length ≤ b.length := nd_le hn h
theorem kv_perm {a b : List (Int × D)} (ha : (a.map (·.1)).Nodup) (hb : (b.map (·.1)).Nodup) (h : ∀ k, kvGet k a = kvGet k b) : a.Perm b := by
  have nd : ∀ {c : List (Int × D)}, (c.map (·.1)).Nodup → c.Nodup := fun {c} hc => (List.pairwise_map.1 hc).imp fun {x y} hxy e => hxy (by rw [e])
  refine (List.perm_ext_iff_of_nodup (nd ha) (nd hb)).2 fun p => ?_
  obtain ⟨k, d⟩ := p
  rw [← kvGet_mem ha, ← kvGet_mem hb, h k]
theorem l_copy (kv : List (Int × D)) (hkn : (kv.map (·.1)).Nodup) (hki : ∀ k d, (k, d) ∈ kv → ∃ v, d = .int .i64 v) (es : Array MapEntry) (cl : Nat) (p q it : Nat) (h1 : p ≠ it) (h2 : q ≠ it) (h3 : p ≠ q) (v1 v2 v3 v4 : D) : ∀ (n : Nat) (ks : List Int), kv.length - ks.length ≤ n → ks.Nodup → (∀ k ∈ ks, k ∈ kv.map (·.1)) → ∀ (kv1 : List (Int × D)), (kv1.map (·.1)).Nodup → (∀ k, kvGet k kv1 = if k ∈ ks then kvGet k kv else none) →
    ∀ (ρ : Nat → D) (st : Store), st.lim ≤ q → st.lim ≤ it → st.boxes p = some (.mapE kv es cl) → st.boxes q = some (.map kv1) → st.boxes it = some (.iter p es cl ks) → ρ 0 = .map p → ρ 1 = v1 → ρ 2 = v2 → ρ 3 = v3 → ρ 4 = v4 → ρ 11 = .map q → ρ 22 = .ptr it 0 → ∀ (Q : X → (Nat → D) → Store → Prop),
    (∀ ρ' st' kv', kv'.Perm kv → st'.next = st.next → st'.lim = st.lim → st'.tlim = st.tlim → st'.toks = st.toks → st'.ntok = st.ntok → st'.boxes p = some (.mapE kv es cl) → st'.boxes q = some (.map kv') → (∀ r, r ≠ q → r ≠ it → st'.boxes r = st.boxes r) → ρ' 0 = .map p → ρ' 1 = v1 → ρ' 2 = v2 → ρ' 3 = v3 → ρ' 4 = v4 → ρ' 11 = .map q → Q (.exit 0) ρ' st') → Sm.WC Γ (.loop c_late_times_step_l0) ρ st Q := by
  intro n
  induction n with
  | zero =>
    intro ks hn hks hsub kv1 hnd hg ρ st hl1 hl2 hbp hbq hbi k0 k1 k2 k3 k4 k11 k22 Q hQ
    have hall : ∀ k d, (k, d) ∈ kv → k ∈ ks := fun k d hkd => by
      refine Classical.byContradiction fun hk => ?_
      have hnn : (k :: ks).Nodup := List.nodup_cons.2 ⟨hk, hks⟩
      have := sub_len hnn (b := kv.map (·.1)) (fun x hx => by
        rcases List.mem_cons.1 hx with rfl | hx
        · exact List.mem_map_of_mem (f := (·.1)) hkd
        · exact hsub x hx)
      simp at this
      omega
    rw [← upd_self k0, ← upd_self k1, ← upd_self k2, ← upd_self k3, ← upd_self k4, ← upd_self k11, ← upd_self k22]
    refine Sm.WC_loop (Sm.WC_seq (Sm.WC_opsS ?_))
    refine Sm.WS_next (f0 := .f) rfl rfl rfl hbi hbp hl2 (fun _ => ?_) (fun k d hkd hk => absurd (hall k d hkd) hk)
    refine Sm.WS_op (d := .bool false) rfl rfl rfl ?_
    refine Sm.WS_nil ?_
    refine Sm.WC_seq (Sm.WC_cond (t := false) rfl ?_)
    refine Sm.WC_exit ?_
    refine hQ _ st kv1 (kv_perm hnd hkn fun k => ?_) rfl rfl rfl rfl rfl hbp hbq (fun _ _ _ => rfl) rfl rfl rfl rfl rfl rfl
    rw [hg k]
    split
    · rfl
    · rename_i hk
      cases hgk : kvGet k kv with
      | none => rfl
      | some d => exact absurd (hall k d ((kvGet_mem hkn).1 hgk)) hk
  | succ n ih =>
    intro ks hn hks hsub kv1 hnd hg ρ st hl1 hl2 hbp hbq hbi k0 k1 k2 k3 k4 k11 k22 Q hQ
    rw [← upd_self k0, ← upd_self k1, ← upd_self k2, ← upd_self k3, ← upd_self k4, ← upd_self k11, ← upd_self k22]
    refine Sm.WC_loop (Sm.WC_seq (Sm.WC_opsS ?_))
    refine Sm.WS_next (f0 := .f) rfl rfl rfl hbi hbp hl2 (fun hall => ?_) (fun k d hkd hk => ?_)
    · refine Sm.WS_op (d := .bool false) rfl rfl rfl ?_
      refine Sm.WS_nil ?_
      refine Sm.WC_seq (Sm.WC_cond (t := false) rfl ?_)
      refine Sm.WC_exit ?_
      refine hQ _ st kv1 (kv_perm hnd hkn fun k => ?_) rfl rfl rfl rfl rfl hbp hbq (fun _ _ _ => rfl) rfl rfl rfl rfl rfl rfl
      rw [hg k]
      split
      · rfl
      · rename_i hk
        cases hgk : kvGet k kv with
        | none => rfl
        | some d => exact absurd (hall k d ((kvGet_mem hkn).1 hgk)) hk
    · obtain ⟨v, rfl⟩ := hki k d hkd
      refine Sm.WS_op (d := .bool true) rfl rfl rfl ?_
      refine Sm.WS_nil ?_
      refine Sm.WC_seq (Sm.WC_cond (t := true) rfl ?_)
      refine Sm.WC_skip ?_
      refine Sm.WC_block ?_
      refine Sm.WC_seq (Sm.WC_opsS ?_)
      refine Sm.WS_entry (f0 := .f) rfl rfl rfl (upd_same _ _ _) ((upd_ne _ _ h1).trans hbp) hkd ?_
      refine Sm.WS_ev ?_
      repeat' (first
 | (refine I_WS ?_; first
 | (refine I_mov ?_; first
 | refine W_mov (v := .int _ _) rfl rfl rfl ?_)
 | (refine I_extract ?_; first
 | refine W_extract (d := .int _ _) rfl rfl rfl rfl ?_)
 | refine WS_nil ?_))
      refine Sm.WC_ev rfl ?_
      repeat' (first
 | (refine I_WS ?_; first
 | refine W_mapset (v := .int .i64 v) rfl rfl rfl ((upd_ne _ _ h2).trans hbq) hl1 rfl rfl ?_
 | (refine I_mov ?_; first
 | refine W_mov (v := .int _ _) rfl rfl rfl ?_
 | refine W_mov (v := .map _) rfl rfl rfl ?_)
 | refine WS_nil ?_)
 | refine WC_opsS ?_)
      have hkk : k ∈ kv.map (·.1) := List.mem_map_of_mem (f := (·.1)) hkd
      have hl := sub_len (List.nodup_cons.2 ⟨hk, hks⟩) (b := kv.map (·.1)) (fun x hx => by
        rcases List.mem_cons.1 hx with rfl | hx
        · exact hkk
        · exact hsub x hx)
      simp only [List.length_cons, List.length_map] at hl
      refine ih (k :: ks) (by simp only [List.length_cons]; omega) (List.nodup_cons.2 ⟨hk, hks⟩) (fun x hx => by
        rcases List.mem_cons.1 hx with rfl | hx
        · exact hkk
        · exact hsub x hx) (kvSet k (.int .i64 v) kv1) (kvSet_keys _ _ hnd) (fun m => ?_) _ _ ?_ ?_ ?_ ?_ ?_ ?_ ?_ ?_ ?_ ?_ ?_ ?_ Q (fun ρ' st' kv' g1 g2 g3 g4 g5 g6 g7 g8 g9 => hQ ρ' st' kv' g1 g2 g3 g4 g5 g6 g7 g8 (fun r hr1 hr2 => (g9 r hr1 hr2).trans ?_))
      · rw [kvGet_set]
        by_cases e : m = k
        · subst e
          rw [if_pos rfl, if_pos (List.mem_cons_self), (kvGet_mem hkn).2 hkd]
        · rw [if_neg e, hg m]
          simp only [List.mem_cons, e, false_or]
      · exact hl1
      · exact hl2
      · exact (upd_ne _ _ h3).trans ((upd_ne _ _ h1).trans hbp)
      · exact upd_same _ _ _
      · exact (upd_ne _ _ (Ne.symm h2)).trans (upd_same _ _ _)
      all_goals first | rfl | skip
      exact (upd_ne _ _ hr1).trans (upd_ne _ _ hr2)
theorem w_step (l : List Eg) (hll : l.length ≤ 1000000) (to sz : Int) (shut : List Int) (hsl : shut.length ≤ 1000000) (t t' : Tok) (s s' : Nat) (hs : s = 8 ∨ l = []) (hs' : s' = 1 ∨ shut = []) (M : List Rd) (hM : (M.map Rd.node).Nodup) (st : Store) (p : Nat) (hp : p < st.next) (hlp : st.lim ≤ p) (hbp : st.boxes p = some (.map (kvOf M))) (hno : ∀ l, st.next ≤ l → st.boxes l = none) (es : Array MapEntry) (cl : Nat) :
    Sm.WC Γ c_late_times_step.body (enter [.map p, .slice t s (l.map Eg.e), .int .i64 to, .int .i64 sz, .slice t' s' (shut.map (D.int .i64))]) { st with boxes := upd st.boxes p (some (.mapE (kvOf M) es cl)) }
      (fun x ρ1 s1 => (x = .normal ∨ x = .ret) ∧ resAll ρ1 s1 c_late_times_step.res = some (.map st.next) ∧ ∃ kv', kv'.Perm (kvOf (stepL to sz shut l M)) ∧ s1.boxes st.next = some (.map kv') ∧ (∀ r, r < st.next → r ≠ p → s1.boxes r = st.boxes r) ∧ s1.boxes p = some (.map (kvOf M)) ∧ s1.next = st.next + 2 + l.length ∧ s1.lim = st.lim ∧ s1.tlim = st.tlim ∧ s1.toks = st.toks ∧ s1.ntok = st.ntok) := by
  have hkn : ((kvOf M).map (·.1)).Nodup := by rw [kvOf_keys]; exact hM
  have hll1 : st.lim ≤ st.next := by omega
  refine Sm.WC_seq ?_
  refine Sm.WC_ev rfl ?_
  repeat' (first
 | (refine I_WS ?_; first
 | refine W_mov (v := .nilmap) rfl rfl rfl ?_
 | refine WS_nil ?_)
 | refine WC_opsS ?_)
  refine Sm.WC_seq ?_
  refine Sm.WC_ev rfl ?_
  repeat' (first
 | (refine I_WS ?_; first
 | (refine I_mov ?_; first
 | refine W_mov (v := .map _) rfl rfl rfl ?_)
 | refine W_mkmap rfl rfl ?_
 | refine WS_nil ?_)
 | refine WC_opsS ?_)
  refine Sm.WC_seq (Sm.WC_seq ?_)
  refine Sm.WC_opsS ?_
  refine Sm.WS_op (d := .map p) rfl rfl rfl ?_
  refine Sm.WS_range (f0 := .f) (m := p) (kv := kvOf M) (es := es) (cl := cl) rfl rfl rfl ?_ ?_
  · exact (upd_ne _ _ (Nat.ne_of_lt hp)).trans (upd_same _ _ _)
  refine Sm.WS_nil ?_
  refine Sm.WC_block ?_
  refine l_copy (kvOf M) hkn (fun k d h => by
    obtain ⟨r, _, e⟩ := List.mem_map.1 h
    cases e
    exact ⟨_, rfl⟩) es cl p st.next (st.next + 1) (by omega) (by omega) (by omega) (.slice t s (l.map Eg.e)) (.int .i64 to) (.int .i64 sz) (.slice t' s' (shut.map (D.int .i64))) (kvOf M).length [] (by simp) (by simp) (by simp) [] (by simp) (by simp [kvGet]) _ _ ?_ ?_ ?_ ?_ ?_ ?_ ?_ ?_ ?_ ?_ ?_ ?_ _ (fun ρ' st' kv' g1 g2 g3 g4 g5 g6 g7 g8 g9 k0 k1 k2 k3 k4 k11 => ?_)
  · exact hll1
  · exact Nat.le_succ_of_le hll1
  · exact (upd_ne _ _ (show p ≠ st.next + 1 by omega)).trans ((upd_ne _ _ (show p ≠ st.next by omega)).trans (upd_same _ _ _))
  · exact (upd_ne _ _ (show st.next ≠ st.next + 1 by omega)).trans (upd_same _ _ _)
  · exact upd_same _ _ _
  all_goals first | rfl | skip
  have g2' : st'.next = st.next + 2 := g2
  have g3' : st'.lim = st.lim := g3
  have g9' : ∀ r, r < st.next → r ≠ p → st'.boxes r = st.boxes r := fun r hr hrp => (g9 r (by omega) (by omega)).trans ((upd_ne _ _ (show r ≠ st.next + 1 by omega)).trans ((upd_ne _ _ (show r ≠ st.next by omega)).trans (upd_ne _ _ hrp)))
  refine Sm.WC_unE (c := .seq _ _) rfl g7 (by rw [g3']; exact hlp) ?_
  refine Sm.WC_ev rfl ?_
  rw [← upd_self k0, ← upd_self k1, ← upd_self k2, ← upd_self k3, ← upd_self k4, ← upd_self k11]
  repeat' (first
 | (refine I_WS ?_; first
 | refine W_lenM rfl rfl rfl ?_
 | (refine I_mov ?_; first
 | refine W_mov (v := .int _ _) rfl rfl rfl ?_
 | refine W_mov (v := .slice _ _ _) rfl rfl rfl ?_)
 | refine WS_nil ?_)
 | refine WC_seq ?_
 | refine WC_opsS ?_
 | refine WC_block ?_)
  refine l_edge l hll to sz shut hsl t t' s s' hs hs' M p st.next (by omega) l [] rfl M kv' g1 hM _ _ ?_ ?_ ?_ ?_ ?_ ?_ ?_ ?_ ?_ ?_ ?_ ?_ ?_ ?_ _ (fun ρ2 st2 kv2 f1 f2 f3 f4 f5 f6 f7 f8 f9 => ?_)
  · show st'.lim ≤ p
    rw [g3']; exact hlp
  · show st'.lim ≤ st.next
    rw [g3']; exact hll1
  · show p < st'.next
    omega
  · show st.next < st'.next
    omega
  · exact upd_same _ _ _
  · exact (upd_ne _ _ (by omega)).trans g8
  all_goals first | rfl | skip
  rw [← upd_self f9]
  repeat' (first
 | (refine I_WS ?_; first
 | (refine I_mov ?_; first
 | refine W_mov (v := .map _) rfl rfl rfl ?_)
 | refine WS_nil ?_)
 | refine WC_seq ?_
 | refine WC_opsS ?_
 | refine WC_ret ?_)
  refine ⟨.inr rfl, rfl, kv2, f1, f7, fun r hr hrp => ?_, ?_, ?_, f3.trans g3, f4.trans g4, f5.trans g5, f6.trans g6⟩
  · rw [f8 r (by show r < st'.next; omega) (by omega)]
    exact (upd_ne _ _ hrp).trans (g9' r hr hrp)
  · rw [f8 p (by show p < st'.next; omega) (by omega)]
    exact upd_same _ _ _
  · rw [f2]
    show st'.next + l.length = _
    rw [g2']
end Go.Lea
/-
  Times by nodes, out of a map.
-/
namespace Go.Lea
open Go.Ev
section
variable {Γ : Nat → Option FD} {ρ : Nat → D} {st : Store} {dr : Bool} {R : (Nat → D) → Store → List Fl → Prop} {l : List Op1} {g : Option (Nat × Bool)} {mv : Bool} {k : Nat} {x y : A}
theorem W_app1 {s0 : Nat} {t : Tok} {r : Rd} (hg : guardV ρ g = some true) (hx : x.ev ρ = .slice .isnil s0 []) (hy : y.ev ρ = .slice t 2 [r.e]) (hm : mv = true)
    (h : WS Γ dr l (upd ρ k (.rs st.next 0 2 1 1)) { st with boxes := upd st.boxes st.next (some (.row r.e.cells)), next := st.next + 1 } (nx .f R)) : WS Γ dr (⟨some k, g, mv, .append 2 16 x y⟩ :: l) ρ st R := by
  subst hm
  refine WS_op (d := .rs st.next 0 2 1 1) hg rfl ?_ h
  simp [O.runM, hx, hy, appendN, moreD]
theorem W_app2 {p n : Nat} {cs : List D} {t : Tok} {r : Rd} (hg : guardV ρ g = some true) (hx : x.ev ρ = .rs p 0 2 n n) (hy : y.ev ρ = .slice t 2 [r.e]) (hb : st.boxes p = some (.row cs)) (hc : cs.length = n * 2) (hl : st.lim ≤ p) (hn : n ≤ 1000000) (hm : mv = true)
    (h : WS Γ dr l (upd ρ k (.rs st.next 0 2 (n + 1) (n + 1))) { st with boxes := upd (upd st.boxes p none) st.next (some (.row (cs ++ r.e.cells))), next := st.next + 1 } (nx .f R)) : WS Γ dr (⟨some k, g, mv, .append 2 16 x y⟩ :: l) ρ st R := by
  subst hm
  refine WS_op (d := .rs st.next 0 2 (n + 1) (n + 1)) hg rfl ?_ h
  simp only [O.runM, hx, hy, appendN, moreD, appendR]
  simp [hb, hc, hl]
  rw [if_neg (by omega), if_pos (by omega), List.take_of_length_le (by omega)]
end
theorem rd_pw : ∀ {l m : List Rd}, l.Perm m → (l.Pairwise fun a b => a.node ≤ b.node) → (m.Pairwise fun a b => a.node < b.node) → l = m
  | [], m, h, _, _ => (List.Perm.nil_eq h)
  | a :: l, [], h, _, _ => by have := h.length_eq; simp at this
  | a :: l, b :: m, h, hl, hm => by
    have hl' := List.pairwise_cons.mp hl
    have hm' := List.pairwise_cons.mp hm
    have e : a = b := by
      have h1 : a ∈ b :: m := h.mem_iff.mp List.mem_cons_self
      have h2 : b ∈ a :: l := h.mem_iff.mpr List.mem_cons_self
      rcases List.mem_cons.mp h1 with h1 | h1
      · exact h1
      rcases List.mem_cons.mp h2 with h2 | h2
      · exact h2.symm
      have e1 := hm'.1 a h1
      have e2 := hl'.1 b h2
      omega
    subst e
    rw [rd_pw ((List.perm_cons a).mp h) hl'.2 hm'.2]
theorem srt_uniqR {L M : List Rd} (h : L.Perm M) (hn : (M.map Rd.node).Nodup) : srtK Rd.node L = srtK Rd.node M := by
  have h2 : ((srtK Rd.node M).map Rd.node).Nodup := ((srtK_perm Rd.node M).map _).nodup_iff.2 hn
  exact rd_pw ((srtK_perm _ L).trans (h.trans (srtK_perm _ M).symm)) (srtK_sorted _ L) (pw_lt (srtK_sorted _ M) h2)
def cellsOf (L : List Rd) : List D := (L.map Rd.e).flatMap D.cells
theorem cells_len (L : List Rd) : (cellsOf L).length = L.length * 2 := by
  unfold cellsOf
  rw [flatMap_len el2, List.length_map]
theorem cells_snoc (L : List Rd) (r : Rd) : cellsOf (L ++ [r]) = cellsOf L ++ r.e.cells := by simp [cellsOf]
def Γr : Nat → Option FD
  | 45 => some (.primS (sortF 2 0 101))
  | _ => none
theorem sort_run (L : List Rd) (hn : (L.map Rd.node).Nodup) (hlen : L.length ≤ 1000000) (st : Store) (p : Nat) (hl : st.lim ≤ p) (hb : st.boxes p = some (.row (cellsOf L))) :
    EvRW Γr 45 [.rs p 0 2 L.length L.length, .func 101 []] st (.tuple []) { st with boxes := upd st.boxes p (some (.row (cellsOf (srtK Rd.node L)))) } := by
  refine EvRW_primS (F := sortF 2 0 101) rfl ?_
  have e1 : sortI 0 (L.map Rd.row) = (srtK Rd.node L).map Rd.row := by rw [sortI_eq, srtK_map]; rfl
  have e2 : ((srtK Rd.node L).map Rd.row).flatMap (fun x => x.map (D.int .i64)) = cellsOf (srtK Rd.node L) := by
    unfold cellsOf
    rw [List.flatMap_map, List.flatMap_map]; rfl
  have e3 : (cellsOf L).take (L.length * 2) = (L.flatMap Rd.row).map (D.int .i64) := by
    rw [List.take_of_length_le (by rw [cells_len]; exact Nat.le_refl _)]
    exact flat_cells L
  have e4 : (cellsOf L).drop (L.length * 2) = [] := List.drop_of_length_le (by rw [cells_len]; exact Nat.le_refl _)
  show sortF 2 0 101 [.rs p 0 2 L.length L.length, .func 101 []] st = _
  simp only [sortF, hb, e3, e4, intsOf_map, rowsI_flat, e1, e2, List.append_nil]
  rw [if_pos ⟨trivial, trivial, trivial, hl, by rw [cells_len]; exact Nat.le_refl _, by omega, by
    rw [List.map_map]
    exact diffB_of _ hn⟩]
def outD (it : Nat) (L : List Rd) : D := if L = [] then .slice .isnil 0 [] else .rs (it + L.length) 0 2 L.length L.length
set_option maxHeartbeats 1000000 in
theorem l_app (M : List Rd) (hM : (M.map Rd.node).Nodup) (hMl : M.length ≤ 1000000) (es : Array MapEntry) (cl : Nat) (p it : Nat) (h1 : p < it) (b0 : Nat → Option Box) (tk : Nat → Bool) (ntk lm tl : Nat) (hlm : lm ≤ it) (hbp : b0 p = some (.mapE (kvOf M) es cl)) : ∀ (n : Nat) (L : List Rd), M.length - L.length ≤ n → (L.map Rd.node).Nodup → (∀ r ∈ L, r ∈ M) →
    ∀ (ρ : Nat → D) (bx : Nat → Option Box), (∀ r, r < it → bx r = b0 r) → bx it = some (.iter p es cl (L.map Rd.node).reverse) → (L ≠ [] → bx (it + L.length) = some (.row (cellsOf L))) → ρ 0 = .map p → ρ 2 = outD it L → ρ 6 = .ptr it 0 → ∀ (Q : X → (Nat → D) → Store → Prop),
    (∀ ρ' bx' L', L'.Perm M → (∀ r, r < it → bx' r = b0 r) → (L' ≠ [] → bx' (it + L'.length) = some (.row (cellsOf L'))) → ρ' 2 = outD it L' → Q (.exit 0) ρ' ⟨bx', it + L'.length + 1, tk, ntk, lm, tl⟩) → Sm.WC Γr (.loop c_late_times_row_l0) ρ ⟨bx, it + L.length + 1, tk, ntk, lm, tl⟩ Q := by
  intro n
  have fin : ∀ L : List Rd, (L.map Rd.node).Nodup → (∀ r ∈ L, r ∈ M) → (∀ k d, (k, d) ∈ kvOf M → k ∈ (L.map Rd.node).reverse) → L.Perm M := fun L hL hs hall => by
    have nd : ∀ {c : List Rd}, (c.map Rd.node).Nodup → c.Nodup := fun {c} hc => (List.pairwise_map.1 hc).imp fun {x y} hxy e => hxy (by rw [e])
    refine (List.perm_ext_iff_of_nodup (nd hL) (nd hM)).2 fun r => ⟨hs r, fun hr => ?_⟩
    have h := hall r.node (.int .i64 r.at') (List.mem_map.2 ⟨r, hr, rfl⟩)
    rw [List.mem_reverse] at h
    obtain ⟨r', hr', e⟩ := List.mem_map.1 h
    have a1 := atN_of hM (hs r' hr')
    rw [e, atN_of hM hr] at a1
    have : r' = r := by
      obtain ⟨a, b⟩ := r
      obtain ⟨a', b'⟩ := r'
      simp at e a1
      rw [e, a1]
    rw [← this]
    exact hr'
  have stop : ∀ (L : List Rd) (hL : (L.map Rd.node).Nodup) (hs : ∀ r ∈ L, r ∈ M) (ρ : Nat → D) (bx : Nat → Option Box), (∀ r, r < it → bx r = b0 r) → bx it = some (.iter p es cl (L.map Rd.node).reverse) → (L ≠ [] → bx (it + L.length) = some (.row (cellsOf L))) → ρ 2 = outD it L → ∀ (Q : X → (Nat → D) → Store → Prop), (∀ ρ' bx' L', L'.Perm M → (∀ r, r < it → bx' r = b0 r) → (L' ≠ [] → bx' (it + L'.length) = some (.row (cellsOf L'))) → ρ' 2 = outD it L' → Q (.exit 0) ρ' ⟨bx', it + L'.length + 1, tk, ntk, lm, tl⟩) →
      (∀ k d, (k, d) ∈ kvOf M → k ∈ (L.map Rd.node).reverse) → ∀ ρ' : Nat → D, ρ' 2 = outD it L → Q (.exit 0) ρ' ⟨bx, it + L.length + 1, tk, ntk, lm, tl⟩ := fun L hL hs ρ bx hb1 hb2 hb3 k2 Q hQ hall ρ' k2' => hQ ρ' bx L (fin L hL hs hall) hb1 hb3 k2'
  induction n with
  | zero =>
    intro L hn hL hs ρ bx hb1 hb2 hb3 k0 k2 k6 Q hQ
    have hall : ∀ k d, (k, d) ∈ kvOf M → k ∈ (L.map Rd.node).reverse := fun k d hkd => by
      refine Classical.byContradiction fun hk => ?_
      rw [List.mem_reverse] at hk
      have hnn : (k :: L.map Rd.node).Nodup := List.nodup_cons.2 ⟨hk, hL⟩
      have := sub_len hnn (b := M.map Rd.node) (fun x hx => by
        rcases List.mem_cons.1 hx with rfl | hx
        · obtain ⟨r, hr, e⟩ := List.mem_map.1 hkd
          cases e
          exact List.mem_map_of_mem hr
        · obtain ⟨r, hr, e⟩ := List.mem_map.1 hx
          rw [← e]
          exact List.mem_map_of_mem (hs r hr))
      simp at this
      omega
    have hst := stop L hL hs ρ bx hb1 hb2 hb3 k2 Q hQ hall
    rw [← upd_self k0, ← upd_self k2, ← upd_self k6]
    refine Sm.WC_loop (Sm.WC_seq (Sm.WC_opsS ?_))
    refine Sm.WS_next (f0 := .f) (m := p) (kv := kvOf M) rfl rfl rfl hb2 ((hb1 p h1).trans hbp) hlm (fun _ => ?_) (fun k d hkd hk => absurd (hall k d hkd) hk)
    refine Sm.WS_op (d := .bool false) rfl rfl rfl ?_
    refine Sm.WS_nil ?_
    refine Sm.WC_seq (Sm.WC_cond (t := false) rfl ?_)
    refine Sm.WC_exit ?_
    exact hst _ rfl
  | succ n ih =>
    intro L hn hL hs ρ bx hb1 hb2 hb3 k0 k2 k6 Q hQ
    have hst := stop L hL hs ρ bx hb1 hb2 hb3 k2 Q hQ
    rw [← upd_self k0, ← upd_self k2, ← upd_self k6]
    refine Sm.WC_loop (Sm.WC_seq (Sm.WC_opsS ?_))
    refine Sm.WS_next (f0 := .f) (m := p) (kv := kvOf M) rfl rfl rfl hb2 ((hb1 p h1).trans hbp) hlm (fun hall => ?_) (fun k d hkd hk => ?_)
    · refine Sm.WS_op (d := .bool false) rfl rfl rfl ?_
      refine Sm.WS_nil ?_
      refine Sm.WC_seq (Sm.WC_cond (t := false) rfl ?_)
      refine Sm.WC_exit ?_
      exact hst hall _ rfl
    · obtain ⟨r, hr, e⟩ := List.mem_map.1 hkd
      cases e
      have hk' : r.node ∉ L.map Rd.node := fun h => hk (List.mem_reverse.2 h)
      have hL2 : ((L ++ [r]).map Rd.node).Nodup := by
        rw [List.map_append, List.nodup_append]
        refine ⟨hL, by simp, fun a ha b hb e => ?_⟩
        simp at hb
        subst hb e
        exact hk' ha
      have hs2 : ∀ r' ∈ L ++ [r], r' ∈ M := fun r' h => by
        rcases List.mem_append.1 h with h | h
        · exact hs r' h
        · rw [List.mem_singleton.1 h]; exact hr
      have hlen := sub_len hL2 (b := M.map Rd.node) (fun x hx => by
        obtain ⟨r', h, e⟩ := List.mem_map.1 hx
        rw [← e]
        exact List.mem_map_of_mem (hs2 r' h))
      simp only [List.length_map, List.length_append, List.length_cons, List.length_nil] at hlen
      have hrev : ((L ++ [r]).map Rd.node).reverse = r.node :: (L.map Rd.node).reverse := by simp
      have hnext : ∀ (ρ' : Nat → D) (bx' : Nat → Option Box), (∀ r, r < it → bx' r = b0 r) → bx' it = some (.iter p es cl (r.node :: (L.map Rd.node).reverse)) → bx' (it + (L.length + 1)) = some (.row (cellsOf L ++ r.e.cells)) → ρ' 0 = .map p → ρ' 2 = .rs (it + (L.length + 1)) 0 2 (L.length + 1) (L.length + 1) → ρ' 6 = .ptr it 0 → Sm.WC Γr (.loop c_late_times_row_l0) ρ' ⟨bx', it + (L.length + 1) + 1, tk, ntk, lm, tl⟩ Q := fun ρ' bx' e1 e2 e3 j0 j2 j6 => by
        have := ih (L ++ [r]) (by simp; omega) hL2 hs2 ρ' bx' e1 (by rw [hrev]; exact e2) (fun _ => by rw [cells_snoc, List.length_append]; exact e3) j0 (by unfold outD; rw [if_neg (by simp), List.length_append]; exact j2) j6 Q hQ
        rw [List.length_append] at this
        exact this
      clear ih hQ hst stop fin
      refine Sm.WS_op (d := .bool true) rfl rfl rfl ?_
      refine Sm.WS_nil ?_
      refine Sm.WC_seq (Sm.WC_cond (t := true) rfl ?_)
      refine Sm.WC_skip ?_
      refine Sm.WC_block ?_
      refine Sm.WC_seq (Sm.WC_opsS ?_)
      refine Sm.WS_entry (f0 := .f) (m := p) (kv := kvOf M) rfl rfl rfl (upd_same _ _ _) ((upd_ne _ _ (Nat.ne_of_lt h1)).trans ((hb1 p h1).trans hbp)) hkd ?_
      refine Sm.WS_ev ?_
      repeat' (first
 | (refine I_WS ?_; first
 | (refine I_mov ?_; first
 | refine W_mov (v := .int _ _) rfl rfl rfl ?_)
 | (refine I_extract ?_; first
 | refine W_extract (d := .int _ _) rfl rfl rfl rfl ?_)
 | refine WS_nil ?_))
      refine Sm.WC_ev rfl ?_
      by_cases h0 : L = []
      · subst h0
        have hk2 : outD it [] = .slice .isnil 0 [] := rfl
        rw [hk2]
        repeat' (first
 | (refine I_WS ?_; first
 | refine W_app1 (r := r) rfl rfl rfl rfl ?_
 | (refine I_mov ?_; first
 | refine W_mov (v := .int _ _) rfl rfl rfl ?_
 | refine W_mov (v := .slice _ _ _) rfl rfl rfl ?_
 | refine W_mov (v := .rs _ _ _ _ _) rfl rfl rfl ?_)
 | (refine I_build ?_; first
 | refine W_build (cs := [_, _]) rfl rfl rfl ?_)
 | refine W_bslice (ys := [_]) rfl rfl rfl (by decide) rfl ?_
 | refine WS_nil ?_)
 | refine WC_opsS ?_)
        refine hnext _ _ (fun q hq => ?_) ?_ ?_ ?_ ?_ ?_
        · exact (upd_ne _ _ (show q ≠ it + 0 + 1 by omega)).trans ((upd_ne _ _ (show q ≠ it by omega)).trans (hb1 q hq))
        · exact (upd_ne _ _ (show it ≠ it + 0 + 1 by omega)).trans (upd_same _ _ _)
        · exact upd_same _ _ _
        all_goals rfl
      · have hk2 : outD it L = .rs (it + L.length) 0 2 L.length L.length := if_neg h0
        have hLp : 0 < L.length := List.length_pos_iff.2 h0
        rw [hk2]
        have hbr : upd bx it (some (.iter p es cl (r.node :: (L.map Rd.node).reverse))) (it + L.length) = some (.row (cellsOf L)) := (upd_ne _ _ (by omega)).trans (hb3 h0)
        have hcl := cells_len L
        have hLM : L.length ≤ 1000000 := by omega
        have hl2 : lm ≤ it + L.length := by omega
        repeat' (first
 | (refine I_WS ?_; first
 | refine W_app2 (r := r) rfl rfl rfl hbr hcl hl2 hLM rfl ?_
 | (refine I_mov ?_; first
 | refine W_mov (v := .int _ _) rfl rfl rfl ?_
 | refine W_mov (v := .rs _ _ _ _ _) rfl rfl rfl ?_)
 | (refine I_build ?_; first
 | refine W_build (cs := [_, _]) rfl rfl rfl ?_)
 | refine W_bslice (ys := [_]) rfl rfl rfl (by decide) rfl ?_
 | refine WS_nil ?_)
 | refine WC_opsS ?_)
        refine hnext _ _ (fun q hq => ?_) ?_ ?_ ?_ ?_ ?_
        · exact (upd_ne _ _ (show q ≠ it + L.length + 1 by omega)).trans ((upd_ne _ _ (show q ≠ it + L.length by omega)).trans ((upd_ne _ _ (show q ≠ it by omega)).trans (hb1 q hq)))
        · exact (upd_ne _ _ (show it ≠ it + L.length + 1 by omega)).trans ((upd_ne _ _ (show it ≠ it + L.length by omega)).trans (upd_same _ _ _))
        · exact upd_same _ _ _
        all_goals rfl
theorem w_row (M : List Rd) (hM : (M.map Rd.node).Nodup) (h0 : 0 < M.length) (hMl : M.length ≤ 1000000) (st : Store) (p : Nat) (hp : p < st.next) (hlp : st.lim ≤ p) (hbp : st.boxes p = some (.map (kvOf M))) (es : Array MapEntry) (cl : Nat) :
    Sm.WC Γr c_late_times_row.body (enter [.map p]) { st with boxes := upd st.boxes p (some (.mapE (kvOf M) es cl)) }
      (fun x ρ1 s1 => (x = .normal ∨ x = .ret) ∧ resAll ρ1 s1 c_late_times_row.res = some (.rs (st.next + M.length) 0 2 M.length M.length) ∧ s1.boxes (st.next + M.length) = some (.row (cellsOf (srtK Rd.node M))) ∧ (∀ r, r < st.next → r ≠ p → s1.boxes r = st.boxes r) ∧ s1.boxes p = some (.mapE (kvOf M) es cl) ∧ s1.next = st.next + M.length + 1 ∧ s1.lim = st.lim ∧ s1.tlim = st.tlim ∧ s1.toks = st.toks ∧ s1.ntok = st.ntok) := by
  obtain ⟨bx, nx0, tk, ntk, lm, tl⟩ := st
  have hp : p < nx0 := hp
  have hlp : lm ≤ p := hlp
  refine Sm.WC_seq ?_
  refine Sm.WC_ev rfl ?_
  repeat' (first
 | (refine I_WS ?_; first
 | (refine I_mov ?_; first
 | refine W_mov (v := .slice _ _ _) rfl rfl rfl ?_)
 | refine WS_nil ?_)
 | refine WC_opsS ?_)
  refine Sm.WC_seq (Sm.WC_seq ?_)
  refine Sm.WC_opsS ?_
  refine Sm.WS_op (d := .map p) rfl rfl rfl ?_
  refine Sm.WS_range (f0 := .f) (m := p) (kv := kvOf M) (es := es) (cl := cl) rfl rfl rfl (upd_same _ _ _) ?_
  refine Sm.WS_nil ?_
  refine Sm.WC_block ?_
  refine l_app M hM hMl es cl p nx0 hp (upd bx p (some (.mapE (kvOf M) es cl))) tk ntk lm tl (by omega) (upd_same _ _ _) M.length [] (by simp) (by simp) (by simp) _ _ (fun r hr => ?_) ?_ (fun h => absurd rfl h) ?_ ?_ ?_ _ (fun ρ' bx' L' g1 g2 g3 k2 => ?_)
  · exact upd_ne _ _ (Nat.ne_of_lt hr)
  · exact upd_same _ _ _
  all_goals first | rfl | skip
  have hl' := g1.length_eq
  have hL0 : L' ≠ [] := fun e => by subst e; simp at hl'; omega
  have hn' : (L'.map Rd.node).Nodup := (g1.map _).nodup_iff.2 hM
  have hS := sort_run L' hn' (by omega) ⟨bx', nx0 + L'.length + 1, tk, ntk, lm, tl⟩ (nx0 + L'.length) (by show lm ≤ _; omega) (g3 hL0)
  have hk2 : outD nx0 L' = .rs (nx0 + L'.length) 0 2 L'.length L'.length := if_neg hL0
  rw [hk2] at k2
  rw [← upd_self k2]
  refine Sm.WC_ev (c := .seq _ _) rfl ?_
  repeat' (first
 | (refine I_WS ?_; first
 | (refine WS_callRW rfl rfl rfl hS ?_)
 | (refine I_mov ?_; first
 | refine W_mov (v := .rs _ _ _ _ _) rfl rfl rfl ?_)
 | refine WS_nil ?_)
 | refine WC_seq ?_
 | refine WC_opsS ?_
 | refine WC_ret ?_)
  rw [srt_uniqR g1 hM]
  refine ⟨.inr rfl, ?_, ?_, fun r hr hrp => ?_, ?_, ?_, rfl, rfl, rfl, rfl⟩
  · rw [← hl']; rfl
  · rw [← hl']; exact upd_same _ _ _
  · have hr : r < nx0 := hr
    exact (upd_ne _ _ (show r ≠ nx0 + L'.length by omega)).trans ((g2 r hr).trans (upd_ne _ _ hrp))
  · exact (upd_ne _ _ (show p ≠ nx0 + L'.length by omega)).trans ((g2 p hp).trans (upd_same _ _ _))
  · rw [← hl']
end Go.Lea
/-
  slices.SortFunc of times by their nodes, with the closure of late's row.
-/
namespace Go.Lea.R
open Go.Ev Go.Lea
set_option maxRecDepth 100000 in
theorem sort_noneR : isU (callP Γs 100 72 [.slice .isnil 0 [], .int .i64 0, .int .i64 0, .int .i64 0, .func 101 []]) = true := by decide +kernel
end Go.Lea.R
namespace Go.Proofs.Ytjcilbnbciclpaa
open Go.ChangeShapes Go.WideShapes Go.ChangeAt Go.RowKit Go.Ev Go.Lea
theorem Try.ntmps_cloR : Try.f101.ntmps = 10 := rfl
namespace R
open Go.Lea.R
set_option maxHeartbeats 1000000 in
theorem closure (x y : Vk 2) (W : World) : Calls Try.prog 101 #[.agg (encV 2 x).toArray, .agg (encV 2 y).toArray] W fun e w' => e = .returned (.int .i64 (Lib.compareInt (kv 0 x) (kv 0 y))) ∧ ∃ q os', w' = Sort.grow (W.drewN q) os' := by
  have hcon := fun W' => AnyG.cmp_Compare_int Try.cmpInt (kv 0 x) (kv 0 y) W'
  change ∀ W', Calls Try.prog 36 _ _ _ at hcon
  obtain ⟨a0, a1, hx⟩ := vec2 x
  obtain ⟨b0, b1, hy⟩ := vec2 y
  have e1 : kv 0 x = a0 := by simp [kv, hx]
  have e2 : kv 0 y = b0 := by simp [kv, hy]
  have e3 : (encV 2 x).toArray = #[.int .i64 a0, .int .i64 a1] := by simp [encV, hx]
  have e4 : (encV 2 y).toArray = #[.int .i64 b0, .int .i64 b1] := by simp [encV, hy]
  rw [e3, e4]
  rw [e1, e2] at hcon ⊢
  clear e1 e2 e3 e4 hx hy
  generalize Lib.compareInt a0 b0 = r at hcon ⊢
  go_enter Try.func101, Try.ntmps_cloR
  go_wp2_with (go_at_call 36; refine (hcon _).mono ?_; rintro e w' ⟨rfl, rfl⟩)
  go_ret
  exact ⟨rfl, 0, _, by rw [Sort.alloc_eq_grow, Sort.alloc_eq_grow, Sort.grow_grow]; rfl⟩
theorem pdq_none (W : World) : Calls Try.prog 72 #[.slice none 0 0, .int .i64 0, .int .i64 0, .int .i64 0, .func (.func 101) #[] #[]] W fun e w' => e = .returned (.tuple #[]) ∧ Below W.heap.size W w' := by
  have hV : VRs W (gOf W) [.slice .isnil 0 [], .int .i64 0, .int .i64 0, .int .i64 0, .func 101 []] (#[.slice none 0 0, .int .i64 0, .int .i64 0, .int .i64 0, .func (.func 101) #[] #[]] : Array Value).toList := by
    refine ⟨rfl, fun j d v hd hv => ?_⟩
    match j with
    | 0 => cases hd; cases hv; exact .slice .isnil 0 [] none 0 0 (fun _ _ => Go.undef) rfl (Nat.le_refl _) ⟨rfl, rfl, rfl⟩ (fun i x h => by simp at h) (fun i x j c h => by simp at h) (fun i x j c h => by simp at h)
    | 1 => cases hd; cases hv; exact .int _ _
    | 2 => cases hd; cases hv; exact .int _ _
    | 3 => cases hd; cases hv; exact .int _ _
    | 4 => cases hd; cases hv; exact .func _ [] #[] rfl (fun j c v h => by simp at h)
    | j + 5 => simp at hd
  obtain ⟨_, hC⟩ := (sound known_s Try.mixed 100).pure_ (isU_eq sort_noneR) (by
    intro d hd
    simp at hd
    rcases hd with rfl | rfl | rfl | rfl | rfl <;> exact ⟨rfl, rfl⟩) (rel_gOf W) hV
  refine hC.mono fun e w' hR => ?_
  obtain ⟨v, rfl, _, hmv⟩ := hR
  obtain ⟨g', hv, hst⟩ := hmv false
  refine ⟨?_, hst.ext.below⟩
  have hv : VR w' g' (.tuple []) v := hv
  cases hv with
  | tuple cs vs hl hvv =>
    have : vs = #[] := by simpa using hl.symm
    rw [this]
set_option maxHeartbeats 1000000 in
theorem sort_nil (W : World) : Calls Try.prog 45 #[.slice none 0 0, .func (.func 101) #[] #[]] W fun e w' => e = .returned (.tuple #[]) ∧ Below W.heap.size W w' := by
  have hl : ∀ W, Calls Try.prog 73 #[.int .u64 0] W fun e w' => e = .returned (.int .i64 0) ∧ w' = W := fun W =>
    Any.bits_Len (SlLaysF0.n15.bits (P := Try.prog) (ρ := Try.sortE_ren) { Try.sortE with }) 0 W (by omega) (by omega)
  have hp := pdq_none
  go_enter Try.func45, Try.ntmps_sort
  go_wp2_with (first | (go_at_call 73; refine (hl _).mono ?_; rintro e w' ⟨rfl, rfl⟩) | (go_at_call 72; refine (hp _).mono ?_; rintro e w' ⟨rfl, hb⟩))
  go_end0
  exact ⟨rfl, hb⟩
theorem sort_known : PrimSOK Try.prog 45 (sortF 2 0 101) := by
  have E : Ev.Enters Try.prog 45 := (compF_inv (show compF Try.prog 45 c_slices_SortFunc_Ready.ro c_slices_SortFunc_Ready.mv = some c_slices_SortFunc_Ready by kernel_rfl)).choose_spec.choose_spec.2.2.1
  have eg : ∀ args w, (callFunc 101 args).run Try.prog w = .ok (.enter 101 args) w := enters_of Try.func101 (by kernel_rfl) rfl
  refine sort_prim (by decide) E (fun blk off cap d w hH hblk hsz => ?_) sort_nil
  exact AnyQ.slices_SortFunc Try.sortE 2 Try.isAgg70 Try.sizeOf70 (encV 2) encV_len (fun x v hv => by
    obtain ⟨n, _, rfl⟩ := List.mem_map.mp hv
    rfl) (fun x y => Lib.compareInt (kv 0 x) (kv 0 y)) swo0 101 #[] blk off cap d w eg (fun _ _ _ _ x y => closure x y _) hH hblk hsz
end R
theorem known_r : Known Try.prog Γr := by
  intro f fd h
  unfold Γr at h
  split at h
  · cases h; exact R.sort_known
  · cases h
end Go.Proofs.Ytjcilbnbciclpaa
/-
  Plain laws of the latest times.
-/
namespace Go.Lea
theorem atN_setR {n v m : Int} : ∀ M : List Rd, atN m (setR n v M) = if m = n then some v else atN m M
  | [] => by
    simp only [setR, atN]
    by_cases h : n = m
    · rw [if_pos h, if_pos h.symm]
    · rw [if_neg h, if_neg (fun e => h e.symm)]
  | r :: M => by
    simp only [setR]
    by_cases hr : r.node = n
    · rw [if_pos hr]
      simp only [atN]
      by_cases h : n = m
      · rw [if_pos h, if_pos h.symm]
      · rw [if_neg h, if_neg (fun e => h e.symm), if_neg (fun e => h (hr.symm.trans e))]
    · rw [if_neg hr]
      simp only [atN]
      rw [atN_setR M]
      by_cases h : r.node = m
      · rw [if_pos h, if_neg (fun e => hr (h.trans e)), if_pos h]
      · rw [if_neg h, if_neg h]
def Le (M N : List Rd) : Prop := ∀ n t, atN n M = some t → ∃ u, atN n N = some u ∧ t ≤ u
theorem Le.refl (M : List Rd) : Le M M := fun n t h => ⟨t, h, Int.le_refl _⟩
theorem Le.trans {M N K : List Rd} (h : Le M N) (k : Le N K) : Le M K := fun n t e => by
  obtain ⟨u, h1, h2⟩ := h n t e
  obtain ⟨v, h3, h4⟩ := k n u h1
  exact ⟨v, h3, by omega⟩
theorem lateR_le {n v : Int} {N : List Rd} : Le N (lateR n v N) := fun m t h => by
  unfold lateR
  split
  · rename_i had ha
    split
    · rename_i hlt
      rw [atN_setR]
      by_cases e : m = n
      · subst e
        rw [ha] at h
        cases h
        rw [if_pos rfl]
        exact ⟨v, rfl, by omega⟩
      · rw [if_neg e]
        exact ⟨t, h, Int.le_refl _⟩
    · exact ⟨t, h, Int.le_refl _⟩
  · rename_i ha
    rw [atN_setR]
    by_cases e : m = n
    · subst e; rw [ha] at h; cases h
    · rw [if_neg e]
      exact ⟨t, h, Int.le_refl _⟩
theorem lateR_at {n v : Int} {N : List Rd} : ∃ u, atN n (lateR n v N) = some u ∧ v ≤ u := by
  unfold lateR
  split
  · rename_i had ha
    split
    · rw [atN_setR, if_pos rfl]
      exact ⟨v, rfl, Int.le_refl _⟩
    · exact ⟨had, ha, by omega⟩
  · rw [atN_setR, if_pos rfl]
    exact ⟨v, rfl, Int.le_refl _⟩
theorem lateR_inv {n v m t : Int} {N : List Rd} (h : atN m (lateR n v N) = some t) : atN m N = some t ∨ m = n ∧ t = v := by
  unfold lateR at h
  split at h
  · split at h
    · rw [atN_setR] at h
      split at h
      · rename_i e; cases h; exact .inr ⟨e, rfl⟩
      · exact .inl h
    · exact .inl h
  · rw [atN_setR] at h
    split at h
    · rename_i e; cases h; exact .inr ⟨e, rfl⟩
    · exact .inl h
section
variable {to sz : Int} {shut : List Int}
def Stp (to sz : Int) (shut : List Int) (e : Eg) (b x : Int) : Prop := e.fr ≠ to ∧ (e.to = to ∨ e.to ∉ shut) ∧ latO e b sz = some x
theorem stepE_le {M N : List Rd} {e : Eg} : Le N (stepE to sz shut M N e) := by
  unfold stepE
  split
  · exact .refl _
  · split
    · exact .refl _
    · split
      · exact .refl _
      · exact lateR_le
theorem stepE_at {M N : List Rd} {e : Eg} {b x : Int} (hb : atN e.to M = some b) (h : Stp to sz shut e b x) : ∃ u, atN e.fr (stepE to sz shut M N e) = some u ∧ x ≤ u := by
  obtain ⟨h1, h2, h3⟩ := h
  have hc : ¬ (e.fr = to ∨ (e.to ≠ to ∧ e.to ∈ shut)) := by
    rintro (h | ⟨ha, hb⟩)
    · exact h1 h
    · rcases h2 with h2 | h2
      · exact ha h2
      · exact h2 hb
  unfold stepE
  simp only [hb, if_neg hc, h3]
  exact lateR_at
theorem stepE_inv {M N : List Rd} {e : Eg} {n t : Int} (h : atN n (stepE to sz shut M N e) = some t) : atN n N = some t ∨ ∃ b, atN e.to M = some b ∧ Stp to sz shut e b t ∧ e.fr = n := by
  unfold stepE at h
  split at h
  · exact .inl h
  · rename_i b hb
    split at h
    · exact .inl h
    · rename_i hc
      split at h
      · exact .inl h
      · rename_i x hx
        rcases lateR_inv h with h | ⟨h1, rfl⟩
        · exact .inl h
        · refine .inr ⟨b, hb, ⟨fun e => hc (.inl e), ?_, hx⟩, h1.symm⟩
          by_cases h2 : e.to = to
          · exact .inl h2
          · exact .inr fun h3 => hc (.inr ⟨h2, h3⟩)
theorem fold_le {M : List Rd} : ∀ (l : List Eg) (N : List Rd), Le N (l.foldl (stepE to sz shut M) N)
  | [], N => .refl _
  | e :: l, N => stepE_le.trans (fold_le l _)
theorem fold_at {M : List Rd} {e : Eg} {b x : Int} (hb : atN e.to M = some b) (h : Stp to sz shut e b x) : ∀ (l : List Eg) (N : List Rd), e ∈ l → ∃ u, atN e.fr (l.foldl (stepE to sz shut M) N) = some u ∧ x ≤ u
  | [], N, he => by cases he
  | e' :: l, N, he => by
    by_cases hee : e = e'
    · subst hee
      obtain ⟨u, h1, h2⟩ := stepE_at (N := N) hb h
      obtain ⟨v, h3, h4⟩ := fold_le (to := to) (sz := sz) (shut := shut) (M := M) l (stepE to sz shut M N e) _ _ h1
      exact ⟨v, h3, by omega⟩
    · exact fold_at hb h l _ (by rcases List.mem_cons.1 he with h | h; exact absurd h hee; exact h)
theorem fold_inv {M : List Rd} {n t : Int} : ∀ (l : List Eg) (N : List Rd), atN n (l.foldl (stepE to sz shut M) N) = some t → atN n N = some t ∨ ∃ e ∈ l, ∃ b, atN e.to M = some b ∧ Stp to sz shut e b t ∧ e.fr = n
  | [], N, h => .inl h
  | e :: l, N, h => by
    rcases fold_inv l _ h with h | ⟨e', he, b, h1, h2, h3⟩
    · rcases stepE_inv h with h | ⟨b, h1, h2, h3⟩
      · exact .inl h
      · exact .inr ⟨e, List.mem_cons_self, b, h1, h2, h3⟩
    · exact .inr ⟨e', List.mem_cons_of_mem _ he, b, h1, h2, h3⟩
/-! ### How late -/
theorem latO_some {e : Eg} {b x : Int} : latO e b sz = some x ↔ latC e b sz ∧ x = latE e b sz := by
  unfold latO
  by_cases h : latC e b sz
  · rw [if_pos h]; simp [h, eq_comm]
  · rw [if_neg h]; simp [h]
theorem latO_le {e : Eg} {b x : Int} (h : latO e b sz = some x) : 0 ≤ x ∧ x ≤ b ∧ x ≤ 2147483647 ∧ 0 ≤ b ∧ b ≤ 1099511627776 := by
  obtain ⟨⟨h1, h2, h3⟩, rfl⟩ := latO_some.1 h
  have hk := takes_in e sz
  have ho := h1.2.2.2.1.1.1
  have hw := h1.2.2.2.1.2.2.1
  have he := h1.2.2.2.1.2.1.2
  have hm := mn_le (a := e.en - mx (takesE e sz) 1) (b := b - takesE e sz - e.ow)
  have hx := le_mx (a := takesE e sz) (b := 1)
  have ht := h1.1
  unfold latE at h3 ⊢
  omega
theorem latO_mono {e : Eg} {b b' x : Int} (h : latO e b sz = some x) (hb : b ≤ b') (hf : b' ≤ 1099511627776) : ∃ x', latO e b' sz = some x' ∧ x ≤ x' := by
  obtain ⟨⟨h1, h2, h3⟩, rfl⟩ := latO_some.1 h
  have hm : latE e b sz ≤ latE e b' sz := by
    have := mn_le (a := e.en - mx (takesE e sz) 1) (b := b - takesE e sz - e.ow)
    exact le_mn.2 ⟨this.1, by have := this.2; unfold latE; omega⟩
  exact ⟨_, latO_some.2 ⟨⟨⟨⟨by have := h1.1.1; omega, hf⟩, h1.2⟩, h2, by omega⟩, rfl⟩, hm⟩
theorem lat_pass {e : Eg} {b x t : Int} (h : latO e b sz = some x) (h0 : 0 ≤ t) (ht : t ≤ x) : passC e t sz ∧ thereE e t sz ≤ b := by
  have hl := latO_le h
  obtain ⟨⟨h1, h2, h3⟩, rfl⟩ := latO_some.1 h
  have hm := mn_le (a := e.en - mx (takesE e sz) 1) (b := b - takesE e sz - e.ow)
  have hx : mx t e.op ≤ latE e b sz := mx_le.2 ⟨ht, h3⟩
  unfold latE at hx
  refine ⟨⟨⟨⟨h0, by omega⟩, h1.2⟩, h2, by omega⟩, ?_⟩
  unfold thereE
  omega
theorem pass_lat {e : Eg} {b t : Int} (h : passC e t sz) (hb : thereE e t sz ≤ b) (hf : b ≤ 1099511627776) : ∃ x, latO e b sz = some x ∧ t ≤ x := by
  have hge := pass_ge h
  obtain ⟨h1, h2, h3⟩ := h
  unfold thereE at hb
  have hx := le_mx (a := t) (b := e.op)
  have hk := takes_in e sz
  have hw := h1.2.2.2.1.2.2.1
  have h0 := h1.1.1
  have hm : mx t e.op ≤ latE e b sz := le_mn.2 ⟨h3, by omega⟩
  exact ⟨_, latO_some.2 ⟨⟨⟨⟨by omega, hf⟩, h1.2⟩, h2, by omega⟩, rfl⟩, by omega⟩
/-! ### Steps -/
def Bd (c : Int) (M : List Rd) : Prop := ∀ n t, atN n M = some t → t ≤ c
variable {l : List Eg}
theorem step_le {M : List Rd} : Le M (stepL to sz shut l M) := fold_le l M
theorem step_at {M : List Rd} {e : Eg} {b x : Int} (he : e ∈ l) (hb : atN e.to M = some b) (h : Stp to sz shut e b x) : ∃ u, atN e.fr (stepL to sz shut l M) = some u ∧ x ≤ u := fold_at hb h l M he
theorem step_inv {M : List Rd} {n t : Int} (h : atN n (stepL to sz shut l M) = some t) : atN n M = some t ∨ ∃ e ∈ l, ∃ b, atN e.to M = some b ∧ Stp to sz shut e b t ∧ e.fr = n := fold_inv l M h
theorem step_bd {M : List Rd} {c : Int} (h : Bd c M) : Bd c (stepL to sz shut l M) := fun n t ht => by
  rcases step_inv ht with h1 | ⟨e, _, b, h1, h2, _⟩
  · exact h n t h1
  · have := h _ _ h1
    have := latO_le h2.2.2
    omega
def iterL (to sz : Int) (shut : List Int) (l : List Eg) : Nat → List Rd → List Rd
  | 0, M => M
  | k + 1, M => iterL to sz shut l k (stepL to sz shut l M)
theorem iter_snoc : ∀ (k : Nat) (M : List Rd), iterL to sz shut l (k + 1) M = stepL to sz shut l (iterL to sz shut l k M)
  | 0, M => rfl
  | k + 1, M => by
    rw [iterL, iter_snoc k]; rfl
theorem iter_nodes : ∀ (k : Nat) (M : List Rd), (M.map Rd.node).Nodup → ((iterL to sz shut l k M).map Rd.node).Nodup
  | 0, M, h => h
  | k + 1, M, h => iter_nodes k _ (step_nodes l h)
theorem iter_bd {c : Int} : ∀ (k : Nat) (M : List Rd), Bd c M → Bd c (iterL to sz shut l k M)
  | 0, M, h => h
  | k + 1, M, h => iter_bd k _ (step_bd h)
theorem iter_up (k : Nat) (M : List Rd) : Le (iterL to sz shut l k M) (iterL to sz shut l (k + 1) M) := by rw [iter_snoc]; exact step_le
theorem iter_ups {k j : Nat} (h : k ≤ j) (M : List Rd) : Le (iterL to sz shut l k M) (iterL to sz shut l j M) := by
  induction j with
  | zero => rw [Nat.le_zero.1 h]; exact .refl _
  | succ j ih =>
    rcases Nat.lt_or_eq_of_le h with h | h
    · exact (ih (by omega)).trans (iter_up j M)
    · rw [h]; exact .refl _
theorem iter_len : ∀ (k : Nat) (M : List Rd), (iterL to sz shut l k M).length ≤ M.length + k * l.length
  | 0, M => by simp [iterL]
  | k + 1, M => by
    have h1 := iter_len k (stepL to sz shut l M)
    have h2 : ∀ (l : List Eg) (K N : List Rd), (l.foldl (stepE to sz shut K) N).length ≤ N.length + l.length := by
      intro l
      induction l with
      | nil => intro K N; simp
      | cons e l ih =>
        intro K N
        have h3 := ih K (stepE to sz shut K N e)
        have h4 : ∀ (n v : Int) (N : List Rd), (setR n v N).length ≤ N.length + 1 := by
          intro n v N
          induction N with
          | nil => simp [setR]
          | cons r N ih2 =>
            simp only [setR]
            split
            · simp
            · simp only [List.length_cons]; omega
        have h5 : (stepE to sz shut K N e).length ≤ N.length + 1 := by
          unfold stepE lateR
          repeat' split
          all_goals first | omega | exact h4 _ _ _
        rw [List.foldl_cons, List.length_cons]
        omega
    have h3 := h2 l M M
    rw [iterL, Nat.add_mul]
    unfold stepL at h1 ⊢
    omega
/-! ### Ways -/
variable {by' : Int}
inductive Wk (to sz : Int) (shut : List Int) (l : List Eg) (by' : Int) : List Eg → Int → Int → Prop
  | nil : Wk to sz shut l by' [] to by'
  | cons {p : List Eg} {e : Eg} {b x : Int} (h : Wk to sz shut l by' p e.to b) (he : e ∈ l) (hx : Stp to sz shut e b x) : Wk to sz shut l by' (e :: p) e.fr x
theorem Wk.bd {p : List Eg} {n t : Int} (h : Wk to sz shut l by' p n t) : t ≤ by' := by
  induction h with
  | nil => exact Int.le_refl _
  | cons _ _ hx ih =>
    have := latO_le hx.2.2
    omega
theorem Wk.tail {p q : List Eg} {n t : Int} (h : Wk to sz shut l by' (p ++ q) n t) : ∃ m b, Wk to sz shut l by' q m b ∧ t ≤ b := by
  induction p generalizing n t with
  | nil => exact ⟨n, t, h, Int.le_refl _⟩
  | cons e p ih =>
    cases h with
    | cons h he hx =>
      obtain ⟨m, b, h1, h2⟩ := ih h
      have := latO_le hx.2.2
      exact ⟨m, b, h1, by omega⟩
theorem Wk.swap (hf : by' ≤ 1099511627776) {p q q' : List Eg} (hq : ∀ m b, Wk to sz shut l by' q m b → ∃ b', Wk to sz shut l by' q' m b' ∧ b ≤ b') {n t : Int} (h : Wk to sz shut l by' (p ++ q) n t) : ∃ t', Wk to sz shut l by' (p ++ q') n t' ∧ t ≤ t' := by
  induction p generalizing n t with
  | nil => exact hq n t h
  | cons e p ih =>
    cases h with
    | cons h he hx =>
      obtain ⟨b', h1, h2⟩ := ih h
      obtain ⟨x', h3, h4⟩ := latO_mono hx.2.2 h2 (by have := h1.bd; omega)
      exact ⟨x', .cons h1 he ⟨hx.1, hx.2.1, h3⟩, h4⟩
theorem Wk.mem {p : List Eg} {n t : Int} (h : Wk to sz shut l by' p n t) : ∀ e ∈ p, e ∈ l := by
  induction h with
  | nil => simp
  | cons _ he _ ih =>
    intro e h
    rcases List.mem_cons.1 h with rfl | h
    · exact he
    · exact ih e h
theorem dup_split {α : Type} [DecidableEq α] : ∀ {p : List α}, ¬ p.Nodup → ∃ a p1 p2 p3, p = p1 ++ a :: (p2 ++ a :: p3)
  | [], h => absurd List.nodup_nil h
  | x :: r, h => by
    by_cases hx : x ∈ r
    · obtain ⟨s, t, rfl⟩ := List.append_of_mem hx
      exact ⟨x, [], s, t, rfl⟩
    · obtain ⟨a, p1, p2, p3, rfl⟩ := dup_split (p := r) (fun hn => h (List.nodup_cons.2 ⟨hx, hn⟩))
      exact ⟨a, x :: p1, p2, p3, rfl⟩
deriving instance DecidableEq for Eg
theorem Wk.short (hf : by' ≤ 1099511627776) : ∀ (k : Nat) {p : List Eg} {n t : Int}, p.length ≤ k → Wk to sz shut l by' p n t → ∃ p' t', p'.length ≤ l.length ∧ Wk to sz shut l by' p' n t' ∧ t ≤ t' := by
  intro k
  induction k with
  | zero => intro p n t hp h; exact ⟨p, t, by omega, h, Int.le_refl _⟩
  | succ k ih =>
    intro p n t hp h
    by_cases hl : p.length ≤ l.length
    · exact ⟨p, t, hl, h, Int.le_refl _⟩
    · have hnd : ¬ p.Nodup := fun hn => hl (nd_le hn h.mem)
      obtain ⟨a, p1, p2, p3, rfl⟩ := dup_split hnd
      have hs := Wk.swap hf (q := a :: (p2 ++ a :: p3)) (q' := a :: p3) (fun m b hw => by
        have hfr : m = a.fr := by cases hw; rfl
        obtain ⟨m', b', h1, h2⟩ := Wk.tail (p := a :: p2) (q := a :: p3) (by simpa using hw)
        have : m' = a.fr := by cases h1; rfl
        subst this hfr
        exact ⟨b', h1, h2⟩) h
      obtain ⟨t', h1, h2⟩ := hs
      obtain ⟨p', t'', h3, h4, h5⟩ := ih (by simp at hp ⊢; omega) h1
      exact ⟨p', t'', h3, h4, by omega⟩
theorem wk_of_iter : ∀ (k : Nat) {n t : Int}, atN n (iterL to sz shut l k [⟨to, by'⟩]) = some t → ∃ p, p.length ≤ k ∧ Wk to sz shut l by' p n t
  | 0, n, t, h => by
    simp only [iterL, atN] at h
    split at h
    · rename_i e; cases h; subst e; exact ⟨[], Nat.le_refl _, .nil⟩
    · cases h
  | k + 1, n, t, h => by
    rw [iter_snoc] at h
    rcases step_inv h with h | ⟨e, he, b, h1, h2, rfl⟩
    · obtain ⟨p, h1, h2⟩ := wk_of_iter k h
      exact ⟨p, by omega, h2⟩
    · obtain ⟨p, h3, h4⟩ := wk_of_iter k h1
      exact ⟨e :: p, by simp; omega, .cons h4 he h2⟩
theorem start_bd : Bd by' [⟨to, by'⟩] := fun n t h => by
  simp only [atN] at h
  split at h <;> cases h
  exact Int.le_refl _
theorem iter_of_wk (hf : by' ≤ 1099511627776) {p : List Eg} {n t : Int} (h : Wk to sz shut l by' p n t) : ∃ u, atN n (iterL to sz shut l p.length [⟨to, by'⟩]) = some u ∧ t ≤ u := by
  induction h with
  | nil => exact ⟨by', by simp [iterL, atN], Int.le_refl _⟩
  | cons h he hx ih =>
    rename_i p e b x
    obtain ⟨u, h1, h2⟩ := ih
    have hb := iter_bd (to := to) (sz := sz) (shut := shut) (l := l) p.length _ (start_bd (to := to) (by' := by')) _ _ h1
    obtain ⟨x', h3, h4⟩ := latO_mono hx.2.2 h2 (by omega)
    obtain ⟨v, h5, h6⟩ := step_at (shut := shut) he h1 (x := x') ⟨hx.1, hx.2.1, h3⟩
    rw [List.length_cons, iter_snoc]
    exact ⟨v, h5, by omega⟩
theorem iter_full (hf : by' ≤ 1099511627776) (k : Nat) : Le (iterL to sz shut l k [⟨to, by'⟩]) (iterL to sz shut l l.length [⟨to, by'⟩]) := fun n t h => by
  obtain ⟨p, h1, h2⟩ := wk_of_iter k h
  obtain ⟨p', t', h3, h4, h5⟩ := Wk.short hf k h1 h2
  obtain ⟨u, h6, h7⟩ := iter_of_wk hf h4
  obtain ⟨v, h8, h9⟩ := iter_ups (to := to) (sz := sz) (shut := shut) (l := l) h3 [⟨to, by'⟩] n u h6
  exact ⟨v, h8, by omega⟩
theorem iter_to (k : Nat) : atN to (iterL to sz shut l k [⟨to, by'⟩]) = some by' := by
  induction k with
  | zero => simp [iterL, atN]
  | succ k ih =>
    rw [iter_snoc]
    obtain ⟨u, h1, _⟩ := step_le (to := to) (sz := sz) (shut := shut) (l := l) to by' ih
    rcases step_inv h1 with h | ⟨e, _, _, _, h, h2⟩
    · rw [ih] at h; cases h; exact h1
    · exact absurd h2 h.1
theorem wk_reach {p : List Eg} {n t : Int} (h : Wk to sz shut l by' p n t) (cl : Int → Bool) (hcl : ∀ m, cl m = false) : ∀ t', 0 ≤ t' → t' ≤ t → ∃ a, a ≤ by' ∧ Reach (psz sz) cl l n t' to a := by
  induction h with
  | nil => exact fun t' _ h => ⟨t', h, .here⟩
  | cons h he hx ih =>
    rename_i p e b x
    intro t' h0 ht
    obtain ⟨h1, h2⟩ := lat_pass hx.2.2 h0 ht
    obtain ⟨a, h3, h4⟩ := ih (thereE e t' sz) (by have := pass_ge h1; omega) h2
    exact ⟨a, h3, reach_trans (.go .here he rfl (psz_some.2 ⟨h1, rfl⟩) (hcl _)) h4⟩
theorem reach_wk {cl : Int → Bool} {fr now n t : Int} (hf : by' ≤ 1099511627776) (h : Reach (psz sz) cl l fr now n t) : ∀ {p : List Eg} {b : Int}, Wk to sz [] l by' p n b → t ≤ b → ∃ p' b', Wk to sz [] l by' p' fr b' ∧ now ≤ b' := by
  induction h with
  | here => exact fun hw ht => ⟨_, _, hw, ht⟩
  | go hr he hfr hp hc ih =>
    rename_i a t0 u e
    intro p b hw hu
    obtain ⟨h1, rfl⟩ := psz_some.1 hp
    have hbd := hw.bd
    obtain ⟨x, h2, h3⟩ := pass_lat h1 hu (by omega)
    subst hfr
    by_cases hto : e.fr = to
    · have hge := pass_ge h1
      exact ih (by rw [hto]; exact .nil) (by omega)
    · exact ih (.cons hw he ⟨hto, .inr (by simp), h2⟩) h3
end
end Go.Lea
