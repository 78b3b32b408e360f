/-
  Sorting by nodes, as the known function does it, and as plain lists.
-/
import Derived.Test.YtepbhoahafopdaaEatEarU
set_option linter.unusedVariables false
set_option linter.unusedSimpArgs false
set_option linter.unnecessarySimpa false

namespace Go.Ev
theorem EvRW_primS {Γ : Nat → Option FD} {st st' : Store} {f : Nat} {F : List D → Store → Option (D × Store)} {ds : List D} {r : D} (hf : Γ f = some (.primS F)) (hF : F (ds.map D.strip) st = some (r, st')) : EvRW Γ f ds st r st' := by
  refine ⟨2, fun n hn => ?_⟩
  obtain ⟨n, rfl⟩ : ∃ m, n = m + 2 := ⟨n - 2, by omega⟩
  have hp : callP Γ (n + 1) f (ds.map D.strip) = none := by simp [callP, hf]
  have hp2 : callP Γ (n + 1) f (ds.map (seen st)) = none := by simp [callP, hf]
  refine ⟨?_, by simp [callRW, hf, hF]⟩
  simp only [callRO, hf, hp, hp2]
  split
  · rfl
  · split
    · split <;> rfl
    · rfl
end Go.Ev
namespace Go.Eat
open Go.Ev
set_option linter.unusedVariables false
set_option linter.unusedSimpArgs false
def insK {α : Type} (key : α → Int) (x : α) : List α → List α
  | [] => [x]
  | y :: s => if key y < key x then y :: insK key x s else x :: y :: s
def srtK {α : Type} (key : α → Int) : List α → List α
  | [] => []
  | x :: s => insK key x (srtK key s)
theorem insK_perm {α : Type} (key : α → Int) (x : α) : ∀ l : List α, (insK key x l).Perm (x :: l)
  | [] => List.Perm.refl _
  | y :: s => by
    simp only [insK]
    split
    · exact ((insK_perm key x s).cons y).trans (List.Perm.swap x y s)
    · exact List.Perm.refl _
theorem srtK_perm {α : Type} (key : α → Int) : ∀ l : List α, (srtK key l).Perm l
  | [] => List.Perm.refl _
  | x :: s => (insK_perm key x _).trans ((srtK_perm key s).cons x)
theorem insK_map {α β : Type} (key : β → Int) (f : α → β) (x : α) : ∀ l : List α, insK key (f x) (l.map f) = (insK (fun a => key (f a)) x l).map f
  | [] => rfl
  | y :: s => by
    simp only [List.map_cons, insK]
    split
    · rw [insK_map key f x s]; rfl
    · rfl
theorem srtK_map {α β : Type} (key : β → Int) (f : α → β) : ∀ l : List α, srtK key (l.map f) = (srtK (fun a => key (f a)) l).map f
  | [] => rfl
  | x :: s => by
    simp only [List.map_cons, srtK]
    rw [srtK_map key f s, insK_map]
theorem insI_eq (x : List Int) : ∀ l : List (List Int), insI 0 x l = insK (fun a => a.getD 0 0) x l
  | [] => rfl
  | y :: s => by simp only [insI, insK, insI_eq x s]
theorem sortI_eq : ∀ l : List (List Int), sortI 0 l = srtK (fun a => a.getD 0 0) l
  | [] => rfl
  | x :: s => by simp only [sortI, srtK, sortI_eq s, insI_eq]
theorem insK_sorted {α : Type} (key : α → Int) (x : α) : ∀ l : List α, (l.Pairwise fun a b => key a ≤ key b) → (insK key x l).Pairwise fun a b => key a ≤ key b
  | [], _ => by simp [insK]
  | y :: s, h => by
    have h' := List.pairwise_cons.mp h
    simp only [insK]
    split
    · rename_i hlt
      refine List.pairwise_cons.mpr ⟨fun z hz => ?_, insK_sorted key x s h'.2⟩
      rcases List.mem_cons.mp ((insK_perm key x s).mem_iff.mp hz) with rfl | hz
      · omega
      · exact h'.1 z hz
    · rename_i hlt
      refine List.pairwise_cons.mpr ⟨fun z hz => ?_, h⟩
      rcases List.mem_cons.mp hz with rfl | hz
      · omega
      · have := h'.1 z hz
        omega
theorem srtK_sorted {α : Type} (key : α → Int) : ∀ l : List α, (srtK key l).Pairwise fun a b => key a ≤ key b
  | [] => List.Pairwise.nil
  | x :: s => insK_sorted key x _ (srtK_sorted key s)
def Rd.row (e : Rd) : List Int := [e.node, e.at']
theorem rd_cells2 (e : Rd) : e.e.cells = e.row.map (D.int .i64) := rfl
theorem flat_cells (es : List Rd) : (es.map Rd.e).flatMap D.cells = (es.flatMap Rd.row).map (D.int .i64) := by
  induction es with
  | nil => rfl
  | cons e es ih => rw [List.map_cons, List.flatMap_cons, ih, List.flatMap_cons, List.map_append]; rfl
theorem intsOf_map : ∀ l : List Int, intsOf (l.map (D.int .i64)) = some l
  | [] => rfl
  | x :: l => by simp only [List.map_cons, intsOf, intsOf_map l]
theorem rowsI_flat : ∀ es : List Rd, rowsI 2 es.length (es.flatMap Rd.row) = es.map Rd.row
  | [] => rfl
  | e :: es => by
    rw [List.flatMap_cons, List.length_cons, List.map_cons]
    simp only [rowsI]
    rw [List.take_left' (show e.row.length = 2 from rfl), List.drop_left' (show e.row.length = 2 from rfl), rowsI_flat es]
theorem diffB_of : ∀ l : List Int, l.Nodup → diffB l = true
  | [], _ => rfl
  | x :: l, h => by
    have h' := List.nodup_cons.mp h
    simp only [diffB, diffB_of l h'.2, Bool.and_true, Bool.not_eq_true']
    simpa using h'.1
theorem el2 {es : List Rd} : ∀ d ∈ es.map Rd.e, d.cells.length = 2 := fun d hd => by
  obtain ⟨e, _, rfl⟩ := List.mem_map.mp hd
  rfl
theorem s_sort (es : List Rd) (hn : (es.map Rd.node).Nodup) (hlen : es.length < 4611686018427387904) (st : Store) (p c : Nat) (hR : RowIs st p 2 (es.map Rd.e)) :
    ∃ st', EvRW Γ 47 [.rs p 0 2 es.length c, .func 48 []] st (.tuple []) st' ∧ RowIs st' p 2 ((srtK Rd.node es).map Rd.e) := by
  obtain ⟨hl, hp, cs, hb, hlc, htk, hpl⟩ := hR
  rw [List.length_map] at hlc htk
  have e1 : sortI 0 (es.map Rd.row) = (srtK Rd.node es).map Rd.row := by rw [sortI_eq, srtK_map]; rfl
  have e2 : ((srtK Rd.node es).map Rd.row).flatMap (fun x => x.map (D.int .i64)) = ((srtK Rd.node es).map Rd.e).flatMap D.cells := by
    rw [List.flatMap_map, List.flatMap_map]; rfl
  have hpm := (srtK_perm Rd.node es).length_eq
  have e3 : (((srtK Rd.node es).map Rd.e).flatMap D.cells).length = es.length * 2 := by
    rw [flatMap_len el2, List.length_map, hpm]
  refine ⟨{ st with boxes := upd st.boxes p (some (.row (((srtK Rd.node es).map Rd.e).flatMap D.cells ++ cs.drop (es.length * 2)))) }, EvRW_primS (F := sortF 2 0 48) rfl ?_, hl, hp, _, upd_same _ _ _, ?_, ?_, ?_⟩
  · show sortF 2 0 48 [.rs p 0 2 es.length c, .func 48 []] st = _
    simp only [sortF, hb]
    rw [htk, flat_cells, intsOf_map]
    simp only [rowsI_flat, e1, e2]
    rw [if_pos ⟨trivial, trivial, trivial, hl, hlc, hlen, by
      rw [List.map_map]
      exact diffB_of _ hn⟩]
  · rw [List.length_map, List.length_append, e3, hpm]; omega
  · rw [List.length_map, hpm, List.take_left' e3]
  · rw [List.all_append, Bool.and_eq_true]
    refine ⟨?_, ?_⟩
    · rw [flat_cells]
      simp [D.plain]
    · rw [List.all_eq_true] at hpl ⊢
      exact fun x hx => hpl x (List.mem_of_mem_drop hx)
end Go.Eat

/-
  The times, by nodes.
-/
namespace Go.Eat
open Go.Ev
set_option linter.unusedVariables false
set_option linter.unusedSimpArgs false
theorem pass_ge {e : Eg} {t sz : Int} (h : passC e t sz) : t ≤ thereE e t sz := by
  have h1 := le_mx (a := t) (b := e.op)
  have h2 := takes_in e sz
  have h3 := h.1.2.2.2.1.2.2
  unfold thereE
  omega
theorem pass_to {e : Eg} {t sz : Int} (h : passC e t sz) : 1 ≤ e.to ∧ e.to ≤ 255 := h.1.2.2.1.2.1
theorem pass_top {e : Eg} {t sz : Int} (h : passC e t sz) : thereE e t sz ≤ 4294967294 := by
  have h2 := takes_in e sz
  have h3 := h.1.2.2.2.1.2.2
  have h4 := h.1.2.2.2.1.2.1
  have h5 := h.2.2
  have h6 := le_mx (a := takesE e sz) (b := 1)
  unfold thereE
  omega
theorem ceilI_mono {a a' b : Int} (ha : 0 ≤ a') (h : a' ≤ a) (hb : 1 ≤ b) : ceilI a' b ≤ ceilI a b := by
  have h0 : 0 ≤ a := by omega
  unfold ceilI
  rw [Int.tdiv_eq_ediv_of_nonneg ha, Int.tmod_eq_emod_of_nonneg ha, Int.tdiv_eq_ediv_of_nonneg h0, Int.tmod_eq_emod_of_nonneg h0]
  have d1 := Int.ediv_le_ediv (c := b) (by omega) h
  have m1 := Int.emod_nonneg a' (show b ≠ 0 by omega)
  have m2 := Int.emod_nonneg a (show b ≠ 0 by omega)
  have e1 := Int.mul_ediv_add_emod a' b
  have e2 := Int.mul_ediv_add_emod a b
  by_cases hd : a' / b = a / b
  · rw [hd] at e1 ⊢
    split <;> split <;> omega
  · split <;> split <;> omega
/-- Who begins earlier, or with less, is there no later. -/
theorem pass_mono {e : Eg} {t t' sz sz' : Int} (h : passC e t sz) (ht : 0 ≤ t') (htt : t' ≤ t) (hs : 0 ≤ sz') (hss : sz' ≤ sz) : passC e t' sz' ∧ thereE e t' sz' ≤ thereE e t sz := by
  obtain ⟨⟨h1, h2, h3⟩, h4, h5⟩ := h
  have hr : rightE e t' sz' := ⟨by omega, by omega, h3⟩
  have hm : mx t' e.op ≤ mx t e.op := by
    have := le_mx (a := t) (b := e.op)
    exact mx_le.mpr ⟨by omega, by omega⟩
  have hk : takesE e sz' ≤ takesE e sz := by
    unfold takesE
    rw [if_pos ⟨by omega, by omega, h3⟩, if_pos ⟨by omega, h2, h3⟩]
    exact ceilI_mono hs hss h3.2.2.2.1.1
  have hm1 : mx (takesE e sz') 1 ≤ mx (takesE e sz) 1 := by
    have := le_mx (a := takesE e sz) (b := 1)
    exact mx_le.mpr ⟨by omega, by omega⟩
  refine ⟨⟨hr, by omega, by omega⟩, ?_⟩
  unfold thereE
  omega
theorem psz_some {sz : Int} {e : Eg} {t u : Int} : psz sz e t = some u ↔ passC e t sz ∧ u = thereE e t sz := by
  unfold psz
  by_cases h : passC e t sz
  · rw [if_pos h]; simp [h, eq_comm]
  · rw [if_neg h]; simp [h]
theorem psz_ge {sz : Int} : ∀ e t u, psz sz e t = some u → t ≤ u := fun e t u h => by
  obtain ⟨h1, rfl⟩ := psz_some.mp h
  exact pass_ge h1
theorem reach_ge {sz : Int} {cl : Int → Bool} {l : List Eg} {fr now n t : Int} (h : Reach (psz sz) cl l fr now n t) : now ≤ t := by
  induction h with
  | here => exact Int.le_refl _
  | go _ _ _ hp _ ih => exact Int.le_trans ih (psz_ge _ _ _ hp)
theorem psz_mo {sz : Int} {cl : Int → Bool} {l : List Eg} {fr now : Int} (hn : 0 ≤ now) (hs : 0 ≤ sz) : ∀ e t t' u, psz sz e t = some u → t' ≤ t → (∃ a b, Reach (psz sz) cl l fr now a b ∧ b = t') → ∃ u', u' ≤ u ∧ psz sz e t' = some u' := by
  rintro e t t' u h ht ⟨a, b, hr, rfl⟩
  obtain ⟨h1, rfl⟩ := psz_some.mp h
  have := reach_ge hr
  obtain ⟨h2, h3⟩ := pass_mono h1 (by omega) ht hs (Int.le_refl _)
  exact ⟨_, h3, psz_some.mpr ⟨h2, rfl⟩⟩
def clS (shut : List Int) (n : Int) : Bool := decide (n ∈ shut)
/-- From when on each node may have it. -/
def timesM (l : List Eg) (fr now sz : Int) (shut : List Int) : List Rd := if AskC l fr now sz then srtK Rd.node (dij (psz sz) (clS shut) l (l.length + 1) [] [⟨fr, now⟩]) else []
theorem meas_start (l : List Eg) (r : Rd) : meas l [] [r] ≤ l.length + 1 := by
  have := List.length_filter_le (fun e : Eg => !vis [] e.fr) l
  unfold meas
  simp
  omega
theorem dij_ask {l : List Eg} {fr now sz : Int} (ha : AskC l fr now sz) (shut : List Int) : IsT (psz sz) (clS shut) l fr now (dij (psz sz) (clS shut) l (l.length + 1) [] [⟨fr, now⟩]) :=
  dij_isT psz_ge (psz_mo ha.2.2.1.1 ha.2.1.1) _ _ _ (meas_start l _) .start
theorem dij_len (ps : Eg → Int → Option Int) (cl : Int → Bool) (l : List Eg) : ∀ (n : Nat) (out s : List Rd), (dij ps cl l n out s).length ≤ out.length + n
  | 0, out, s => by rw [dij]; omega
  | n + 1, out, [] => by rw [dij]; omega
  | n + 1, out, r :: s => by
    rw [dij]
    split
    · have := dij_len ps cl l n out s; omega
    · have := dij_len ps cl l n (out ++ [r]) (pushes ps cl (out ++ [r]) r.at' (fromE r.node l) s)
      simp at this
      omega
theorem times_len (l : List Eg) (fr now sz : Int) (shut : List Int) : (timesM l fr now sz shut).length ≤ l.length + 1 := by
  unfold timesM
  split
  · rw [(srtK_perm Rd.node _).length_eq]
    have := dij_len (psz sz) (clS shut) l (l.length + 1) [] [⟨fr, now⟩]
    simpa using this
  · simp
theorem l_cl (shut : List Int) (hsl : shut.length ≤ 1073741824) (t : Tok) (sz : Nat) (hs : sz = 1 ∨ shut = []) (v0 v1 v2 v3 v4 v10 : D) : ∀ (post pre : List Int), shut = pre ++ post → ∀ (kv : List (Int × D)), KVC kv (clS pre) → ∀ (ρ : Nat → D) (st : Store), st.lim ≤ 0 → st.boxes 0 = some (.map kv) →
    ρ 0 = v0 → ρ 1 = v1 → ρ 2 = v2 → ρ 3 = v3 → ρ 4 = v4 → ρ 10 = v10 → ρ 11 = .map 0 → ρ 34 = .slice t sz (shut.map (D.int .i64)) → ρ 35 = .int .i64 shut.length → ρ 36 = .int .i64 pre.length → ∀ (Q : X → (Nat → D) → Store → Prop),
    (∀ ρ' st' kv', KVC kv' (clS shut) → st'.lim ≤ 0 → st'.next = st.next → st'.boxes 0 = some (.map kv') → ρ' 0 = v0 → ρ' 1 = v1 → ρ' 2 = v2 → ρ' 3 = v3 → ρ' 4 = v4 → ρ' 10 = v10 → ρ' 11 = .map 0 → Q (.exit 0) ρ' st') → WC Γ (.loop c_early_Times_l0) ρ st Q := by
  intro post
  induction post with
  | nil =>
    intro pre hpp kv hk ρ st hlim hb h0 h1 h2 h3 h4 h10 h11 h34 h35 h36 Q hQ
    rw [List.append_nil] at hpp
    subst hpp
    rw [← upd_self h0, ← upd_self h1, ← upd_self h2, ← upd_self h3, ← upd_self h4, ← upd_self h10, ← upd_self h11, ← upd_self h34, ← upd_self h35, ← upd_self h36]
    refine WC_loop ?_
    repeat' (first
 | (refine I_WS ?_; first
 | (refine I_bin ?_; first
 | refine W_lssF rfl rfl rfl rfl (by omega) ?_)
 | refine WS_nil ?_)
 | refine WC_seq ?_
 | refine WC_opsS ?_
 | refine WC_condF rfl ?_
 | refine WC_exit ?_)
    exact hQ _ _ kv hk hlim rfl hb rfl rfl rfl rfl rfl rfl rfl
  | cons x post ih =>
    intro pre hpp kv hk ρ st hlim hb h0 h1 h2 h3 h4 h10 h11 h34 h35 h36 Q hQ
    have hv : shut[pre.length]? = some x := by rw [hpp]; simp
    have hlen : shut.length = pre.length + (post.length + 1) := by rw [hpp]; simp
    have hz : sz = 1 := hs.resolve_right (by rintro rfl; simp at hlen)
    subst hz
    have hpl : pre.length < (shut.map (D.int .i64)).length := by simp; omega
    have hltl : (pre.length : Int) < shut.length := by omega
    have hk2 : KVC (kvSet x (.bool true) kv) (clS (pre ++ [x])) := fun n => by
      rw [kvGet_set]
      by_cases e : n = x
      · rw [if_pos e]; simp [clS, e]
      · rw [if_neg e, hk n]; simp [clS, e]
    have hnext : ∀ (ρ' : Nat → D) (st' : Store), st'.lim ≤ 0 → st'.next = st.next → st'.boxes 0 = some (.map (kvSet x (.bool true) kv)) → ρ' 0 = v0 → ρ' 1 = v1 → ρ' 2 = v2 → ρ' 3 = v3 → ρ' 4 = v4 → ρ' 10 = v10 → ρ' 11 = .map 0 → ρ' 34 = .slice t 1 (shut.map (D.int .i64)) → ρ' 35 = .int .i64 shut.length → ρ' 36 = .int .i64 ((pre.length : Int) + 1) → WC Γ (.loop c_early_Times_l0) ρ' st' Q := fun ρ' st' e1 e2 e3 k0 k1 k2 k3 k4 k10 k11 k34 k35 k36 =>
      ih (pre ++ [x]) (by simp [hpp]) _ hk2 ρ' st' e1 e3 k0 k1 k2 k3 k4 k10 k11 k34 k35 (by rw [List.length_append]; exact k36) Q (fun ρ'' st'' kv' f0 f1 f2 => hQ ρ'' st'' kv' f0 f1 (f2.trans e2))
    clear ih hQ hpp
    rw [← upd_self h0, ← upd_self h1, ← upd_self h2, ← upd_self h3, ← upd_self h4, ← upd_self h10, ← upd_self h11, ← upd_self h34, ← upd_self h35, ← upd_self h36]
    refine WC_loop ?_
    repeat' (first
 | (refine I_WS ?_; first
 | refine W_iaddr (j := pre.length) rfl rfl rfl rfl rfl hpl ?_
 | refine W_mapset (v := .bool true) rfl rfl rfl hb hlim rfl rfl ?_
 | (refine I_mov ?_; first
 | refine W_mov (v := .int _ _) rfl rfl rfl ?_
 | refine W_mov (v := .map _) rfl rfl rfl ?_)
 | (refine I_bin ?_; first
 | refine W_lssT rfl rfl rfl rfl (by omega) ?_
 | refine W_add rfl rfl rfl rfl (by first | exact w64 (by omega) | rfl) ?_)
 | (refine I_load ?_; first
 | refine W_loadE (agg := false) (d := .int _ _) rfl rfl rfl hv rfl ?_)
 | refine WS_nil ?_)
 | refine WC_seq ?_
 | refine WC_opsS ?_
 | refine WC_skip ?_
 | refine WC_condT rfl ?_
 | refine WC_block ?_)
    refine hnext _ _ hlim rfl rfl ?_ ?_ ?_ ?_ ?_ ?_ ?_ ?_ ?_ ?_ <;> rfl
set_option maxHeartbeats 8000000 in
theorem s_Times (l : List Eg) (hll : l.length ≤ 1000) (fr now sz : Int) (shut : List Int) (hsl : shut.length ≤ 1073741824) (t t' : Tok) (s s' : Nat) (hs : s = 8 ∨ l = []) (hs' : s' = 1 ∨ shut = []) :
    EvX Γ 23 [.slice t s (l.map Eg.e), .int .i64 fr, .int .i64 now, .int .i64 sz, .slice t' s' (shut.map (D.int .i64))] (IsN Rd.e 2 (timesM l fr now sz shut)) := by
  refine EvX_code rfl rfl ?_
  have hA := fun t => s_asked l (by omega) fr now sz t s hs
  unfold timesM
  by_cases ha : AskC l fr now sz
  · rw [decide_eq_true ha] at hA
    rw [if_pos ha]
    have hT := dij_ask ha shut
    repeat' (first
 | (refine I_WS ?_; first
 | refine W_lenM rfl rfl rfl ?_
 | (refine I_mov ?_; first
 | refine W_mov (v := .int _ _) rfl rfl rfl ?_
 | refine W_mov (v := .slice _ _ _) rfl rfl rfl ?_
 | refine W_mov (v := .map _) rfl rfl rfl ?_)
 | (refine I_call ?_; first
 | refine W_call rfl rfl rfl (hA _) rfl rfl ?_)
 | refine W_not rfl rfl rfl ?_
 | refine W_mkmap rfl rfl ?_
 | refine WS_nil ?_)
 | refine WC_seq ?_
 | refine WC_opsS ?_
 | refine WC_skip ?_
 | refine WC_condF rfl ?_
 | refine WC_block ?_)
    refine l_cl shut hsl t' s' hs' (.slice t s (l.map Eg.e)) (.int .i64 fr) (.int .i64 now) (.int .i64 sz) (.slice t' s' (shut.map (D.int .i64))) (.slice .isnil 0 []) shut [] rfl [] (fun n => rfl) _ _ (Nat.le_refl _) ?_ ?_ ?_ ?_ ?_ ?_ ?_ ?_ ?_ ?_ ?_ _ (fun ρ' st' kv hk e1 e2 e3 h0 h1 h2 h3 h4 h10 h11 => ?_)
    all_goals first | rfl | skip
    obtain ⟨bx, nx1, tk, nt, lm, tl⟩ := st'
    have e2' : nx1 = 1 := e2
    subst e2'
    rw [← upd_self h0, ← upd_self h1, ← upd_self h2, ← upd_self h3, ← upd_self h4, ← upd_self h10, ← upd_self h11]
    have hlm : lm ≤ 0 := e1
    have hbx : bx 0 = some (.map kv) := e3
    have hNew := s_New [⟨fr, now⟩] (by simp) .exact 2 (.inl rfl) ⟨upd bx 1 (some (.map [])), 2, tk, nt, lm, tl⟩ (by show lm ≤ 2; omega)
    repeat' (first
 | (refine I_WS ?_; first
 | (refine I_mov ?_; first
 | refine W_mov (v := .int _ _) rfl rfl rfl ?_
 | refine W_mov (v := .map _) rfl rfl rfl ?_)
 | (refine I_call ?_; first
 | (refine W_callRWX0 rfl rfl hNew ?_ <;> intro r0 st2 hp0))
 | (refine I_build ?_; first
 | refine W_build (cs := [_, _]) rfl rfl rfl ?_)
 | refine W_bslice (ys := [_]) rfl rfl rfl (by decide) rfl ?_
 | refine W_mkmap rfl rfl ?_
 | refine WS_nil ?_)
 | refine WC_seq ?_
 | refine WC_opsS ?_)
    obtain ⟨h, o, rfl, q1, q2, H, N⟩ := hp0
    have N1 : st2.lim = lm := N.lim
    have q1' : 2 ≤ h := q1
    have hb0 : st2.boxes 0 = some (.map kv) := (N.box 0 (by show 0 < 2; omega)).trans hbx
    have hb1 : st2.boxes 1 = some (.map []) := N.box 1 (by show 1 < 2; omega)
    repeat' (first
 | (refine I_WS ?_; first
 | (refine I_mov ?_; first
 | refine W_mov (v := .ptr _ _) rfl rfl rfl ?_)
 | refine WS_nil ?_)
 | refine WC_seq ?_
 | refine WC_block ?_)
    refine l_out l hll t s hs sz (clS shut) kv hk (l.length + 1) [] [⟨fr, now⟩] (meas_start l _) (by simp; omega) [] (fun n => ⟨0, rfl, rfl⟩) _ st2 h o (.slice .isnil 0 []) (.slice t' s' (shut.map (D.int .i64))) (by rw [N1]; exact hlm) q1' q2 H hb0 hb1 (.inl ⟨rfl, rfl⟩) ?_ ?_ ?_ ?_ ?_ ?_ ?_ _ (fun ρ' st3 d' h' o' g1 g2 g3 => ?_)
    all_goals first | rfl | skip
    have hlen := dij_len (psz sz) (clS shut) l (l.length + 1) [] [⟨fr, now⟩]
    generalize dij (psz sz) (clS shut) l (l.length + 1) [] [⟨fr, now⟩] = es at *
    rcases g2 with ⟨rfl, rfl⟩ | ⟨q, n, c, _, _, _, rfl, hne, rfl, hR⟩
    · have hS : EvRW Γ 47 [.slice .isnil 0 [], .func 48 []] st3 (.tuple []) st3 := EvRW_primS (F := sortF 2 0 48) rfl rfl
      rw [← upd_self g3]
      repeat' (first
 | (refine I_WS ?_; first
 | (refine WS_callRW rfl rfl rfl hS ?_)
 | (refine I_mov ?_; first
 | refine W_mov (v := .slice _ _ _) rfl rfl rfl ?_)
 | refine WS_nil ?_)
 | refine WC_seq ?_
 | refine WC_opsS ?_
 | refine WC_ret ?_)
      exact finX_N (t := .isnil) (s := 0) rfl (.inr rfl) ⟨.inr rfl, rfl⟩
    · obtain ⟨st4, hS, hR2⟩ := s_sort es hT.t2 (by simp at hlen; omega) st3 q c hR
      rw [← upd_self g3]
      repeat' (first
 | (refine I_WS ?_; first
 | (refine WS_callRW rfl rfl rfl hS ?_)
 | (refine I_mov ?_; first
 | refine W_mov (v := .rs _ _ _ _ _) rfl rfl rfl ?_)
 | refine WS_nil ?_)
 | refine WC_seq ?_
 | refine WC_opsS ?_
 | refine WC_ret ?_)
      exact finX_N (t := .row) (s := 2) rfl (.inl rfl) (fin_row (.inr rfl) rfl (by rw [List.length_map, (srtK_perm Rd.node es).length_eq]) (by decide) hR2 (fun d hd => by
        obtain ⟨e, _, rfl⟩ := List.mem_map.mp hd
        exact ⟨rfl, rfl⟩))
  · rw [decide_eq_false ha] at hA
    rw [if_neg ha]
    repeat' (first
 | (refine I_WS ?_; first
 | (refine I_mov ?_; first
 | refine W_mov (v := .int _ _) rfl rfl rfl ?_
 | refine W_mov (v := .slice _ _ _) rfl rfl rfl ?_)
 | (refine I_call ?_; first
 | refine W_call rfl rfl rfl (hA _) rfl rfl ?_)
 | refine W_not rfl rfl rfl ?_
 | refine WS_nil ?_)
 | refine WC_seq ?_
 | refine WC_opsS ?_
 | refine WC_condT rfl ?_
 | refine WC_ret ?_)
    exact finX_N (t := .isnil) (s := 0) rfl (.inr rfl) ⟨.inr rfl, rfl⟩
end Go.Eat

/-
  Plain laws of the earliest times.
-/
namespace Go.Eat
set_option linter.unusedVariables false
set_option linter.unusedSimpArgs false
theorem nd_le {α : Type} [DecidableEq α] : ∀ {l m : List α}, l.Nodup → (∀ x ∈ l, x ∈ m) → l.length ≤ m.length
  | [], m, _, _ => Nat.zero_le _
  | x :: l, m, hn, hs => by
    have hn' := List.nodup_cons.mp hn
    have hx := hs x List.mem_cons_self
    have ih := nd_le (l := l) (m := m.erase x) hn'.2 (fun y hy => (List.mem_erase_of_ne (fun e : y = x => hn'.1 (by rw [← e]; exact hy))).mpr (hs y (List.mem_cons_of_mem _ hy)))
    rw [List.length_erase_of_mem hx] at ih
    have := List.length_pos_of_mem hx
    rw [List.length_cons]
    omega
theorem atN_some {n u : Int} : ∀ {L : List Rd}, atN n L = some u → ⟨n, u⟩ ∈ L
  | [], h => by cases h
  | r :: L, h => by
    rw [atN] at h
    split at h
    · rename_i e
      cases h
      obtain ⟨a, b⟩ := r
      cases e
      exact List.mem_cons_self
    · exact List.mem_cons_of_mem _ (atN_some h)
theorem atN_of {L : List Rd} (hn : (L.map Rd.node).Nodup) {r : Rd} (hr : r ∈ L) : atN r.node L = some r.at' := by
  induction L with
  | nil => cases hr
  | cons x L ih =>
    have hn' := List.nodup_cons.mp hn
    rw [atN]
    rcases List.mem_cons.mp hr with rfl | hr
    · rw [if_pos rfl]
    · rw [if_neg (fun e : x.node = r.node => hn'.1 (by rw [e]; exact List.mem_map.mpr ⟨r, hr, rfl⟩))]
      exact ih hn'.2 hr
section
variable {ps : Eg → Int → Option Int} {cl : Int → Bool} {l : List Eg} {fr now : Int}
theorem IsT.perm {es es' : List Rd} (h : IsT ps cl l fr now es) (hp : es'.Perm es) : IsT ps cl l fr now es' :=
  ⟨fun x hx => h.t1 x (hp.mem_iff.mp hx), (hp.map Rd.node).nodup_iff.mpr h.t2, fun n t hr => by
    obtain ⟨y, hy, h1⟩ := h.t3 n t hr
    exact ⟨y, hp.mem_iff.mpr hy, h1⟩⟩
theorem IsT.at_ {es : List Rd} (h : IsT ps cl l fr now es) {n t : Int} (hr : Reach ps cl l fr now n t) : ∃ u, atN n es = some u ∧ u ≤ t := by
  obtain ⟨y, hy, rfl, h2⟩ := h.t3 n t hr
  exact ⟨y.at', atN_of h.t2 hy, h2⟩
theorem IsT.pos {es : List Rd} (h : IsT ps cl l fr now es) : 0 < es.length := by
  obtain ⟨y, hy, _⟩ := h.t3 fr now .here
  exact List.length_pos_of_mem hy
theorem reach_trans {n t m u : Int} (h : Reach ps cl l fr now n t) (h' : Reach ps cl l n t m u) : Reach ps cl l fr now m u := by
  induction h' with
  | here => exact h
  | go _ he hf hp hc ih => exact .go ih he hf hp hc
theorem reach_open {cl' : Int → Bool} (hc : ∀ n, cl n = false → cl' n = false) {n t : Int} (h : Reach ps cl l fr now n t) : Reach ps cl' l fr now n t := by
  induction h with
  | here => exact .here
  | go _ he hf hp h ih => exact .go ih he hf hp (hc _ h)
theorem reach_cl {n t : Int} (h : Reach ps cl l fr now n t) : n = fr ∨ cl n = false := by
  cases h with
  | here => exact .inl rfl
  | go _ _ _ _ hc => exact .inr hc
end
theorem reach_mono {cl : Int → Bool} {l : List Eg} {fr now later sz more : Int} (hn : 0 ≤ now) (hl : now ≤ later) (hs : 0 ≤ sz) (hm : sz ≤ more) {n t : Int} (h : Reach (psz more) cl l fr later n t) : ∃ t', t' ≤ t ∧ Reach (psz sz) cl l fr now n t' := by
  induction h with
  | here => exact ⟨now, hl, .here⟩
  | go _ he hf hp hc ih =>
    obtain ⟨t', h1, h2⟩ := ih
    obtain ⟨h3, rfl⟩ := psz_some.mp hp
    have := reach_ge h2
    obtain ⟨h4, h5⟩ := pass_mono h3 (by omega) h1 hs hm
    exact ⟨_, h5, .go h2 he hf (psz_some.mpr ⟨h4, rfl⟩) hc⟩
theorem reach_node {sz : Int} {cl : Int → Bool} {l : List Eg} {fr now n t : Int} (hf : 1 ≤ fr ∧ fr ≤ 255) (h : Reach (psz sz) cl l fr now n t) : 1 ≤ n ∧ n ≤ 255 := by
  cases h with
  | here => exact hf
  | go _ _ _ hp _ => exact pass_to (psz_some.mp hp).1
theorem reach_top {sz : Int} {cl : Int → Bool} {l : List Eg} {fr now n t : Int} (hf : now ≤ 1099511627776) (h : Reach (psz sz) cl l fr now n t) : t ≤ 1099511627776 := by
  cases h with
  | here => exact hf
  | go _ _ _ hp _ =>
    obtain ⟨h1, rfl⟩ := psz_some.mp hp
    have := pass_top h1
    omega
theorem times_isT {l : List Eg} {fr now sz : Int} (ha : AskC l fr now sz) (shut : List Int) : IsT (psz sz) (clS shut) l fr now (timesM l fr now sz shut) := by
  unfold timesM
  rw [if_pos ha]
  exact (dij_ask ha shut).perm (srtK_perm Rd.node _)
theorem times_no {l : List Eg} {fr now sz : Int} (ha : ¬ AskC l fr now sz) (shut : List Int) : timesM l fr now sz shut = [] := by
  unfold timesM
  rw [if_neg ha]
theorem times_mem {l : List Eg} {fr now sz : Int} {shut : List Int} {r : Rd} (hr : r ∈ timesM l fr now sz shut) : AskC l fr now sz := by
  by_cases ha : AskC l fr now sz
  · exact ha
  · rw [times_no ha] at hr
    cases hr
theorem pw_lt : ∀ {L : List Rd}, (L.Pairwise fun a b => a.node ≤ b.node) → (L.map Rd.node).Nodup → L.Pairwise fun a b => a.node < b.node
  | [], _, _ => List.Pairwise.nil
  | x :: L, h, hn => by
    have h' := List.pairwise_cons.mp h
    have hn' := List.nodup_cons.mp hn
    refine List.pairwise_cons.mpr ⟨fun y hy => ?_, pw_lt h'.2 hn'.2⟩
    have h1 := h'.1 y hy
    have h2 : x.node ≠ y.node := fun e => hn'.1 (by rw [e]; exact List.mem_map.mpr ⟨y, hy, rfl⟩)
    omega
theorem times_lt (l : List Eg) (fr now sz : Int) (shut : List Int) : (timesM l fr now sz shut).Pairwise fun a b => a.node < b.node := by
  by_cases ha : AskC l fr now sz
  · have := times_isT ha shut
    refine pw_lt ?_ this.t2
    unfold timesM
    rw [if_pos ha]
    exact srtK_sorted Rd.node _
  · rw [times_no ha]
    exact List.Pairwise.nil
/-- Each of these is there, no later. -/
def Cov (a b : List Rd) : Prop := ∀ r ∈ b, ∃ u, atN r.node a = some u ∧ u ≤ r.at'
theorem cov_earlier {l : List Eg} {fr now later sz more : Int} (hn : 0 ≤ now) (hl : now ≤ later) (hs : 0 ≤ sz) (hm : sz ≤ more) : Cov (timesM l fr now sz []) (timesM l fr later more []) := fun r hr => by
  have hb := times_mem hr
  have ha : AskC l fr now sz := ⟨hb.1, ⟨hs, by have := hb.2.1.2; omega⟩, ⟨hn, by have := hb.2.2.1.2; omega⟩, hb.2.2.2⟩
  obtain ⟨t', h1, h2⟩ := reach_mono hn hl hs hm ((times_isT hb []).t1 r hr)
  obtain ⟨u, h3, h4⟩ := (times_isT ha []).at_ h2
  exact ⟨u, h3, by omega⟩
theorem cov_len {a b : List Rd} (h : Cov a b) (hn : (b.map Rd.node).Nodup) : b.length ≤ a.length := by
  have := nd_le (m := a.map Rd.node) hn (fun x hx => by
    obtain ⟨r, hr, rfl⟩ := List.mem_map.mp hx
    obtain ⟨u, h1, _⟩ := h r hr
    exact List.mem_map.mpr ⟨_, atN_some h1, rfl⟩)
  simpa using this
theorem times_nodup (l : List Eg) (fr now sz : Int) (shut : List Int) : ((timesM l fr now sz shut).map Rd.node).Nodup := by
  by_cases ha : AskC l fr now sz
  · exact (times_isT ha shut).t2
  · rw [times_no ha]; simp
theorem cov_shut {l : List Eg} {fr now sz : Int} (shut : List Int) : Cov (timesM l fr now sz []) (timesM l fr now sz shut) := fun r hr => by
  have ha := times_mem hr
  exact (times_isT ha []).at_ (reach_open (fun n _ => by simp [clS]) ((times_isT ha shut).t1 r hr))
theorem shut_from {l : List Eg} {fr now sz : Int} {shut : List Int} {n u : Int} (hn : n ∈ shut) (h : atN n (timesM l fr now sz shut) = some u) : n = fr := by
  have hr := atN_some h
  rcases reach_cl ((times_isT (times_mem hr) shut).t1 _ hr) with h | h
  · exact h
  · have h : clS shut n = false := h
    simp [clS, hn] at h
theorem shut_pos {l : List Eg} {fr now sz : Int} (shut : List Int) : 0 < (timesM l fr now sz []).length ↔ 0 < (timesM l fr now sz shut).length := by
  by_cases ha : AskC l fr now sz
  · exact ⟨fun _ => (times_isT ha shut).pos, fun _ => (times_isT ha []).pos⟩
  · rw [times_no ha, times_no ha]
theorem join_ask {l : List Eg} {fr now sz m t : Int} (h : atN m (timesM l fr now sz []) = some t) : AskC l m t sz ∧ Reach (psz sz) (clS []) l fr now m t := by
  have hr := atN_some h
  have ha := times_mem hr
  have hR := (times_isT ha []).t1 _ hr
  have h1 := reach_ge hR
  have h2 := reach_top ha.2.2.1.2 hR
  have h3 := ha.2.2.1.1
  exact ⟨⟨reach_node ha.1 hR, ha.2.1, ⟨Int.le_trans h3 h1, h2⟩, ha.2.2.2⟩, hR⟩
theorem cov_join {l : List Eg} {fr now sz m t : Int} (h : atN m (timesM l fr now sz []) = some t) : Cov (timesM l fr now sz []) (timesM l m t sz []) ∧ (∀ r ∈ timesM l m t sz [], t ≤ r.at') ∧ 0 < (timesM l m t sz []).length := by
  obtain ⟨h1, h2⟩ := join_ask h
  have ha := times_mem (atN_some h)
  refine ⟨fun r hr => ?_, fun r hr => reach_ge ((times_isT h1 []).t1 r hr), (times_isT h1 []).pos⟩
  exact (times_isT ha []).at_ (reach_trans h2 ((times_isT h1 []).t1 r hr))
end Go.Eat

/-
  The reference's times are the same: plain lists.
-/
namespace Go.Eat
set_option linter.unusedVariables false
set_option linter.unusedSimpArgs false
/-- Times in which that of a node is so. -/
def putR (n t : Int) : List Rd → List Rd
  | [] => [⟨n, t⟩]
  | r :: l => if r.node < n then r :: putR n t l else if r.node = n then ⟨n, t⟩ :: l else ⟨n, t⟩ :: r :: l
/-- Times behind one edge more. -/
def step1 (sz : Int) (all : List Int) (R : List Rd) (e : Eg) : List Rd := match atN e.fr R with
  | some t => if e.to ∈ all then R else if passC e t sz then (match atN e.to R with
      | some u => if thereE e t sz < u then putR e.to (thereE e t sz) R else R
      | none => putR e.to (thereE e t sz) R) else R
  | none => R
def stepR (sz : Int) (all : List Int) (l : List Eg) (R : List Rd) : List Rd := l.foldl (step1 sz all) R
def iterR (sz : Int) (all : List Int) (l : List Eg) : Nat → List Rd → List Rd
  | 0, R => R
  | n + 1, R => iterR sz all l n (stepR sz all l R)
/-- By rising nodes. -/
def RS (R : List Rd) : Prop := R.Pairwise fun a b => a.node < b.node
theorem RS.nd {R : List Rd} (h : RS R) : (R.map Rd.node).Nodup := by
  rw [List.Nodup, List.pairwise_map]
  exact h.imp fun hab => by omega
theorem put_mem {n t : Int} : ∀ {R : List Rd}, RS R → ∀ {x : Rd}, x ∈ putR n t R ↔ x = ⟨n, t⟩ ∨ (x ∈ R ∧ x.node ≠ n)
  | [], _, x => by simp [putR]
  | r :: l, h, x => by
    have h' := List.pairwise_cons.mp h
    unfold putR
    split
    · rename_i hlt
      rw [List.mem_cons, put_mem h'.2, List.mem_cons]
      constructor
      · rintro (rfl | h1 | h1)
        · exact .inr ⟨.inl rfl, by omega⟩
        · exact .inl h1
        · exact .inr ⟨.inr h1.1, h1.2⟩
      · rintro (h1 | ⟨rfl | h1, h2⟩)
        · exact .inr (.inl h1)
        · exact .inl rfl
        · exact .inr (.inr ⟨h1, h2⟩)
    · split
      · rename_i heq
        simp only [List.mem_cons]
        constructor
        · rintro (h1 | h1)
          · exact .inl h1
          · have := h'.1 x h1
            exact .inr ⟨.inr h1, by omega⟩
        · rintro (h1 | ⟨rfl | h1, h2⟩)
          · exact .inl h1
          · exact absurd heq h2
          · exact .inr h1
      · rename_i hlt hne
        simp only [List.mem_cons]
        constructor
        · rintro (h1 | rfl | h1)
          · exact .inl h1
          · exact .inr ⟨.inl rfl, hne⟩
          · have := h'.1 x h1
            exact .inr ⟨.inr h1, by omega⟩
        · rintro (h1 | ⟨h1, _⟩)
          · exact .inl h1
          · exact .inr h1
theorem put_rs {n t : Int} : ∀ {R : List Rd}, RS R → RS (putR n t R)
  | [], _ => by simp [putR, RS]
  | r :: l, h => by
    have h' := List.pairwise_cons.mp h
    unfold putR
    split
    · rename_i hlt
      refine List.pairwise_cons.mpr ⟨fun y hy => ?_, put_rs h'.2⟩
      rcases (put_mem h'.2).mp hy with rfl | ⟨hy, _⟩
      · exact hlt
      · exact h'.1 y hy
    · split
      · rename_i heq
        refine List.pairwise_cons.mpr ⟨fun y hy => ?_, h'.2⟩
        have := h'.1 y hy
        show n < y.node
        omega
      · rename_i hlt hne
        refine List.pairwise_cons.mpr ⟨fun y hy => ?_, h⟩
        rcases List.mem_cons.mp hy with rfl | hy
        · show n < y.node; omega
        · have := h'.1 y hy
          show n < y.node; omega
theorem at_put {n t m : Int} {R : List Rd} (h : RS R) : atN m (putR n t R) = if m = n then some t else atN m R := by
  by_cases e : m = n
  · subst e
    rw [if_pos rfl]
    exact atN_of (put_rs h).nd ((put_mem h).mpr (.inl rfl)) (r := ⟨m, t⟩)
  · rw [if_neg e]
    cases ha : atN m R with
    | some u =>
      exact atN_of (put_rs h).nd ((put_mem h).mpr (.inr ⟨atN_some ha, e⟩)) (r := ⟨m, u⟩)
    | none =>
      cases hb : atN m (putR n t R) with
      | none => rfl
      | some u =>
        rcases (put_mem h).mp (atN_some hb) with h1 | ⟨h1, _⟩
        · cases h1; exact absurd rfl e
        · rw [atN_of h.nd h1] at ha
          cases ha
theorem rs_eq : ∀ {a b : List Rd}, RS a → RS b → (∀ x, x ∈ a ↔ x ∈ b) → a = b
  | [], [], _, _, _ => rfl
  | [], y :: b, _, _, h => by have := (h y).mpr List.mem_cons_self; cases this
  | x :: a, [], _, _, h => by have := (h x).mp List.mem_cons_self; cases this
  | x :: a, y :: b, ha, hb, h => by
    have ha' := List.pairwise_cons.mp ha
    have hb' := List.pairwise_cons.mp hb
    have e : x = y := by
      rcases List.mem_cons.mp ((h x).mp List.mem_cons_self) with h1 | h1
      · exact h1
      rcases List.mem_cons.mp ((h y).mpr List.mem_cons_self) with h2 | h2
      · exact h2.symm
      have e1 := hb'.1 x h1
      have e2 := ha'.1 y h2
      omega
    subst e
    congr 1
    refine rs_eq ha'.2 hb'.2 fun z => ?_
    constructor
    · intro hz
      rcases List.mem_cons.mp ((h z).mp (List.mem_cons_of_mem _ hz)) with rfl | h1
      · have := ha'.1 z hz; omega
      · exact h1
    · intro hz
      rcases List.mem_cons.mp ((h z).mpr (List.mem_cons_of_mem _ hz)) with rfl | h1
      · have := hb'.1 z hz; omega
      · exact h1
/-- Is a node there by then? -/
def Has (R : List Rd) (n t : Int) : Prop := ∃ u, atN n R = some u ∧ u ≤ t
section
variable {sz : Int} {all : List Int} {l : List Eg} {fr now : Int}
/-- What holds of the reference's times. -/
structure RI (sz : Int) (shut : List Int) (l : List Eg) (fr now : Int) (R : List Rd) : Prop where
  rs : RS R
  re : ∀ x ∈ R, Reach (psz sz) (clS shut) l fr now x.node x.at'
theorem step1_ri {shut : List Int} {R : List Rd} {e : Eg} (he : e ∈ l) (h : RI sz shut l fr now R) (hall : ∀ n, n ∉ all → n ∉ shut) : RI sz shut l fr now (step1 sz all R e) := by
  unfold step1
  split
  · rename_i t ht
    split
    · exact h
    · rename_i hna
      split
      · rename_i hc
        have hr : Reach (psz sz) (clS shut) l fr now e.to (thereE e t sz) := .go (h.re _ (atN_some ht)) he rfl (psz_some.mpr ⟨hc, rfl⟩) (by simp [clS, hall _ hna])
        have hp : RI sz shut l fr now (putR e.to (thereE e t sz) R) := ⟨put_rs h.rs, fun x hx => by
          rcases (put_mem h.rs).mp hx with rfl | ⟨h1, _⟩
          · exact hr
          · exact h.re x h1⟩
        split
        · split
          · exact hp
          · exact h
        · exact hp
      · exact h
  · exact h
theorem step1_has {R : List Rd} (hR : RS R) {e : Eg} {n t : Int} (h : Has R n t) : Has (step1 sz all R e) n t := by
  obtain ⟨u, h1, h2⟩ := h
  unfold step1
  split
  · rename_i t0 ht
    split
    · exact ⟨u, h1, h2⟩
    · split
      · split
        · rename_i v hv
          split
          · rename_i hlt
            by_cases en : n = e.to
            · subst en
              rw [hv] at h1
              cases h1
              exact ⟨_, by rw [at_put hR, if_pos rfl], by omega⟩
            · exact ⟨u, by rw [at_put hR, if_neg en]; exact h1, h2⟩
          · exact ⟨u, h1, h2⟩
        · rename_i hv
          by_cases en : n = e.to
          · subst en
            rw [hv] at h1
            cases h1
          · exact ⟨u, by rw [at_put hR, if_neg en]; exact h1, h2⟩
      · exact ⟨u, h1, h2⟩
  · exact ⟨u, h1, h2⟩
theorem step1_go {R : List Rd} (hR : RS R) {e : Eg} {t : Int} (h0 : ∀ u, atN e.fr R = some u → 0 ≤ u) (hs : 0 ≤ sz) (h : Has R e.fr t) (hc : passC e t sz) (hn : e.to ∉ all) : Has (step1 sz all R e) e.to (thereE e t sz) := by
  obtain ⟨u, h1, h2⟩ := h
  obtain ⟨h3, h4⟩ := pass_mono hc (h0 u h1) h2 hs (Int.le_refl _)
  unfold step1
  rw [h1]
  simp only
  rw [if_neg hn, if_pos h3]
  split
  · rename_i v hv
    split
    · exact ⟨_, by rw [at_put hR, if_pos rfl], h4⟩
    · exact ⟨v, hv, by omega⟩
  · exact ⟨_, by rw [at_put hR, if_pos rfl], h4⟩
theorem stepR_ri {shut : List Int} (hall : ∀ n, n ∉ all → n ∉ shut) : ∀ (l' : List Eg), (∀ e ∈ l', e ∈ l) → ∀ (R : List Rd), RI sz shut l fr now R → RI sz shut l fr now (stepR sz all l' R)
  | [], _, R, h => h
  | e :: l', hs, R, h => stepR_ri hall l' (fun x hx => hs x (List.mem_cons_of_mem _ hx)) (step1 sz all R e) (step1_ri (hs e List.mem_cons_self) h hall)
theorem step1_rs {R : List Rd} (hR : RS R) (e : Eg) : RS (step1 sz all R e) := by
  unfold step1
  repeat' split
  all_goals first | exact hR | exact put_rs hR
theorem stepR_has {n t : Int} : ∀ (l' : List Eg) (R : List Rd), RS R → Has R n t → Has (stepR sz all l' R) n t
  | [], R, _, h => h
  | e :: l', R, hR, h => stepR_has l' (step1 sz all R e) (step1_rs hR e) (step1_has hR h)
theorem stepR_app (a b : List Eg) (R : List Rd) : stepR sz all (a ++ b) R = stepR sz all b (stepR sz all a R) := by simp [stepR]
theorem stepR_go {shut : List Int} (hall : ∀ n, n ∉ all → n ∉ shut) (hn0 : 0 ≤ now) (hs : 0 ≤ sz) {R : List Rd} (h : RI sz shut l fr now R) {e : Eg} (he : e ∈ l) {t : Int} (hh : Has R e.fr t) (hc : passC e t sz) (hn : e.to ∉ all) : Has (stepR sz all l R) e.to (thereE e t sz) := by
  obtain ⟨l1, l2, hl⟩ := List.append_of_mem he
  have h1 := stepR_ri hall l1 (fun x hx => by rw [hl]; simp [hx]) R h
  have h2 := stepR_has (sz := sz) (all := all) l1 R h.rs hh
  have h3 := step1_go h1.rs (fun u hu => by have h9 : now ≤ u := reach_ge (h1.re _ (atN_some hu)); omega) hs h2 hc hn
  have h4 := stepR_has (sz := sz) (all := all) l2 _ (step1_rs h1.rs e) h3
  rw [hl, stepR_app]
  exact h4
theorem iterR_ri {shut : List Int} (hall : ∀ n, n ∉ all → n ∉ shut) : ∀ (k : Nat) (R : List Rd), RI sz shut l fr now R → RI sz shut l fr now (iterR sz all l k R)
  | 0, R, h => h
  | k + 1, R, h => iterR_ri hall k _ (stepR_ri hall l (fun _ h => h) R h)
theorem stepR_rs : ∀ (l' : List Eg) (R : List Rd), RS R → RS (stepR sz all l' R)
  | [], R, h => h
  | e :: l', R, h => stepR_rs l' _ (step1_rs h e)
theorem iterR_has {n t : Int} : ∀ (k : Nat) (R : List Rd), RS R → Has R n t → Has (iterR sz all l k R) n t
  | 0, R, _, h => h
  | k + 1, R, hR, h => iterR_has k _ (stepR_rs l R hR) (stepR_has l R hR h)
theorem iterR_add : ∀ (a b : Nat) (R : List Rd), iterR sz all l (a + b) R = iterR sz all l b (iterR sz all l a R)
  | 0, b, R => by rw [Nat.zero_add]; rfl
  | a + 1, b, R => by
    rw [show a + 1 + b = (a + b) + 1 by omega, iterR, iterR_add a b, iterR]
/-- One comes by an edge from one that is done. -/
def Pre (sz : Int) (shut : List Int) (l : List Eg) (fr now : Int) (p : List Rd) (y : Rd) : Prop := y = ⟨fr, now⟩ ∨ ∃ x ∈ p, ∃ e ∈ l, e.fr = x.node ∧ passC e x.at' sz ∧ y.node = e.to ∧ y.at' = thereE e x.at' sz ∧ clS shut e.to = false
theorem Pre.mono {shut : List Int} {p p' : List Rd} {y : Rd} (h : Pre sz shut l fr now p y) (hs : ∀ x ∈ p, x ∈ p') : Pre sz shut l fr now p' y := by
  rcases h with h | ⟨x, hx, r⟩
  · exact .inl h
  · exact .inr ⟨x, hs x hx, r⟩
theorem dij_pre {shut : List Int} : ∀ (n : Nat) (out s : List Rd), (∀ p y q, out = p ++ y :: q → Pre sz shut l fr now p y) → (∀ y ∈ s, Pre sz shut l fr now out y) → ∀ p y q, dij (psz sz) (clS shut) l n out s = p ++ y :: q → Pre sz shut l fr now p y
  | 0, out, s, h1, h2 => by rw [dij]; exact h1
  | n + 1, out, [], h1, h2 => by rw [dij]; exact h1
  | n + 1, out, r :: s, h1, h2 => by
    rw [dij]
    split
    · exact dij_pre n out s h1 (fun y hy => h2 y (List.mem_cons_of_mem _ hy))
    · refine dij_pre n _ _ (fun p y q hpq => ?_) (fun y hy => ?_)
      · rcases List.eq_nil_or_concat q with rfl | ⟨q', z, rfl⟩
        · obtain ⟨e1, e2⟩ := List.append_inj' (s₁ := out) (t₁ := [r]) (s₂ := p) (t₂ := [y]) hpq rfl
          cases e2
          subst e1
          exact h2 r List.mem_cons_self
        · have hpq' : out ++ [r] = (p ++ y :: q') ++ [z] := by rw [hpq]; simp
          obtain ⟨e1, _⟩ := List.append_inj' hpq' rfl
          exact h1 p y q' e1
      · rcases pushes_mem.mp hy with hy | ⟨e, he, k1, k2, _, k4⟩
        · exact (h2 y (List.mem_cons_of_mem _ hy)).mono (fun x hx => List.mem_append_left _ hx)
        · obtain ⟨he1, he2⟩ := List.mem_filter.mp he
          obtain ⟨k5, k6⟩ := psz_some.mp k2
          exact .inr ⟨r, by simp, e, he1, of_decide_eq_true he2, k5, k1, k6, k4⟩
theorem has_start {shut : List Int} : RI sz shut l fr now [⟨fr, now⟩] := ⟨by simp [RS], fun x hx => by
  rw [List.mem_singleton.mp hx]
  exact .here⟩
theorem has_out {shut : List Int} (hn0 : 0 ≤ now) (hs : 0 ≤ sz) {out : List Rd} (hp : ∀ p y q, out = p ++ y :: q → Pre sz shut l fr now p y) (hge : ∀ y ∈ out, now ≤ y.at') : ∀ (k : Nat) (p : List Rd) (y : Rd) (q : List Rd), p.length ≤ k → out = p ++ y :: q → Has (iterR sz (shut ++ [fr]) l k [⟨fr, now⟩]) y.node y.at' := by
  have hall : ∀ n, n ∉ shut ++ [fr] → n ∉ shut := fun n h hm => h (by simp [hm])
  have h0 : Has [⟨fr, now⟩] fr now := ⟨now, by simp [atN], Int.le_refl _⟩
  have hrs0 : RS [⟨fr, now⟩] := by simp [RS]
  have hst : ∀ (k : Nat) (y : Rd), y ∈ out → y.node = fr → Has (iterR sz (shut ++ [fr]) l k [⟨fr, now⟩]) y.node y.at' := fun k y hy e => by
    obtain ⟨u, h1, h2⟩ := iterR_has (sz := sz) (all := shut ++ [fr]) (l := l) k _ hrs0 h0
    have := hge y hy
    exact ⟨u, by rw [e]; exact h1, by omega⟩
  intro k
  induction k with
  | zero =>
    intro p y q hpl hpq
    have : p = [] := List.length_eq_zero_iff.mp (by omega)
    subst this
    rcases hp [] y q hpq with rfl | ⟨x, hx, _⟩
    · exact h0
    · cases hx
  | succ k ih =>
    intro p y q hpl hpq
    have hym : y ∈ out := by rw [hpq]; simp
    by_cases hyf : y.node = fr
    · exact hst _ y hym hyf
    rcases hp p y q hpq with rfl | ⟨x, hx, e, he, k1, k2, k3, k4, k5⟩
    · exact absurd rfl hyf
    · obtain ⟨p1, p2, hp12⟩ := List.append_of_mem hx
      have hxh := ih p1 x (p2 ++ y :: q) (by rw [hp12] at hpl; simp at hpl; omega) (by rw [hpq, hp12]; simp)
      have hri := iterR_ri (sz := sz) (l := l) (fr := fr) (now := now) hall k _ has_start
      rw [iterR_add k 1]
      have hn : e.to ∉ shut ++ [fr] := fun hm => by
        rcases List.mem_append.mp hm with hm | hm
        · simp [clS, hm] at k5
        · rw [List.mem_singleton] at hm
          exact hyf (k3.trans hm)
      have := stepR_go hall hn0 hs hri he (by rw [k1]; exact hxh) k2 hn
      rw [k3, k4]
      exact this
end
/-- The reference's times are the same. -/
theorem iter_eq {l : List Eg} {fr now sz : Int} (ha : AskC l fr now sz) (shut : List Int) : iterR sz (shut ++ [fr]) l (l.length + 1) [⟨fr, now⟩] = timesM l fr now sz shut := by
  have hT := times_isT ha shut
  have hall : ∀ n, n ∉ shut ++ [fr] → n ∉ shut := fun n h hm => h (by simp [hm])
  have hri := iterR_ri (sz := sz) (l := l) (fr := fr) (now := now) (shut := shut) hall (l.length + 1) _ has_start
  have hlt := times_lt l fr now sz shut
  have hhas : ∀ x ∈ timesM l fr now sz shut, Has (iterR sz (shut ++ [fr]) l (l.length + 1) [⟨fr, now⟩]) x.node x.at' := fun x hx => by
    have hx' : x ∈ dij (psz sz) (clS shut) l (l.length + 1) [] [⟨fr, now⟩] := by
      unfold timesM at hx
      rw [if_pos ha] at hx
      exact (srtK_perm Rd.node _).mem_iff.mp hx
    have hout := dij_ask ha shut
    have hlen := dij_len (psz sz) (clS shut) l (l.length + 1) [] [⟨fr, now⟩]
    have hpre := dij_pre (sz := sz) (l := l) (fr := fr) (now := now) (shut := shut) (l.length + 1) [] [⟨fr, now⟩] (fun p y q h => by simp at h) (fun y hy => .inl (List.mem_singleton.mp hy))
    generalize dij (psz sz) (clS shut) l (l.length + 1) [] [⟨fr, now⟩] = out at *
    obtain ⟨p, q, hpq⟩ := List.append_of_mem hx'
    exact has_out ha.2.2.1.1 ha.2.1.1 hpre (fun y hy => reach_ge (hout.t1 y hy)) (l.length + 1) p x q (by rw [hpq] at hlen; simp at hlen; omega) hpq
  refine rs_eq hri.rs hlt fun x => ⟨fun hx => ?_, fun hx => ?_⟩
  · obtain ⟨u, h1, h2⟩ := hT.at_ (hri.re x hx)
    obtain ⟨v, h3, h4⟩ := hhas _ (atN_some h1)
    rw [atN_of hri.rs.nd hx] at h3
    cases h3
    have e : u = x.at' := by have : x.at' ≤ u := h4; omega
    rw [e] at h1
    exact atN_some h1
  · obtain ⟨v, h1, h2⟩ := hhas x hx
    obtain ⟨u, h3, h4⟩ := hT.at_ (hri.re _ (atN_some h1))
    have h3 : atN x.node (timesM l fr now sz shut) = some u := h3
    rw [atN_of hT.t2 hx] at h3
    cases h3
    have e : v = x.at' := by have : x.at' ≤ v := h4; omega
    rw [e] at h1
    exact atN_some h1
end Go.Eat

/-
  The reference's hop, and what is asked.
-/
namespace Go.Eat
open Go.Ev
set_option linter.unusedVariables false
set_option linter.unusedSimpArgs false
theorem r_Node (n : Int) : EvP Γ 56 [.int .i64 n] (.bool (decide (1 ≤ n ∧ n ≤ 255))) := by
  refine EvP_code rfl rfl ?_
  repeat' (first
 | (refine I_WS ?_; first
 | (refine I_mov ?_; first
 | refine W_skip rfl ?_
 | refine W_mov (v := .int _ _) rfl rfl rfl ?_
 | refine W_mov (v := .bool _) rfl rfl rfl ?_)
 | (refine I_bin ?_; first
 | refine W_skip rfl ?_
 | (refine W_leq rfl rfl rfl rfl ?_ ?_ <;> intro _)
 | (refine W_geq rfl rfl rfl rfl ?_ ?_ <;> intro _))
 | (refine I_pick ?_; first
 | refine W_pick (v := .bool _) rfl rfl rfl rfl ?_)
 | refine WS_nil ?_)
 | refine WC_seq ?_
 | refine WC_opsS ?_
 | refine WC_ret ?_)
  all_goals (refine fin_bool (by simp) rfl ?_; first | (simp_all; done) | (simp_all; omega) | (simp only [eq_comm (a := true), eq_comm (a := false), decide_eq_true_eq, decide_eq_false_iff_not] at *; omega) | grind)
theorem r_Ceil (a b : Int) (ha : 0 ≤ a) (ha2 : a ≤ 4611686018427387904) (hb : 1 ≤ b) : EvP Γ 77 [.int .i64 a, .int .i64 b] (.tuple [.int .i64 (ceilI a b), .bool true]) := by
  refine EvP_code rfl rfl ?_
  unfold ceilI
  have h1 : 0 ≤ a.tdiv b ∧ a.tdiv b ≤ a := by
    rw [Int.tdiv_eq_ediv_of_nonneg ha]
    exact ⟨Int.ediv_nonneg ha (by omega), Int.ediv_le_self _ ha⟩
  have h2 : 0 ≤ a.tmod b := by
    rw [Int.tmod_eq_emod_of_nonneg ha]
    exact Int.emod_nonneg a (by omega)
  generalize hq : a.tdiv b = q at *
  generalize hr : a.tmod b = r at *
  have hb0 : b ≠ 0 := by omega
  have hq' : IntKind.wrap .i64 (a.tdiv b) = q := by rw [hq]; exact w64 (by omega)
  have hsum : IntKind.wrap .i64 (q + 1) = q + 1 := w64 (by omega)
  by_cases h0 : r = 0
  · have e : (q + if 1 < r then 1 else r) = q := by split <;> omega
    rw [e]
    repeat' (first
 | (refine I_WS ?_; first
 | refine W_quo (s := q) rfl rfl rfl rfl hb0 hq' ?_
 | refine W_rem (s := r) rfl rfl rfl rfl hb0 hr ?_
 | (refine I_mov ?_; first
 | refine W_mov (v := .int _ _) rfl rfl rfl ?_
 | refine W_mov (v := .bool _) rfl rfl rfl ?_)
 | (refine I_bin ?_; first
 | refine W_lssF rfl rfl rfl rfl (by omega) ?_
 | refine W_neqF rfl rfl rfl rfl (by omega) ?_)
 | (refine I_pick ?_; first
 | refine W_pick (v := .bool _) rfl rfl rfl rfl ?_)
 | refine WS_nil ?_)
 | refine WC_seq ?_
 | refine WC_opsS ?_
 | refine WC_skip ?_
 | refine WC_condF rfl ?_
 | refine WC_ret ?_)
    exact fin_ground (r' := .tuple [.int _ _, .bool _]) (.inr rfl) rfl rfl rfl
  · have e : (q + if 1 < r then 1 else r) = q + 1 := by split <;> omega
    rw [e]
    repeat' (first
 | (refine I_WS ?_; first
 | refine W_quo (s := q) rfl rfl rfl rfl hb0 hq' ?_
 | refine W_rem (s := r) rfl rfl rfl rfl hb0 hr ?_
 | refine W_add rfl rfl rfl rfl hsum ?_
 | (refine I_mov ?_; first
 | refine W_mov (v := .int _ _) rfl rfl rfl ?_
 | refine W_mov (v := .bool _) rfl rfl rfl ?_)
 | (refine I_bin ?_; first
 | refine W_lssF rfl rfl rfl rfl (by omega) ?_
 | refine W_neqT rfl rfl rfl rfl (by omega) ?_)
 | (refine I_pick ?_; first
 | refine W_pick (v := .bool _) rfl rfl rfl rfl ?_)
 | refine WS_nil ?_)
 | refine WC_seq ?_
 | refine WC_opsS ?_
 | refine WC_skip ?_
 | refine WC_condT rfl ?_
 | refine WC_condF rfl ?_
 | refine WC_ret ?_)
    exact fin_ground (r' := .tuple [.int _ _, .bool _]) (.inr rfl) rfl rfl rfl
set_option maxHeartbeats 8000000 in
theorem r_hRight (x : Eg) : EvP Γ 76 [x.e] (.bool (decide x.ok)) := by
  refine EvP_code rfl rfl ?_
  have hN1 := r_Node x.fr
  have hN2 := r_Node x.to
  by_cases h : x.ok
  · rw [decide_eq_true h]
    obtain ⟨⟨h1, h2, h3⟩, ⟨h4, h5, h6⟩, h7, h8, h9⟩ := h
    rw [decide_eq_true h1] at hN1
    rw [decide_eq_true h2] at hN2
    repeat' (first
 | (refine I_WS ?_; first
 | (refine I_mov ?_; first
 | refine W_mov (v := .bool _) rfl rfl rfl ?_)
 | (refine I_bin ?_; first
 | refine W_lssF rfl rfl rfl rfl (by omega) ?_
 | refine W_leqT rfl rfl rfl rfl (by omega) ?_
 | refine W_gtrF rfl rfl rfl rfl (by omega) ?_
 | refine W_geqT rfl rfl rfl rfl (by omega) ?_
 | refine W_eqlF rfl rfl rfl rfl (by omega) ?_)
 | (refine I_load ?_; first
 | refine W_load (agg := false) (d := .int _ _) rfl rfl rfl rfl (by first | exact Nat.zero_le _ | omega) rfl ?_)
 | (refine I_call ?_; first
 | refine W_call rfl rfl rfl hN1 rfl rfl ?_
 | refine W_call rfl rfl rfl hN2 rfl rfl ?_)
 | (refine I_pick ?_; first
 | refine W_pick (v := .bool _) rfl rfl rfl rfl ?_)
 | (refine I_box ?_; first
 | refine W_boxA rfl rfl rfl rfl rfl ?_)
 | refine W_not rfl rfl rfl ?_
 | refine W_faddr rfl rfl rfl ?_
 | refine WS_nil ?_)
 | refine WC_seq ?_
 | refine WC_opsS ?_
 | refine WC_skip ?_
 | refine WC_condF rfl ?_
 | refine WC_ret ?_)
    all_goals first | exact fin_bool (.inr rfl) rfl rfl | (exfalso; omega)
  · rw [decide_eq_false h]
    unfold Eg.ok at h
    by_cases h1 : 1 ≤ x.fr ∧ x.fr ≤ 255
    · by_cases h2 : 1 ≤ x.to ∧ x.to ≤ 255
      · rw [decide_eq_true h1] at hN1
        rw [decide_eq_true h2] at hN2
        repeat' (first
 | (refine I_WS ?_; first
 | (refine I_mov ?_; first
 | refine W_mov (v := .bool _) rfl rfl rfl ?_)
 | (refine I_bin ?_; first
 | refine W_skip rfl ?_
 | (refine W_lss rfl rfl rfl rfl ?_ ?_ <;> intro _)
 | refine W_leqF rfl rfl rfl rfl (by omega) ?_
 | (refine W_leq rfl rfl rfl rfl ?_ ?_ <;> intro _)
 | (refine W_gtr rfl rfl rfl rfl ?_ ?_ <;> intro _)
 | (refine W_geq rfl rfl rfl rfl ?_ ?_ <;> intro _)
 | (refine W_eql rfl rfl rfl rfl ?_ ?_ <;> intro _))
 | (refine I_load ?_; first
 | refine W_skip rfl ?_
 | refine W_load (agg := false) (d := .int _ _) rfl rfl rfl rfl (by first | exact Nat.zero_le _ | omega) rfl ?_)
 | (refine I_call ?_; first
 | refine W_call rfl rfl rfl hN1 rfl rfl ?_
 | refine W_call rfl rfl rfl hN2 rfl rfl ?_)
 | (refine I_pick ?_; first
 | refine W_pick (v := .bool _) rfl rfl rfl rfl ?_)
 | (refine I_box ?_; first
 | refine W_boxA rfl rfl rfl rfl rfl ?_)
 | refine W_not rfl rfl rfl ?_
 | refine W_faddr rfl rfl rfl ?_
 | refine W_skip rfl ?_
 | refine WS_nil ?_)
 | refine WC_seq ?_
 | refine WC_opsS ?_
 | refine WC_skip ?_
 | refine WC_condT rfl ?_
 | refine WC_condF rfl ?_
 | refine WC_ret ?_)
        all_goals first | exact fin_bool (.inr rfl) rfl rfl | (exfalso; omega)
      · rw [decide_eq_true h1] at hN1
        rw [decide_eq_false h2] at hN2
        repeat' (first
 | (refine I_WS ?_; first
 | (refine I_mov ?_; first
 | refine W_mov (v := .bool _) rfl rfl rfl ?_)
 | (refine I_bin ?_; first
 | refine W_skip rfl ?_)
 | (refine I_load ?_; first
 | refine W_skip rfl ?_
 | refine W_load (agg := false) (d := .int _ _) rfl rfl rfl rfl (by first | exact Nat.zero_le _ | omega) rfl ?_)
 | (refine I_call ?_; first
 | refine W_call rfl rfl rfl hN1 rfl rfl ?_
 | refine W_call rfl rfl rfl hN2 rfl rfl ?_)
 | (refine I_pick ?_; first
 | refine W_pick (v := .bool _) rfl rfl rfl rfl ?_)
 | (refine I_box ?_; first
 | refine W_boxA rfl rfl rfl rfl rfl ?_)
 | refine W_not rfl rfl rfl ?_
 | refine W_faddr rfl rfl rfl ?_
 | refine W_skip rfl ?_
 | refine WS_nil ?_)
 | refine WC_seq ?_
 | refine WC_opsS ?_
 | refine WC_condT rfl ?_
 | refine WC_ret ?_)
        all_goals exact fin_bool (.inr rfl) rfl rfl
    · rw [decide_eq_false h1] at hN1
      generalize decide (1 ≤ x.to ∧ x.to ≤ 255) = q at hN2
      repeat' (first
 | (refine I_WS ?_; first
 | (refine I_mov ?_; first
 | refine W_skip rfl ?_
 | refine W_mov (v := .bool _) rfl rfl rfl ?_)
 | (refine I_bin ?_; first
 | refine W_skip rfl ?_)
 | (refine I_load ?_; first
 | refine W_skip rfl ?_
 | refine W_load (agg := false) (d := .int _ _) rfl rfl rfl rfl (by first | exact Nat.zero_le _ | omega) rfl ?_)
 | (refine I_call ?_; first
 | refine W_call rfl rfl rfl hN1 rfl rfl ?_
 | refine W_call rfl rfl rfl hN2 rfl rfl ?_)
 | (refine I_pick ?_; first
 | refine W_pick (v := .bool _) rfl rfl rfl rfl ?_)
 | (refine I_box ?_; first
 | refine W_boxA rfl rfl rfl rfl rfl ?_)
 | refine W_not rfl rfl rfl ?_
 | refine W_faddr rfl rfl rfl ?_
 | refine W_skip rfl ?_
 | refine WS_nil ?_)
 | refine WC_seq ?_
 | refine WC_opsS ?_
 | refine WC_condT rfl ?_
 | refine WC_ret ?_)
      all_goals exact fin_bool (.inr rfl) rfl rfl
theorem r_right (x : Eg) (t sz : Int) : EvP Γ 58 [x.e, .int .i64 t, .int .i64 sz] (.bool (decide (rightE x t sz))) := by
  refine EvP_code rfl rfl ?_
  have hR := r_hRight x
  by_cases h : rightE x t sz
  · rw [decide_eq_true h]
    obtain ⟨h1, h2, h3⟩ := h
    rw [decide_eq_true h3] at hR
    repeat' (first
 | (refine I_WS ?_; first
 | (refine I_mov ?_; first
 | refine W_mov (v := .int _ _) rfl rfl rfl ?_
 | refine W_mov (v := .bool _) rfl rfl rfl ?_)
 | (refine I_bin ?_; first
 | refine W_leqT rfl rfl rfl rfl (by omega) ?_
 | refine W_geqT rfl rfl rfl rfl (by omega) ?_)
 | (refine I_load ?_; first
 | refine W_load (agg := true) (d := .agg [_, _, _, _, _, _, _, _]) rfl rfl rfl rfl (by first | exact Nat.zero_le _ | omega) rfl ?_)
 | (refine I_call ?_; first
 | refine W_call rfl rfl rfl hR rfl rfl ?_)
 | (refine I_pick ?_; first
 | refine W_pick (v := .bool _) rfl rfl rfl rfl ?_)
 | (refine I_box ?_; first
 | refine W_boxA rfl rfl rfl rfl rfl ?_)
 | refine WS_nil ?_)
 | refine WC_seq ?_
 | refine WC_opsS ?_
 | refine WC_ret ?_)
    all_goals first | exact fin_bool (.inr rfl) rfl rfl | (exfalso; omega)
  · rw [decide_eq_false h]
    by_cases h3 : x.ok
    · have h' : ¬ ((0 ≤ t ∧ t ≤ 1099511627776) ∧ (0 ≤ sz ∧ sz ≤ 1099511627775)) := fun k => h ⟨k.1, k.2, h3⟩
      rw [decide_eq_true h3] at hR
      repeat' (first
 | (refine I_WS ?_; first
 | (refine I_mov ?_; first
 | refine W_skip rfl ?_
 | refine W_mov (v := .int _ _) rfl rfl rfl ?_
 | refine W_mov (v := .bool _) rfl rfl rfl ?_)
 | (refine I_bin ?_; first
 | refine W_skip rfl ?_
 | refine W_leqF rfl rfl rfl rfl (by omega) ?_
 | (refine W_leq rfl rfl rfl rfl ?_ ?_ <;> intro _)
 | (refine W_geq rfl rfl rfl rfl ?_ ?_ <;> intro _))
 | (refine I_load ?_; first
 | refine W_load (agg := true) (d := .agg [_, _, _, _, _, _, _, _]) rfl rfl rfl rfl (by first | exact Nat.zero_le _ | omega) rfl ?_)
 | (refine I_call ?_; first
 | refine W_call rfl rfl rfl hR rfl rfl ?_)
 | (refine I_pick ?_; first
 | refine W_pick (v := .bool _) rfl rfl rfl rfl ?_)
 | (refine I_box ?_; first
 | refine W_boxA rfl rfl rfl rfl rfl ?_)
 | refine WS_nil ?_)
 | refine WC_seq ?_
 | refine WC_opsS ?_
 | refine WC_ret ?_)
      all_goals first | exact fin_bool (.inr rfl) rfl rfl | (exfalso; omega)
    · rw [decide_eq_false h3] at hR
      repeat' (first
 | (refine I_WS ?_; first
 | (refine I_mov ?_; first
 | refine W_skip rfl ?_
 | refine W_mov (v := .bool _) rfl rfl rfl ?_)
 | (refine I_bin ?_; first
 | refine W_skip rfl ?_)
 | (refine I_load ?_; first
 | refine W_load (agg := true) (d := .agg [_, _, _, _, _, _, _, _]) rfl rfl rfl rfl (by first | exact Nat.zero_le _ | omega) rfl ?_)
 | (refine I_call ?_; first
 | refine W_call rfl rfl rfl hR rfl rfl ?_)
 | (refine I_pick ?_; first
 | refine W_pick (v := .bool _) rfl rfl rfl rfl ?_)
 | (refine I_box ?_; first
 | refine W_boxA rfl rfl rfl rfl rfl ?_)
 | refine WS_nil ?_)
 | refine WC_seq ?_
 | refine WC_opsS ?_
 | refine WC_ret ?_)
      all_goals exact fin_bool (.inr rfl) rfl rfl
theorem r_Takes (x : Eg) (sz : Int) : EvP Γ 59 [x.e, .int .i64 sz] (.int .i64 (takesE x sz)) := by
  refine EvP_code rfl rfl ?_
  unfold takesE
  by_cases h : rightE x 0 sz
  · rw [if_pos h]
    have hc := r_Ceil sz x.ra h.2.1.1 (by have := h.2.1.2; omega) h.2.2.2.2.2.1.1
    have hr := r_right x 0 sz
    rw [decide_eq_true h] at hr
    generalize ceilI sz x.ra = c at hc ⊢
    repeat' (first
 | (refine I_WS ?_; first
 | (refine I_mov ?_; first
 | refine W_mov (v := .int _ _) rfl rfl rfl ?_
 | refine W_mov (v := .bool _) rfl rfl rfl ?_
 | refine W_mov (v := .tuple _) rfl rfl rfl ?_)
 | (refine I_load ?_; first
 | refine W_load (agg := false) (d := .int _ _) rfl rfl rfl rfl (by first | exact Nat.zero_le _ | omega) rfl ?_
 | refine W_load (agg := true) (d := .agg [_, _, _, _, _, _, _, _]) rfl rfl rfl rfl (by first | exact Nat.zero_le _ | omega) rfl ?_)
 | (refine I_call ?_; first
 | refine W_call rfl rfl rfl hr rfl rfl ?_
 | refine W_call rfl rfl rfl hc rfl rfl ?_)
 | (refine I_extract ?_; first
 | refine W_extract (d := .int _ _) rfl rfl rfl rfl ?_
 | refine W_extract (d := .bool _) rfl rfl rfl rfl ?_)
 | (refine I_box ?_; first
 | refine W_boxA rfl rfl rfl rfl rfl ?_)
 | refine W_not rfl rfl rfl ?_
 | refine W_faddr rfl rfl rfl ?_
 | refine WS_nil ?_)
 | refine WC_seq ?_
 | refine WC_opsS ?_
 | refine WC_skip ?_
 | refine WC_condF rfl ?_
 | refine WC_ret ?_)
    exact fin_int (.inr rfl) rfl rfl
  · rw [if_neg h]
    have hr := r_right x 0 sz
    rw [decide_eq_false h] at hr
    repeat' (first
 | (refine I_WS ?_; first
 | (refine I_mov ?_; first
 | refine W_mov (v := .int _ _) rfl rfl rfl ?_)
 | (refine I_load ?_; first
 | refine W_load (agg := true) (d := .agg [_, _, _, _, _, _, _, _]) rfl rfl rfl rfl (by first | exact Nat.zero_le _ | omega) rfl ?_)
 | (refine I_call ?_; first
 | refine W_call rfl rfl rfl hr rfl rfl ?_)
 | (refine I_box ?_; first
 | refine W_boxA rfl rfl rfl rfl rfl ?_)
 | refine W_not rfl rfl rfl ?_
 | refine WS_nil ?_)
 | refine WC_seq ?_
 | refine WC_opsS ?_
 | refine WC_condT rfl ?_
 | refine WC_ret ?_)
    exact fin_int (.inr rfl) rfl rfl
set_option maxHeartbeats 4000000 in
theorem r_Pass (x : Eg) (t sz : Int) : EvP Γ 60 [x.e, .int .i64 t, .int .i64 sz] (passT x t sz) := by
  refine EvP_code rfl rfl ?_
  have hT := r_Takes x sz
  have hk := takes_in x sz
  have hr := r_right x t sz
  unfold passT
  by_cases h1 : rightE x t sz
  · have h1' := h1
    obtain ⟨ht, hs, hok⟩ := h1'
    have hop := hok.2.1.1
    have hen := hok.2.1.2.1
    have how := hok.2.1.2.2
    have hro := hok.2.2.2.2
    have hm := le_mx (a := t) (b := x.op)
    have hm1 := le_mx (a := takesE x sz) (b := 1)
    have hmo : mx t x.op ≤ 1099511627776 := mx_le.mpr ⟨ht.2, hop.2⟩
    have hml : ∀ c, mx (takesE x sz) 1 ≤ c ↔ takesE x sz ≤ c ∧ 1 ≤ c := fun c => mx_le
    rw [decide_eq_true h1] at hr
    by_cases hc : passC x t sz
    · rw [if_pos hc]
      have hc2 := hc.2
      unfold thereE
      clear hok hc h1 hml
      generalize takesE x sz = k at *
      generalize e1 : mx t x.op = m at *
      generalize mx k 1 = k1 at *
      repeat' (first
 | (refine I_WS ?_; first
 | refine W_mx rfl rfl rfl rfl e1 ?_
 | (refine I_mov ?_; first
 | refine W_mov (v := .int _ _) rfl rfl rfl ?_
 | refine W_mov (v := .bool _) rfl rfl rfl ?_)
 | (refine I_bin ?_; first
 | refine W_gtrF rfl rfl rfl rfl (by omega) ?_
 | refine W_geqF rfl rfl rfl rfl (by omega) ?_
 | refine W_add rfl rfl rfl rfl (by first | exact w64 (by omega) | rfl) ?_)
 | (refine I_load ?_; first
 | refine W_load (agg := false) (d := .int _ _) rfl rfl rfl rfl (by first | exact Nat.zero_le _ | omega) rfl ?_
 | refine W_load (agg := true) (d := .agg [_, _, _, _, _, _, _, _]) rfl rfl rfl rfl (by first | exact Nat.zero_le _ | omega) rfl ?_)
 | (refine I_call ?_; first
 | refine W_call rfl rfl rfl hr rfl rfl ?_
 | refine W_call rfl rfl rfl hT rfl rfl ?_)
 | (refine I_pick ?_; first
 | refine W_pick (v := .bool _) rfl rfl rfl rfl ?_)
 | (refine I_box ?_; first
 | refine W_boxA rfl rfl rfl rfl rfl ?_)
 | refine W_not rfl rfl rfl ?_
 | refine W_faddr rfl rfl rfl ?_
 | refine WS_nil ?_)
 | refine WC_seq ?_
 | refine WC_opsS ?_
 | refine WC_drawS ?_
 | refine WC_skip ?_
 | refine WC_condF rfl ?_
 | refine WC_ret ?_
 | refine okF_intro rfl ?_)
      all_goals first
        | exact fin_ground (r' := .tuple [.int _ _, .int _ _, .bool _]) (.inr rfl) rfl rfl rfl
        | (exfalso; omega)
    · rw [if_neg hc]
      have hc2 : ¬ (sz ≤ x.ro ∧ takesE x sz ≤ x.en - mx t x.op ∧ 1 ≤ x.en - mx t x.op) := fun h => hc ⟨h1, h.1, by have := (hml (x.en - mx t x.op)).mpr h.2; omega⟩
      clear hok hc h1 hml hm1
      generalize takesE x sz = k at *
      generalize e1 : mx t x.op = m at *
      repeat' (first
 | (refine I_WS ?_; first
 | refine W_mx rfl rfl rfl rfl e1 ?_
 | (refine I_mov ?_; first
 | refine W_skip rfl ?_
 | refine W_mov (v := .int _ _) rfl rfl rfl ?_
 | refine W_mov (v := .bool _) rfl rfl rfl ?_)
 | (refine I_bin ?_; first
 | refine W_skip rfl ?_
 | refine W_gtrT rfl rfl rfl rfl (by omega) ?_
 | (refine W_gtr rfl rfl rfl rfl ?_ ?_ <;> intro _)
 | (refine W_geq rfl rfl rfl rfl ?_ ?_ <;> intro _)
 | refine W_add rfl rfl rfl rfl (by first | exact w64 (by omega) | rfl) ?_)
 | (refine I_load ?_; first
 | refine W_skip rfl ?_
 | refine W_load (agg := false) (d := .int _ _) rfl rfl rfl rfl (by first | exact Nat.zero_le _ | omega) rfl ?_
 | refine W_load (agg := true) (d := .agg [_, _, _, _, _, _, _, _]) rfl rfl rfl rfl (by first | exact Nat.zero_le _ | omega) rfl ?_)
 | (refine I_call ?_; first
 | refine W_call rfl rfl rfl hr rfl rfl ?_
 | refine W_call rfl rfl rfl hT rfl rfl ?_)
 | (refine I_pick ?_; first
 | refine W_pick (v := .bool _) rfl rfl rfl rfl ?_)
 | (refine I_box ?_; first
 | refine W_boxA rfl rfl rfl rfl rfl ?_)
 | refine W_not rfl rfl rfl ?_
 | refine W_faddr rfl rfl rfl ?_
 | refine W_skip rfl ?_
 | refine WS_nil ?_)
 | refine WC_seq ?_
 | refine WC_opsS ?_
 | refine WC_skip ?_
 | refine WC_condT rfl ?_
 | refine WC_condF rfl ?_
 | refine WC_ret ?_)
      all_goals first
        | exact fin_ground (r' := .tuple [.int _ _, .int _ _, .bool _]) (.inr rfl) rfl rfl rfl
        | (exfalso; omega)
  · rw [decide_eq_false h1] at hr
    rw [if_neg (fun h => h1 h.1)]
    repeat' (first
 | (refine I_WS ?_; first
 | (refine I_mov ?_; first
 | refine W_mov (v := .int _ _) rfl rfl rfl ?_
 | refine W_mov (v := .bool _) rfl rfl rfl ?_)
 | (refine I_load ?_; first
 | refine W_load (agg := true) (d := .agg [_, _, _, _, _, _, _, _]) rfl rfl rfl rfl (by first | exact Nat.zero_le _ | omega) rfl ?_)
 | (refine I_call ?_; first
 | refine W_call rfl rfl rfl hr rfl rfl ?_)
 | (refine I_box ?_; first
 | refine W_boxA rfl rfl rfl rfl rfl ?_)
 | refine W_not rfl rfl rfl ?_
 | refine WS_nil ?_)
 | refine WC_seq ?_
 | refine WC_opsS ?_
 | refine WC_condT rfl ?_
 | refine WC_ret ?_)
    all_goals exact fin_ground (r' := .tuple [.int _ _, .int _ _, .bool _]) (.inr rfl) rfl rfl rfl
set_option maxHeartbeats 4000000 in
theorem rl_R (l : List Eg) (hll : l.length ≤ 1073741824) (t : Tok) (sz : Nat) (hs : sz = 8 ∨ l = []) : ∀ (post pre : List Eg), l = pre ++ post → RL pre → ∀ (ρ : Nat → D) (st : Store),
    ρ 0 = .slice t sz (l.map Eg.e) → ρ 3 = .int .i64 pre.length → ∀ (Q : X → (Nat → D) → Store → Prop),
    (RL l → ∀ ρ', Q (.exit 0) ρ' st) → (¬ RL l → ∀ ρ', ρ' 2 = .bool false → Q .ret ρ' st) → WC Γ (.loop c_feluccaref12_Right_l0) ρ st Q := by
  intro post
  induction post with
  | nil =>
    intro pre hpp hR ρ st h0 h3 Q hQ hQ2
    rw [List.append_nil] at hpp
    subst hpp
    rw [← upd_self h0, ← upd_self h3]
    refine WC_loop ?_
    repeat' (first
 | (refine I_WS ?_; first
 | (refine I_mov ?_; first
 | refine W_mov (v := .int _ _) rfl rfl rfl ?_
 | refine W_mov (v := .slice _ _ _) rfl rfl rfl ?_)
 | (refine I_bin ?_; first
 | refine W_lssF rfl rfl rfl rfl (by omega) ?_)
 | refine W_lenM rfl rfl rfl ?_
 | refine WS_nil ?_)
 | refine WC_seq ?_
 | refine WC_opsS ?_
 | refine WC_condF rfl ?_
 | refine WC_exit ?_)
    exact hQ hR _
  | cons x post ih =>
    intro pre hpp hR ρ st h0 h3 Q hQ hQ2
    have hv := eg_mid hpp
    have hlen : l.length = pre.length + (post.length + 1) := by rw [hpp]; simp
    have hz : sz = 8 := hs.resolve_right (by rintro rfl; simp at hlen)
    subst hz
    have hpl : pre.length < (l.map Eg.e).length := by simp; omega
    have hpl2 : pre.length - 1 < (l.map Eg.e).length := by simp; omega
    have hltl : (pre.length : Int) < l.length := by omega
    have hRl : RL l → RL (pre ++ [x]) := fun h => by
      rw [hpp, show pre ++ x :: post = (pre ++ [x]) ++ post by simp] at h
      exact h.pre
    have hbad : ∀ ρ', decide x.ok = false → ρ' 2 = .bool false → Q .ret ρ' st := fun ρ' hx e => hQ2 (fun h => (of_decide_eq_false hx) (RL_snoc.mp (hRl h)).2.1) ρ' e
    have hnext : ∀ ρ', RL (pre ++ [x]) → ρ' 0 = .slice t 8 (l.map Eg.e) → ρ' 3 = .int .i64 ((pre.length : Int) + 1) → WC Γ (.loop c_feluccaref12_Right_l0) ρ' st Q := fun ρ' e2 k0 k3 =>
      ih (pre ++ [x]) (by simp [hpp]) e2 ρ' st k0 (by rw [List.length_append]; exact k3) Q hQ hQ2
    have hok := r_hRight x
    rw [← upd_self h0, ← upd_self h3]
    refine WC_loop ?_
    by_cases hz : 0 < pre.length
    · have hsub : IntKind.i64.wrap ((pre.length : Int) - 1) = ((pre.length - 1 : Nat) : Int) := by rw [w64 (by omega)]; omega
      have hz' : (0 : Int) < pre.length := by omega
      obtain ⟨y, hy⟩ : ∃ y, pre[pre.length - 1]? = some y := ⟨pre[pre.length - 1]'(by omega), List.getElem?_eq_getElem _⟩
      have hvy : l[pre.length - 1]? = some y := by rw [hpp, List.getElem?_append_left (by omega)]; exact hy
      have hmem := List.mem_of_getElem? hy
      have hbad2 : ∀ ρ', x.id ≤ y.id → ρ' 2 = .bool false → Q .ret ρ' st := fun ρ' hx e => hQ2 (fun h => by
        have := (RL_snoc.mp (hRl h)).2.2 y hmem
        omega) ρ' e
      have hgo : decide x.ok = true → y.id < x.id → RL (pre ++ [x]) := fun h1 h2 => RL_snoc.mpr ⟨hR, of_decide_eq_true h1, fun z hz => by have := RL_last hR hy z hz; omega⟩
      clear ih hQ hQ2 hRl hpp hR
      generalize decide x.ok = bk at *
      repeat' (first
 | (refine I_WS ?_; first
 | refine W_sub (s := ((pre.length - 1 : Nat) : Int)) rfl rfl rfl rfl hsub ?_
 | refine W_iaddr (j := pre.length) rfl rfl rfl rfl rfl hpl ?_
 | refine W_iaddr (j := pre.length - 1) rfl rfl rfl rfl rfl hpl2 ?_
 | (refine I_mov ?_; first
 | refine W_skip rfl ?_
 | refine W_mov (v := .int _ _) rfl rfl rfl ?_
 | refine W_mov (v := .bool _) rfl rfl rfl ?_
 | refine W_mov (v := .slice _ _ _) rfl rfl rfl ?_)
 | (refine I_bin ?_; first
 | refine W_skip rfl ?_
 | refine W_lssT rfl rfl rfl rfl (by omega) ?_
 | (refine W_leq rfl rfl rfl rfl ?_ ?_ <;> intro _)
 | refine W_gtrT rfl rfl rfl rfl (by omega) ?_
 | refine W_add rfl rfl rfl rfl (by first | exact w64 (by omega) | rfl) ?_)
 | (refine I_load ?_; first
 | refine W_skip rfl ?_
 | refine W_loadE (agg := true) (d := .agg [_, _, _, _, _, _, _, _]) rfl rfl rfl hv rfl ?_
 | refine W_loadE (agg := false) (d := .int _ _) rfl rfl rfl hv rfl ?_
 | refine W_loadE (agg := false) (d := .int _ _) rfl rfl rfl hvy rfl ?_)
 | (refine I_call ?_; first
 | (refine W_callB rfl rfl rfl hok rfl ?_ ?_ <;> intro _))
 | (refine I_pick ?_; first
 | refine W_pick (v := .bool _) rfl rfl rfl rfl ?_
 | refine W_skip rfl ?_)
 | refine W_not rfl rfl rfl ?_
 | refine W_lenM rfl rfl rfl ?_
 | refine W_faddrE rfl rfl rfl ?_
 | refine W_skip rfl ?_
 | refine WS_nil ?_)
 | refine okF_intro (okFlags_onlyR rfl) ?_
 | refine WC_seq ?_
 | refine WC_opsS ?_
 | refine WC_drawS ?_
 | refine WC_skip ?_
 | refine WC_condT rfl ?_
 | refine WC_condF rfl ?_
 | refine WC_block ?_
 | refine WC_ret ?_)
      all_goals first
        | (refine hbad _ (by assumption) ?_; rfl; done)
        | (refine hbad2 _ (by omega) ?_; rfl; done)
        | (refine hnext _ (hgo (by assumption) (by omega)) ?_ ?_ <;> rfl)
    · have hz' : (pre.length : Int) ≤ 0 := by omega
      have hp0 : pre = [] := List.length_eq_zero_iff.mp (by omega)
      have hgo : decide x.ok = true → RL (pre ++ [x]) := fun h1 => RL_snoc.mpr ⟨hR, of_decide_eq_true h1, fun z hz => by rw [hp0] at hz; cases hz⟩
      clear ih hQ hQ2 hRl hpp hR hp0
      generalize decide x.ok = bk at *
      repeat' (first
 | (refine I_WS ?_; first
 | refine W_iaddr (j := pre.length) rfl rfl rfl rfl rfl hpl ?_
 | (refine I_mov ?_; first
 | refine W_skip rfl ?_
 | refine W_mov (v := .int _ _) rfl rfl rfl ?_
 | refine W_mov (v := .bool _) rfl rfl rfl ?_
 | refine W_mov (v := .slice _ _ _) rfl rfl rfl ?_)
 | (refine I_bin ?_; first
 | refine W_skip rfl ?_
 | refine W_lssT rfl rfl rfl rfl (by omega) ?_
 | refine W_gtrF rfl rfl rfl rfl (by omega) ?_
 | refine W_add rfl rfl rfl rfl (by first | exact w64 (by omega) | rfl) ?_)
 | (refine I_load ?_; first
 | refine W_skip rfl ?_
 | refine W_loadE (agg := true) (d := .agg [_, _, _, _, _, _, _, _]) rfl rfl rfl hv rfl ?_)
 | (refine I_call ?_; first
 | (refine W_callB rfl rfl rfl hok rfl ?_ ?_ <;> intro _))
 | (refine I_pick ?_; first
 | refine W_pick (v := .bool _) rfl rfl rfl rfl ?_
 | refine W_skip rfl ?_)
 | refine W_not rfl rfl rfl ?_
 | refine W_lenM rfl rfl rfl ?_
 | refine W_skip rfl ?_
 | refine WS_nil ?_)
 | refine okF_intro (okFlags_onlyR rfl) ?_
 | refine WC_seq ?_
 | refine WC_opsS ?_
 | refine WC_drawS ?_
 | refine WC_skip ?_
 | refine WC_condT rfl ?_
 | refine WC_condF rfl ?_
 | refine WC_block ?_
 | refine WC_ret ?_)
      all_goals first
        | (refine hbad _ (by assumption) ?_; rfl; done)
        | (refine hnext _ (hgo (by assumption)) ?_ ?_ <;> rfl)
theorem r_RightL (l : List Eg) (hll : l.length ≤ 1073741824) (t : Tok) (sz : Nat) (hs : sz = 8 ∨ l = []) : EvP Γ 55 [.slice t sz (l.map Eg.e)] (.bool (decide (RL l))) := by
  refine EvP_code rfl rfl ?_
  repeat' (first
 | (refine I_WS ?_; first
 | (refine I_mov ?_; first
 | refine W_mov (v := .int _ _) rfl rfl rfl ?_
 | refine W_mov (v := .bool _) rfl rfl rfl ?_)
 | refine WS_nil ?_)
 | refine WC_seq ?_
 | refine WC_opsS ?_
 | refine WC_block ?_)
  refine rl_R l hll t sz hs l [] rfl RL.nil _ _ ?_ ?_ _ (fun h ρ' => ?_) (fun h ρ' h2 => ?_)
  · rfl
  · rfl
  · repeat' (first
 | (refine I_WS ?_; first
 | (refine I_mov ?_; first
 | refine W_mov (v := .bool _) rfl rfl rfl ?_)
 | refine WS_nil ?_)
 | refine WC_seq ?_
 | refine WC_opsS ?_
 | refine WC_ret ?_)
    exact fin_bool (.inr rfl) rfl (decide_eq_true h).symm
  · rw [← upd_self h2]
    exact fin_bool (.inr rfl) rfl (decide_eq_false h).symm
set_option maxHeartbeats 4000000 in
theorem r_Asked (l : List Eg) (hll : l.length ≤ 1073741824) (fr now sz : Int) (t : Tok) (s : Nat) (hs : s = 8 ∨ l = []) : EvP Γ 33 [.slice t s (l.map Eg.e), .int .i64 fr, .int .i64 fr, .int .i64 now, .int .i64 sz] (.bool (decide (AskC l fr now sz))) := by
  refine EvP_code rfl rfl ?_
  have hR := fun t => r_RightL l hll t s hs
  have hN := r_Node fr
  by_cases hr : RL l
  · by_cases hn : 1 ≤ fr ∧ fr ≤ 255
    · rw [decide_eq_true hr] at hR
      rw [decide_eq_true hn] at hN
      by_cases ha : AskC l fr now sz
      · rw [decide_eq_true ha]
        obtain ⟨_, a2, a3, _⟩ := ha
        repeat' (first
 | (refine I_WS ?_; first
 | (refine I_mov ?_; first
 | refine W_mov (v := .int _ _) rfl rfl rfl ?_
 | refine W_mov (v := .bool _) rfl rfl rfl ?_
 | refine W_mov (v := .slice _ _ _) rfl rfl rfl ?_)
 | (refine I_bin ?_; first
 | refine W_leqT rfl rfl rfl rfl (by omega) ?_
 | refine W_geqT rfl rfl rfl rfl (by omega) ?_)
 | (refine I_call ?_; first
 | refine W_call rfl rfl rfl (hR _) rfl rfl ?_
 | refine W_call rfl rfl rfl hN rfl rfl ?_)
 | (refine I_pick ?_; first
 | refine W_pick (v := .bool _) rfl rfl rfl rfl ?_)
 | refine WS_nil ?_)
 | refine WC_seq ?_
 | refine WC_opsS ?_
 | refine WC_ret ?_)
        all_goals first | exact fin_bool (.inr rfl) rfl rfl | (exfalso; omega)
      · rw [decide_eq_false ha]
        have ha' : ¬ ((0 ≤ sz ∧ sz ≤ 1099511627775) ∧ (0 ≤ now ∧ now ≤ 1099511627776)) := fun h => ha ⟨hn, h.1, h.2, hr⟩
        repeat' (first
 | (refine I_WS ?_; first
 | (refine I_mov ?_; first
 | refine W_skip rfl ?_
 | refine W_mov (v := .int _ _) rfl rfl rfl ?_
 | refine W_mov (v := .bool _) rfl rfl rfl ?_
 | refine W_mov (v := .slice _ _ _) rfl rfl rfl ?_)
 | (refine I_bin ?_; first
 | refine W_skip rfl ?_
 | refine W_leqF rfl rfl rfl rfl (by omega) ?_
 | (refine W_leq rfl rfl rfl rfl ?_ ?_ <;> intro _)
 | (refine W_geq rfl rfl rfl rfl ?_ ?_ <;> intro _))
 | (refine I_call ?_; first
 | refine W_call rfl rfl rfl (hR _) rfl rfl ?_
 | refine W_call rfl rfl rfl hN rfl rfl ?_)
 | (refine I_pick ?_; first
 | refine W_pick (v := .bool _) rfl rfl rfl rfl ?_)
 | refine WS_nil ?_)
 | refine WC_seq ?_
 | refine WC_opsS ?_
 | refine WC_ret ?_)
        all_goals first | exact fin_bool (.inr rfl) rfl rfl | (exfalso; omega)
    · rw [decide_eq_false (fun h : AskC l fr now sz => hn h.1)]
      rw [decide_eq_true hr] at hR
      rw [decide_eq_false hn] at hN
      repeat' (first
 | (refine I_WS ?_; first
 | (refine I_mov ?_; first
 | refine W_skip rfl ?_
 | refine W_mov (v := .int _ _) rfl rfl rfl ?_
 | refine W_mov (v := .bool _) rfl rfl rfl ?_
 | refine W_mov (v := .slice _ _ _) rfl rfl rfl ?_)
 | (refine I_bin ?_; first
 | refine W_skip rfl ?_)
 | (refine I_call ?_; first
 | refine W_call rfl rfl rfl (hR _) rfl rfl ?_
 | refine W_call rfl rfl rfl hN rfl rfl ?_)
 | (refine I_pick ?_; first
 | refine W_pick (v := .bool _) rfl rfl rfl rfl ?_)
 | refine WS_nil ?_)
 | refine WC_seq ?_
 | refine WC_opsS ?_
 | refine WC_ret ?_)
      all_goals exact fin_bool (.inr rfl) rfl rfl
  · rw [decide_eq_false (fun h : AskC l fr now sz => hr h.2.2.2)]
    rw [decide_eq_false hr] at hR
    generalize decide (1 ≤ fr ∧ fr ≤ 255) = q at hN
    repeat' (first
 | (refine I_WS ?_; first
 | (refine I_mov ?_; first
 | refine W_skip rfl ?_
 | refine W_mov (v := .int _ _) rfl rfl rfl ?_
 | refine W_mov (v := .bool _) rfl rfl rfl ?_
 | refine W_mov (v := .slice _ _ _) rfl rfl rfl ?_)
 | (refine I_bin ?_; first
 | refine W_skip rfl ?_)
 | (refine I_call ?_; first
 | refine W_call rfl rfl rfl (hR _) rfl rfl ?_
 | refine W_call rfl rfl rfl hN rfl rfl ?_)
 | (refine I_pick ?_; first
 | refine W_pick (v := .bool _) rfl rfl rfl rfl ?_)
 | refine WS_nil ?_)
 | refine WC_seq ?_
 | refine WC_opsS ?_
 | refine WC_ret ?_)
    all_goals exact fin_bool (.inr rfl) rfl rfl
theorem rl_At (n : Int) (l : List Rd) (hll : l.length ≤ 1073741824) (t : Tok) (sz : Nat) (hs : sz = 2 ∨ l = []) : ∀ (post pre : List Rd), l = pre ++ post → (∀ y ∈ pre, y.node ≠ n) → ∀ (ρ : Nat → D) (st : Store),
    ρ 0 = .slice t sz (l.map Rd.e) → ρ 1 = .int .i64 n → ρ 6 = .int .i64 pre.length → ∀ (Q : X → (Nat → D) → Store → Prop),
    (atN n l = none → ∀ ρ', Q (.exit 0) ρ' st) → (∀ u, atN n l = some u → ∀ ρ', ρ' 4 = .int .i64 u → ρ' 5 = .bool true → Q .ret ρ' st) → WC Γ (.loop c_feluccaref15_At_l0) ρ st Q := by
  intro post
  induction post with
  | nil =>
    intro pre hpp hn ρ st h0 h1 h6 Q hQ hQ2
    rw [List.append_nil] at hpp
    subst hpp
    rw [← upd_self h0, ← upd_self h1, ← upd_self h6]
    refine WC_loop ?_
    repeat' (first
 | (refine I_WS ?_; first
 | (refine I_mov ?_; first
 | refine W_mov (v := .int _ _) rfl rfl rfl ?_
 | refine W_mov (v := .slice _ _ _) rfl rfl rfl ?_)
 | (refine I_bin ?_; first
 | refine W_lssF rfl rfl rfl rfl (by omega) ?_)
 | refine W_lenM rfl rfl rfl ?_
 | refine WS_nil ?_)
 | refine WC_seq ?_
 | refine WC_opsS ?_
 | refine WC_condF rfl ?_
 | refine WC_exit ?_)
    exact hQ (atN_none hn) _
  | cons x post ih =>
    intro pre hpp hn ρ st h0 h1 h6 Q hQ hQ2
    have hv := rd_mid hpp
    have hlen : l.length = pre.length + (post.length + 1) := by rw [hpp]; simp
    have hz : sz = 2 := hs.resolve_right (by rintro rfl; simp at hlen)
    subst hz
    have hpl : pre.length < (l.map Rd.e).length := by simp; omega
    have hltl : (pre.length : Int) < l.length := by omega
    have hyes : x.node = n → ∀ ρ', ρ' 4 = .int .i64 x.at' → ρ' 5 = .bool true → Q .ret ρ' st := fun e ρ' k4 k5 => hQ2 x.at' (by rw [hpp]; exact atN_mid hn e) ρ' k4 k5
    have hnext : x.node ≠ n → ∀ ρ', ρ' 0 = .slice t 2 (l.map Rd.e) → ρ' 1 = .int .i64 n → ρ' 6 = .int .i64 ((pre.length : Int) + 1) → WC Γ (.loop c_feluccaref15_At_l0) ρ' st Q := fun e ρ' k0 k1 k6 =>
      ih (pre ++ [x]) (by simp [hpp]) (fun y hy => by
        rcases List.mem_append.mp hy with hy | hy
        · exact hn y hy
        · rw [List.mem_singleton.mp hy]; exact e) ρ' st k0 k1 (by rw [List.length_append]; exact k6) Q hQ hQ2
    clear ih hQ hQ2 hn hpp
    rw [← upd_self h0, ← upd_self h1, ← upd_self h6]
    refine WC_loop ?_
    repeat' (first
 | (refine I_WS ?_; first
 | refine W_iaddr (j := pre.length) rfl rfl rfl rfl rfl hpl ?_
 | (refine I_mov ?_; first
 | refine W_mov (v := .int _ _) rfl rfl rfl ?_
 | refine W_mov (v := .bool _) rfl rfl rfl ?_
 | refine W_mov (v := .slice _ _ _) rfl rfl rfl ?_)
 | (refine I_bin ?_; first
 | refine W_lssT rfl rfl rfl rfl (by omega) ?_
 | (refine W_eql rfl rfl rfl rfl ?_ ?_ <;> intro _)
 | refine W_add rfl rfl rfl rfl (by first | exact w64 (by omega) | rfl) ?_)
 | (refine I_load ?_; first
 | refine W_loadE (agg := false) (d := .int _ _) rfl rfl rfl hv rfl ?_)
 | refine W_lenM rfl rfl rfl ?_
 | refine W_faddrE rfl rfl rfl ?_
 | refine WS_nil ?_)
 | refine WC_seq ?_
 | refine WC_opsS ?_
 | refine WC_skip ?_
 | refine WC_condT rfl ?_
 | refine WC_condF rfl ?_
 | refine WC_block ?_
 | refine WC_ret ?_)
    all_goals first
      | (refine hyes (by assumption) _ ?_ ?_ <;> rfl)
      | (refine hnext (by assumption) _ ?_ ?_ ?_ <;> rfl)
theorem r_At (n : Int) (l : List Rd) (hll : l.length ≤ 1073741824) (t : Tok) (sz : Nat) (hs : sz = 2 ∨ l = []) : EvP Γ 22 [.slice t sz (l.map Rd.e), .int .i64 n] (.tuple [.int .i64 ((atN n l).getD 0), .bool (atN n l).isSome]) := by
  refine EvP_code rfl rfl ?_
  repeat' (first
 | (refine I_WS ?_; first
 | (refine I_mov ?_; first
 | refine W_mov (v := .int _ _) rfl rfl rfl ?_
 | refine W_mov (v := .bool _) rfl rfl rfl ?_)
 | refine WS_nil ?_)
 | refine WC_seq ?_
 | refine WC_opsS ?_
 | refine WC_block ?_)
  refine rl_At n l hll t sz hs l [] rfl (by simp) _ _ ?_ ?_ ?_ _ (fun h ρ' => ?_) (fun u h ρ' h4 h5 => ?_)
  · rfl
  · rfl
  · rfl
  · rw [h]
    repeat' (first
 | (refine I_WS ?_; first
 | (refine I_mov ?_; first
 | refine W_mov (v := .int _ _) rfl rfl rfl ?_
 | refine W_mov (v := .bool _) rfl rfl rfl ?_)
 | refine WS_nil ?_)
 | refine WC_seq ?_
 | refine WC_opsS ?_
 | refine WC_ret ?_)
    exact fin_ground (r' := .tuple [.int _ _, .bool _]) (.inr rfl) rfl rfl rfl
  · rw [← upd_self h4, ← upd_self h5, h]
    exact fin_ground (r' := .tuple [.int _ _, .bool _]) (.inr rfl) rfl rfl rfl
theorem rl_in (n : Int) (l : List Int) (hll : l.length ≤ 1073741824) (t : Tok) (sz : Nat) (hs : sz = 1 ∨ l = []) : ∀ (post pre : List Int), l = pre ++ post → n ∉ pre → ∀ (ρ : Nat → D) (st : Store),
    ρ 0 = .slice t sz (l.map (D.int .i64)) → ρ 1 = .int .i64 n → ρ 5 = .int .i64 pre.length → ∀ (Q : X → (Nat → D) → Store → Prop),
    (n ∉ l → ∀ ρ', Q (.exit 0) ρ' st) → (n ∈ l → ∀ ρ', ρ' 4 = .bool true → Q .ret ρ' st) → WC Γ (.loop c_feluccaref15_in_l0) ρ st Q := by
  intro post
  induction post with
  | nil =>
    intro pre hpp hn ρ st h0 h1 h5 Q hQ hQ2
    rw [List.append_nil] at hpp
    subst hpp
    rw [← upd_self h0, ← upd_self h1, ← upd_self h5]
    refine WC_loop ?_
    repeat' (first
 | (refine I_WS ?_; first
 | (refine I_mov ?_; first
 | refine W_mov (v := .int _ _) rfl rfl rfl ?_
 | refine W_mov (v := .slice _ _ _) rfl rfl rfl ?_)
 | (refine I_bin ?_; first
 | refine W_lssF rfl rfl rfl rfl (by omega) ?_)
 | refine W_lenM rfl rfl rfl ?_
 | refine WS_nil ?_)
 | refine WC_seq ?_
 | refine WC_opsS ?_
 | refine WC_condF rfl ?_
 | refine WC_exit ?_)
    exact hQ hn _
  | cons x post ih =>
    intro pre hpp hn ρ st h0 h1 h5 Q hQ hQ2
    have hv : l[pre.length]? = some x := by rw [hpp]; simp
    have hlen : l.length = pre.length + (post.length + 1) := by rw [hpp]; simp
    have hz : sz = 1 := hs.resolve_right (by rintro rfl; simp at hlen)
    subst hz
    have hpl : pre.length < (l.map (D.int .i64)).length := by simp; omega
    have hltl : (pre.length : Int) < l.length := by omega
    have hyes : x = n → ∀ ρ', ρ' 4 = .bool true → Q .ret ρ' st := fun e ρ' k4 => hQ2 (by rw [hpp, e]; simp) ρ' k4
    have hnext : x ≠ n → ∀ ρ', ρ' 0 = .slice t 1 (l.map (D.int .i64)) → ρ' 1 = .int .i64 n → ρ' 5 = .int .i64 ((pre.length : Int) + 1) → WC Γ (.loop c_feluccaref15_in_l0) ρ' st Q := fun e ρ' k0 k1 k5 =>
      ih (pre ++ [x]) (by simp [hpp]) (fun h => by
        rcases List.mem_append.mp h with h | h
        · exact hn h
        · exact e (List.mem_singleton.mp h).symm) ρ' st k0 k1 (by rw [List.length_append]; exact k5) Q hQ hQ2
    clear ih hQ hQ2 hn hpp
    rw [← upd_self h0, ← upd_self h1, ← upd_self h5]
    refine WC_loop ?_
    repeat' (first
 | (refine I_WS ?_; first
 | refine W_iaddr (j := pre.length) rfl rfl rfl rfl rfl hpl ?_
 | (refine I_mov ?_; first
 | refine W_mov (v := .int _ _) rfl rfl rfl ?_
 | refine W_mov (v := .bool _) rfl rfl rfl ?_
 | refine W_mov (v := .slice _ _ _) rfl rfl rfl ?_)
 | (refine I_bin ?_; first
 | refine W_lssT rfl rfl rfl rfl (by omega) ?_
 | (refine W_eql rfl rfl rfl rfl ?_ ?_ <;> intro _)
 | refine W_add rfl rfl rfl rfl (by first | exact w64 (by omega) | rfl) ?_)
 | (refine I_load ?_; first
 | refine W_loadE (agg := false) (d := .int _ _) rfl rfl rfl hv rfl ?_)
 | refine W_lenM rfl rfl rfl ?_
 | refine WS_nil ?_)
 | refine WC_seq ?_
 | refine WC_opsS ?_
 | refine WC_skip ?_
 | refine WC_condT rfl ?_
 | refine WC_condF rfl ?_
 | refine WC_block ?_
 | refine WC_ret ?_)
    all_goals first
      | (refine hyes (by assumption) _ ?_; rfl; done)
      | (refine hnext (by assumption) _ ?_ ?_ ?_ <;> rfl)
theorem r_in (n : Int) (l : List Int) (hll : l.length ≤ 1073741824) (t : Tok) (sz : Nat) (hs : sz = 1 ∨ l = []) : EvP Γ 71 [.slice t sz (l.map (D.int .i64)), .int .i64 n] (.bool (decide (n ∈ l))) := by
  refine EvP_code rfl rfl ?_
  repeat' (first
 | (refine I_WS ?_; first
 | (refine I_mov ?_; first
 | refine W_mov (v := .int _ _) rfl rfl rfl ?_
 | refine W_mov (v := .bool _) rfl rfl rfl ?_)
 | refine WS_nil ?_)
 | refine WC_seq ?_
 | refine WC_opsS ?_
 | refine WC_block ?_)
  refine rl_in n l hll t sz hs l [] rfl (by simp) _ _ ?_ ?_ ?_ _ (fun h ρ' => ?_) (fun h ρ' h4 => ?_)
  · rfl
  · rfl
  · rfl
  · repeat' (first
 | (refine I_WS ?_; first
 | (refine I_mov ?_; first
 | refine W_mov (v := .bool _) rfl rfl rfl ?_)
 | refine WS_nil ?_)
 | refine WC_seq ?_
 | refine WC_opsS ?_
 | refine WC_ret ?_)
    exact fin_bool (.inr rfl) rfl (decide_eq_false h).symm
  · rw [← upd_self h4]
    exact fin_bool (.inr rfl) rfl (decide_eq_true h).symm
end Go.Eat

/-
  The reference's times.
-/
namespace Go.Eat
open Go.Ev
set_option linter.unusedVariables false
set_option linter.unusedSimpArgs false
theorem put_all {n t : Int} : ∀ {l : List Rd}, (∀ y ∈ l, y.node < n) → putR n t l = l ++ [⟨n, t⟩]
  | [], _ => rfl
  | r :: l, h => by
    rw [putR, if_pos (h r (by simp)), put_all (fun y hy => h y (by simp [hy]))]
    rfl
theorem put_below {n t : Int} {x : Rd} : ∀ {l : List Rd}, (∀ y ∈ l, y.node < n) → putR n t (l ++ [x]) = l ++ putR n t [x]
  | [], _ => rfl
  | r :: l, h => by
    rw [List.cons_append, putR, if_pos (h r (by simp)), put_below (fun y hy => h y (by simp [hy]))]
    rfl
theorem put_above {n t : Int} {x : Rd} : ∀ {l : List Rd}, (∃ y ∈ l, n ≤ y.node) → putR n t (l ++ [x]) = putR n t l ++ [x]
  | [], h => by simp at h
  | r :: l, h => by
    rw [List.cons_append, putR, putR]
    by_cases h1 : r.node < n
    · rw [if_pos h1, if_pos h1, List.cons_append, put_above]
      obtain ⟨y, hy, h2⟩ := h
      rcases List.mem_cons.mp hy with rfl | hy
      · omega
      · exact ⟨y, hy, h2⟩
    · rw [if_neg h1, if_neg h1]
      split <;> rfl
theorem put_len {n t : Int} : ∀ {l : List Rd}, (putR n t l).length ≤ l.length + 1
  | [] => by simp [putR]
  | r :: l => by
    rw [putR]
    split
    · have := put_len (n := n) (t := t) (l := l); simp; omega
    · split <;> simp
theorem put_pos {n t : Int} {l : List Rd} : putR n t l ≠ [] := by
  cases l with
  | nil => simp [putR]
  | cons r l =>
    rw [putR]
    split
    · simp
    · split <;> simp
/-- What is told so far: in a row of its own. -/
def OutO (st : Store) (d : D) (out : List Rd) : Prop := (out = [] ∧ d = .slice .isnil 0 []) ∨ ∃ q n c, n = out.length ∧ out ≠ [] ∧ d = .rs q 0 2 n c ∧ RowIs st q 2 (out.map Rd.e)
section
variable {Γ : Nat → Option FD} {ρ : Nat → D} {st : Store} {dr : Bool} {R : (Nat → D) → Store → List Fl → Prop} {l : List Op1} {g : Option (Nat × Bool)} {mv : Bool} {k : Nat} {x y : A}
theorem W_appO {bytes : Nat} {d : D} {out : List Rd} {r : Rd} {t : Tok} (hg : guardV ρ g = some true) (hx : x.ev ρ = d) (hy : y.ev ρ = .slice t 2 [r.e]) (hm : mv = true) (hO : OutO st d out) (hb : (out.length + 1) * bytes ≤ 140737488355328) (hl : st.lim ≤ 0)
    (H : ∀ st' d', st'.lim ≤ 0 → OutO st' d' (out ++ [r]) → WS Γ dr l (upd ρ k d') st' (nx .f R)) : WS Γ dr (⟨some k, g, mv, .append 2 bytes x y⟩ :: l) ρ st R := by
  have hys : ∀ d ∈ [r.e], Elem 2 d := fun d hd => by rw [List.mem_singleton.mp hd]; exact rd_ele r
  rcases hO with ⟨rfl, rfl⟩ | ⟨q, n, c, rfl, h5, rfl, hR⟩
  · refine W_appNew hg hx (.inr rfl) (.inr rfl) hy hm (.inl rfl) (by simp) (by simp) hys (by simpa using hb) (by omega) (fun st' e1 _ _ _ hR' hoth hn => ?_)
    exact H st' _ (by omega) (.inr ⟨st.next, _, _, rfl, by simp, rfl, by simpa using hR'⟩)
  · refine W_appRow hg hx hy hR (by simp) (.inl rfl) (fun d hd => by
      obtain ⟨a, _, rfl⟩ := List.mem_map.mp hd
      rfl) hys (by simpa using hb) (fun p' c' st' e1 _ _ _ hR' hoth hn hp => ?_)
    exact H st' _ (by omega) (.inr ⟨p', _, c', by simp, by simp, rfl, by simpa using hR'⟩)
end
set_option maxHeartbeats 8000000 in
theorem rl_with (n t : Int) (l : List Rd) (hll : l.length ≤ 1000000) (hR : RS l) (tl : Tok) (sl : Nat) (hsl : sl = 2 ∨ l = []) : ∀ (post pre out : List Rd) (laid : Bool), l = pre ++ post → (laid = true ↔ ∃ y ∈ pre, n ≤ y.node) → out = (if laid then putR n t pre else pre) →
    ∀ (ρ : Nat → D) (st : Store) (d : D), st.lim ≤ 0 → OutO st d out → ρ 0 = .slice tl sl (l.map Rd.e) → ρ 1 = .int .i64 n → ρ 2 = .int .i64 t → ρ 7 = d → ρ 8 = .bool laid → ρ 9 = .int .i64 pre.length → ∀ (Q : X → (Nat → D) → Store → Prop),
    (∀ ρ' st' d' laid', st'.lim ≤ 0 → (laid' = true ↔ ∃ y ∈ l, n ≤ y.node) → OutO st' d' (if laid' then putR n t l else l) → ρ' 1 = .int .i64 n → ρ' 2 = .int .i64 t → ρ' 7 = d' → ρ' 8 = .bool laid' → Q (.exit 0) ρ' st') → WC Γ (.loop c_feluccaref15_with_l0) ρ st Q := by
  intro post
  induction post with
  | nil =>
    intro pre out laid hpp hla hout ρ st d hlim hO h0 h1 h2 h7 h8 h9 Q hQ
    rw [List.append_nil] at hpp
    subst hpp
    rw [← upd_self h0, ← upd_self h1, ← upd_self h2, ← upd_self h7, ← upd_self h8, ← upd_self h9]
    refine WC_loop ?_
    repeat' (first
 | (refine I_WS ?_; first
 | (refine I_mov ?_; first
 | refine W_mov (v := .int _ _) rfl rfl rfl ?_
 | refine W_mov (v := .slice _ _ _) rfl rfl rfl ?_)
 | (refine I_bin ?_; first
 | refine W_lssF rfl rfl rfl rfl (by omega) ?_)
 | refine W_lenM rfl rfl rfl ?_
 | refine WS_nil ?_)
 | refine WC_seq ?_
 | refine WC_opsS ?_
 | refine WC_condF rfl ?_
 | refine WC_exit ?_)
    exact hQ _ _ d laid hlim hla (by rw [← hout]; exact hO) rfl rfl rfl rfl
  | cons x post ih =>
    intro pre out laid hpp hla hout ρ st d hlim hO h0 h1 h2 h7 h8 h9 Q hQ
    have hv := rd_mid hpp
    have hlen : l.length = pre.length + (post.length + 1) := by rw [hpp]; simp
    have hz : sl = 2 := hsl.resolve_right (by rintro rfl; simp at hlen)
    subst hz
    have hpl : pre.length < (l.map Rd.e).length := by simp; omega
    have hltl : (pre.length : Int) < l.length := by omega
    have hsx : ∀ y ∈ pre, y.node < x.node := fun y hy => by
      have : RS (pre ++ x :: post) := hpp ▸ hR
      exact (List.pairwise_append.mp this).2.2 y hy x List.mem_cons_self
    have hol : out.length ≤ pre.length + 1 := by
      rw [hout]
      split
      · exact put_len
      · omega
    have hbd : (out.length + 1) * 16 ≤ 140737488355328 := by omega
    have hbd2 : ((out ++ [(⟨n, t⟩ : Rd)]).length + 1) * 16 ≤ 140737488355328 := by simp; omega
    have hnext : ∀ (laid' : Bool) (out' : List Rd), (laid' = true ↔ ∃ y ∈ pre ++ [x], n ≤ y.node) → out' = (if laid' then putR n t (pre ++ [x]) else pre ++ [x]) → ∀ (ρ' : Nat → D) (st' : Store) (d' : D), st'.lim ≤ 0 → OutO st' d' out' → ρ' 0 = .slice tl 2 (l.map Rd.e) → ρ' 1 = .int .i64 n → ρ' 2 = .int .i64 t → ρ' 7 = d' → ρ' 8 = .bool laid' → ρ' 9 = .int .i64 ((pre.length : Int) + 1) → WC Γ (.loop c_feluccaref15_with_l0) ρ' st' Q := fun laid' out' e1 e2 ρ' st' d' e3 e4 k0 k1 k2 k7 k8 k9 =>
      ih (pre ++ [x]) out' laid' (by simp [hpp]) e1 e2 ρ' st' d' e3 e4 k0 k1 k2 k7 k8 (by rw [List.length_append]; exact k9) Q hQ
    clear ih hQ
    rw [← upd_self h0, ← upd_self h1, ← upd_self h2, ← upd_self h7, ← upd_self h8, ← upd_self h9]
    refine WC_loop ?_
    cases laid with
    | true =>
      obtain ⟨y, hy, hny⟩ := hla.mp rfl
      have hne : ¬ x.node = n := by have := hsx y hy; omega
      have hfin := fun (ρ' : Nat → D) (st' : Store) (d' : D) (a : st'.lim ≤ 0) (b : OutO st' d' (out ++ [x])) => hnext true (out ++ [x]) ⟨fun _ => ⟨y, by simp [hy], hny⟩, fun _ => rfl⟩ (by rw [if_pos rfl, put_above ⟨y, hy, hny⟩, hout, if_pos rfl]) ρ' st' d' a b
      repeat' (first
 | (refine I_WS ?_; first
 | refine W_iaddr (j := pre.length) rfl rfl rfl rfl rfl hpl ?_
 | refine W_mov (v := d1) rfl rfl rfl ?_
 | refine W_mov (v := d) rfl rfl rfl ?_
 | (refine W_appO (r := x) rfl rfl rfl rfl hO hbd hlim ?_; intro st1 d1 a1 a2)
 | (refine I_mov ?_; first
 | refine W_skip rfl ?_
 | refine W_mov (v := .int _ _) rfl rfl rfl ?_
 | refine W_mov (v := .bool _) rfl rfl rfl ?_
 | refine W_mov (v := .slice _ _ _) rfl rfl rfl ?_)
 | (refine I_bin ?_; first
 | refine W_skip rfl ?_
 | refine W_lssT rfl rfl rfl rfl (by omega) ?_
 | refine W_neqT rfl rfl rfl rfl (by omega) ?_
 | refine W_add rfl rfl rfl rfl (by first | exact w64 (by omega) | rfl) ?_)
 | (refine I_load ?_; first
 | refine W_skip rfl ?_
 | refine W_loadE (agg := true) (d := .agg [_, _]) rfl rfl rfl hv rfl ?_
 | refine W_loadE (agg := false) (d := .int _ _) rfl rfl rfl hv rfl ?_)
 | (refine I_pick ?_; first
 | refine W_pick (v := .bool _) rfl rfl rfl rfl ?_)
 | refine W_not rfl rfl rfl ?_
 | refine W_lenM rfl rfl rfl ?_
 | refine W_faddrE rfl rfl rfl ?_
 | refine W_skip rfl ?_
 | refine W_bslice (ys := [_]) rfl rfl rfl (by decide) rfl ?_
 | refine WS_nil ?_)
 | refine WC_seq ?_
 | refine WC_opsS ?_
 | refine WC_skip ?_
 | refine WC_condT rfl ?_
 | refine WC_condF rfl ?_
 | refine WC_block ?_)
      exact hfin _ st1 d1 a1 a2 rfl rfl rfl rfl rfl rfl
    | false =>
      have hall : ∀ y ∈ pre, y.node < n := fun y hy => Int.lt_of_not_ge fun h => by have := hla.mpr ⟨y, hy, h⟩; cases this
      rw [if_neg (by simp)] at hout
      by_cases hlt : x.node < n
      · have hne : ¬ x.node = n := by omega
        have hfin := fun (ρ' : Nat → D) (st' : Store) (d' : D) (a : st'.lim ≤ 0) (b : OutO st' d' (out ++ [x])) => hnext false (out ++ [x]) ⟨(fun h => by cases h), (fun ⟨y, hy, h⟩ => by
          rcases List.mem_append.mp hy with hy | hy
          · have := hall y hy
            omega
          · rw [List.mem_singleton.mp hy] at h
            omega)⟩ (by rw [if_neg (by simp), hout]) ρ' st' d' a b
        repeat' (first
 | (refine I_WS ?_; first
 | refine W_iaddr (j := pre.length) rfl rfl rfl rfl rfl hpl ?_
 | refine W_mov (v := d1) rfl rfl rfl ?_
 | refine W_mov (v := d) rfl rfl rfl ?_
 | (refine W_appO (r := x) rfl rfl rfl rfl hO hbd hlim ?_; intro st1 d1 a1 a2)
 | (refine I_mov ?_; first
 | refine W_mov (v := .int _ _) rfl rfl rfl ?_
 | refine W_mov (v := .bool _) rfl rfl rfl ?_
 | refine W_mov (v := .slice _ _ _) rfl rfl rfl ?_)
 | (refine I_bin ?_; first
 | refine W_lssT rfl rfl rfl rfl (by omega) ?_
 | refine W_geqF rfl rfl rfl rfl (by omega) ?_
 | refine W_neqT rfl rfl rfl rfl (by omega) ?_
 | refine W_add rfl rfl rfl rfl (by first | exact w64 (by omega) | rfl) ?_)
 | (refine I_load ?_; first
 | refine W_loadE (agg := true) (d := .agg [_, _]) rfl rfl rfl hv rfl ?_
 | refine W_loadE (agg := false) (d := .int _ _) rfl rfl rfl hv rfl ?_)
 | (refine I_pick ?_; first
 | refine W_pick (v := .bool _) rfl rfl rfl rfl ?_)
 | refine W_not rfl rfl rfl ?_
 | refine W_lenM rfl rfl rfl ?_
 | refine W_faddrE rfl rfl rfl ?_
 | refine W_bslice (ys := [_]) rfl rfl rfl (by decide) rfl ?_
 | refine WS_nil ?_)
 | refine WC_seq ?_
 | refine WC_opsS ?_
 | refine WC_skip ?_
 | refine WC_condT rfl ?_
 | refine WC_condF rfl ?_
 | refine WC_block ?_)
        exact hfin _ st1 d1 a1 a2 rfl rfl rfl rfl rfl rfl
      · have hla' : (true = true ↔ ∃ y ∈ pre ++ [x], n ≤ y.node) := ⟨fun _ => ⟨x, by simp, by omega⟩, fun _ => rfl⟩
        by_cases hne : x.node = n
        · have hfin := fun (ρ' : Nat → D) (st' : Store) (d' : D) (a : st'.lim ≤ 0) (b : OutO st' d' (out ++ [⟨n, t⟩])) => hnext true (out ++ [⟨n, t⟩]) hla' (by rw [if_pos rfl, put_below hall, hout]; simp [putR, hlt, hne]) ρ' st' d' a b
          repeat' (first
 | (refine I_WS ?_; first
 | refine W_iaddr (j := pre.length) rfl rfl rfl rfl rfl hpl ?_
 | refine W_mov (v := d1) rfl rfl rfl ?_
 | refine W_mov (v := d) rfl rfl rfl ?_
 | (refine W_appO (r := ⟨n, t⟩) rfl rfl rfl rfl hO hbd hlim ?_; intro st1 d1 a1 a2)
 | (refine I_mov ?_; first
 | refine W_mov (v := .int _ _) rfl rfl rfl ?_
 | refine W_mov (v := .bool _) rfl rfl rfl ?_
 | refine W_mov (v := .slice _ _ _) rfl rfl rfl ?_)
 | (refine I_bin ?_; first
 | refine W_lssT rfl rfl rfl rfl (by omega) ?_
 | refine W_geqT rfl rfl rfl rfl (by omega) ?_
 | refine W_neqF rfl rfl rfl rfl (by omega) ?_
 | refine W_add rfl rfl rfl rfl (by first | exact w64 (by omega) | rfl) ?_)
 | (refine I_load ?_; first
 | refine W_loadE (agg := false) (d := .int _ _) rfl rfl rfl hv rfl ?_)
 | (refine I_pick ?_; first
 | refine W_pick (v := .bool _) rfl rfl rfl rfl ?_)
 | (refine I_build ?_; first
 | refine W_build (cs := [_, _]) rfl rfl rfl ?_)
 | refine W_not rfl rfl rfl ?_
 | refine W_lenM rfl rfl rfl ?_
 | refine W_faddrE rfl rfl rfl ?_
 | refine W_bslice (ys := [_]) rfl rfl rfl (by decide) rfl ?_
 | refine WS_nil ?_)
 | refine WC_seq ?_
 | refine WC_opsS ?_
 | refine WC_skip ?_
 | refine WC_condT rfl ?_
 | refine WC_condF rfl ?_
 | refine WC_block ?_)
          exact hfin _ st1 d1 a1 a2 rfl rfl rfl rfl rfl rfl
        · have hfin := fun (ρ' : Nat → D) (st' : Store) (d' : D) (a : st'.lim ≤ 0) (b : OutO st' d' (out ++ [⟨n, t⟩] ++ [x])) => hnext true (out ++ [⟨n, t⟩] ++ [x]) hla' (by rw [if_pos rfl, put_below hall, hout]; simp [putR, hlt, hne]) ρ' st' d' a b
          repeat' (first
 | (refine I_WS ?_; first
 | refine W_iaddr (j := pre.length) rfl rfl rfl rfl rfl hpl ?_
 | refine W_mov (v := d2) rfl rfl rfl ?_
 | refine W_mov (v := d1) rfl rfl rfl ?_
 | refine W_mov (v := d) rfl rfl rfl ?_
 | (refine W_appO (r := x) rfl rfl rfl rfl a2 hbd2 a1 ?_; intro st2 d2 b1 b2)
 | (refine W_appO (r := ⟨n, t⟩) rfl rfl rfl rfl hO hbd hlim ?_; intro st1 d1 a1 a2)
 | (refine I_mov ?_; first
 | refine W_mov (v := .int _ _) rfl rfl rfl ?_
 | refine W_mov (v := .bool _) rfl rfl rfl ?_
 | refine W_mov (v := .slice _ _ _) rfl rfl rfl ?_)
 | (refine I_bin ?_; first
 | refine W_lssT rfl rfl rfl rfl (by omega) ?_
 | refine W_geqT rfl rfl rfl rfl (by omega) ?_
 | refine W_neqT rfl rfl rfl rfl (by omega) ?_
 | refine W_add rfl rfl rfl rfl (by first | exact w64 (by omega) | rfl) ?_)
 | (refine I_load ?_; first
 | refine W_loadE (agg := true) (d := .agg [_, _]) rfl rfl rfl hv rfl ?_
 | refine W_loadE (agg := false) (d := .int _ _) rfl rfl rfl hv rfl ?_)
 | (refine I_pick ?_; first
 | refine W_pick (v := .bool _) rfl rfl rfl rfl ?_)
 | (refine I_build ?_; first
 | refine W_build (cs := [_, _]) rfl rfl rfl ?_)
 | refine W_not rfl rfl rfl ?_
 | refine W_lenM rfl rfl rfl ?_
 | refine W_faddrE rfl rfl rfl ?_
 | refine W_bslice (ys := [_]) rfl rfl rfl (by decide) rfl ?_
 | refine WS_nil ?_)
 | refine WC_seq ?_
 | refine WC_opsS ?_
 | refine WC_skip ?_
 | refine WC_condT rfl ?_
 | refine WC_block ?_)
          exact hfin _ st2 d2 b1 b2 rfl rfl rfl rfl rfl rfl
theorem fin_O {ρ : Nat → D} {st : Store} {X0 : X} {rs : List Rs} {d : D} {es : List Rd} (hx : X0 = .normal ∨ X0 = .ret) (h1 : resAll ρ st rs = some d) (hO : OutO st d es) : (X0 = .normal ∨ X0 = .ret) ∧ ∃ r, (resAll ρ st rs).bind (finP st) = some r ∧ IsN Rd.e 2 es r := by
  rcases hO with ⟨rfl, rfl⟩ | ⟨q, n, c, rfl, hne, rfl, hR⟩
  · exact ⟨hx, .slice .isnil 0 [], by rw [h1]; rfl, .isnil, 0, rfl, .inr rfl, rfl⟩
  · exact finX_N (t := .row) (s := 2) rfl (.inl rfl) (fin_row hx h1 (by rw [List.length_map]) (by decide) hR (fun d hd => by
      obtain ⟨e, _, rfl⟩ := List.mem_map.mp hd
      exact ⟨rfl, rfl⟩))
set_option maxHeartbeats 4000000 in
theorem r_with (n t : Int) (l : List Rd) (hll : l.length ≤ 1000000) (hR : RS l) (tl : Tok) (sl : Nat) (hsl : sl = 2 ∨ l = []) : EvX Γ 72 [.slice tl sl (l.map Rd.e), .int .i64 n, .int .i64 t] (IsN Rd.e 2 (putR n t l)) := by
  refine EvX_code rfl rfl ?_
  repeat' (first
 | (refine I_WS ?_; first
 | (refine I_mov ?_; first
 | refine W_mov (v := .int _ _) rfl rfl rfl ?_
 | refine W_mov (v := .bool _) rfl rfl rfl ?_
 | refine W_mov (v := .slice _ _ _) rfl rfl rfl ?_)
 | refine WS_nil ?_)
 | refine WC_seq ?_
 | refine WC_opsS ?_
 | refine WC_block ?_)
  refine rl_with n t l hll hR tl sl hsl l [] [] false rfl (by simp) rfl _ _ (.slice .isnil 0 []) (Nat.le_refl _) (.inl ⟨rfl, rfl⟩) ?_ ?_ ?_ ?_ ?_ ?_ _ (fun ρ' st' d laid hlim hla hO h1 h2 h7 h8 => ?_)
  all_goals first | rfl | skip
  rw [← upd_self h1, ← upd_self h2, ← upd_self h7, ← upd_self h8]
  cases laid with
  | true =>
    rw [if_pos rfl] at hO
    repeat' (first
 | (refine I_WS ?_; first
 | refine W_mov (v := d) rfl rfl rfl ?_
 | (refine I_mov ?_; first
 | refine W_mov (v := .bool _) rfl rfl rfl ?_)
 | refine W_not rfl rfl rfl ?_
 | refine WS_nil ?_)
 | refine WC_seq ?_
 | refine WC_opsS ?_
 | refine WC_skip ?_
 | refine WC_condF rfl ?_
 | refine WC_ret ?_)
    exact fin_O (.inr rfl) rfl hO
  | false =>
    rw [if_neg (by simp)] at hO
    have hall : ∀ y ∈ l, y.node < n := fun y hy => Int.lt_of_not_ge fun h => by have := hla.mpr ⟨y, hy, h⟩; cases this
    have hbd : (l.length + 1) * 16 ≤ 140737488355328 := by omega
    rw [put_all hall]
    repeat' (first
 | (refine I_WS ?_; first
 | refine W_mov (v := d1) rfl rfl rfl ?_
 | refine W_mov (v := d) rfl rfl rfl ?_
 | (refine W_appO (r := ⟨n, t⟩) rfl rfl rfl rfl hO hbd hlim ?_; intro st1 d1 a1 a2)
 | (refine I_mov ?_; first
 | refine W_mov (v := .int _ _) rfl rfl rfl ?_
 | refine W_mov (v := .bool _) rfl rfl rfl ?_)
 | (refine I_build ?_; first
 | refine W_build (cs := [_, _]) rfl rfl rfl ?_)
 | refine W_not rfl rfl rfl ?_
 | refine W_bslice (ys := [_]) rfl rfl rfl (by decide) rfl ?_
 | refine WS_nil ?_)
 | refine WC_seq ?_
 | refine WC_opsS ?_
 | refine WC_condT rfl ?_
 | refine WC_ret ?_)
    exact fin_O (.inr rfl) rfl a2
end Go.Eat
