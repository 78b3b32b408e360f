/-
  Sorting by nodes, as the known function does it, and as plain lists.
-/
import Derived.Test.YtepbhoahafopdaaEarEarU
import Derived.Test.YtepbhoahafopdaaEvEvX4
set_option linter.unusedVariables false
set_option linter.unusedSimpArgs false
set_option linter.unnecessarySimpa false

namespace Go.Ev
theorem EvRW_primS {Γ : Nat → Option FD} {st st' : Store} {f : Nat} {F : List D → Store → Option (D × Store)} {ds : List D} {r : D} (hf : Γ f = some (.primS F)) (hF : F (ds.map D.strip) st = some (r, st')) : EvRW Γ f ds st r st' := by
  refine ⟨2, fun n hn => ?_⟩
  obtain ⟨n, rfl⟩ : ∃ m, n = m + 2 := ⟨n - 2, by omega⟩
  have hp : callP Γ (n + 1) f (ds.map D.strip) = none := by simp [callP, hf]
  have hp2 : callP Γ (n + 1) f (ds.map (seen st)) = none := by simp [callP, hf]
  refine ⟨?_, by simp [callRW, hf, hF]⟩
  simp only [callRO, hf, hp, hp2]
  split
  · rfl
  · split
    · split <;> rfl
    · rfl
end Go.Ev
namespace Go.Ear
open Go.Ev
set_option linter.unusedVariables false
set_option linter.unusedSimpArgs false
def insK {α : Type} (key : α → Int) (x : α) : List α → List α
  | [] => [x]
  | y :: s => if key y < key x then y :: insK key x s else x :: y :: s
def srtK {α : Type} (key : α → Int) : List α → List α
  | [] => []
  | x :: s => insK key x (srtK key s)
theorem insK_perm {α : Type} (key : α → Int) (x : α) : ∀ l : List α, (insK key x l).Perm (x :: l)
  | [] => List.Perm.refl _
  | y :: s => by
    simp only [insK]
    split
    · exact ((insK_perm key x s).cons y).trans (List.Perm.swap x y s)
    · exact List.Perm.refl _
theorem srtK_perm {α : Type} (key : α → Int) : ∀ l : List α, (srtK key l).Perm l
  | [] => List.Perm.refl _
  | x :: s => (insK_perm key x _).trans ((srtK_perm key s).cons x)
theorem insK_map {α β : Type} (key : β → Int) (f : α → β) (x : α) : ∀ l : List α, insK key (f x) (l.map f) = (insK (fun a => key (f a)) x l).map f
  | [] => rfl
  | y :: s => by
    simp only [List.map_cons, insK]
    split
    · rw [insK_map key f x s]; rfl
    · rfl
theorem srtK_map {α β : Type} (key : β → Int) (f : α → β) : ∀ l : List α, srtK key (l.map f) = (srtK (fun a => key (f a)) l).map f
  | [] => rfl
  | x :: s => by
    simp only [List.map_cons, srtK]
    rw [srtK_map key f s, insK_map]
theorem insI_eq (x : List Int) : ∀ l : List (List Int), insI 0 x l = insK (fun a => a.getD 0 0) x l
  | [] => rfl
  | y :: s => by simp only [insI, insK, insI_eq x s]
theorem sortI_eq : ∀ l : List (List Int), sortI 0 l = srtK (fun a => a.getD 0 0) l
  | [] => rfl
  | x :: s => by simp only [sortI, srtK, sortI_eq s, insI_eq]
theorem insK_sorted {α : Type} (key : α → Int) (x : α) : ∀ l : List α, (l.Pairwise fun a b => key a ≤ key b) → (insK key x l).Pairwise fun a b => key a ≤ key b
  | [], _ => by simp [insK]
  | y :: s, h => by
    have h' := List.pairwise_cons.mp h
    simp only [insK]
    split
    · rename_i hlt
      refine List.pairwise_cons.mpr ⟨fun z hz => ?_, insK_sorted key x s h'.2⟩
      rcases List.mem_cons.mp ((insK_perm key x s).mem_iff.mp hz) with rfl | hz
      · omega
      · exact h'.1 z hz
    · rename_i hlt
      refine List.pairwise_cons.mpr ⟨fun z hz => ?_, h⟩
      rcases List.mem_cons.mp hz with rfl | hz
      · omega
      · have := h'.1 z hz
        omega
theorem srtK_sorted {α : Type} (key : α → Int) : ∀ l : List α, (srtK key l).Pairwise fun a b => key a ≤ key b
  | [] => List.Pairwise.nil
  | x :: s => insK_sorted key x _ (srtK_sorted key s)
def Rd.row (e : Rd) : List Int := [e.node, e.at']
theorem rd_cells2 (e : Rd) : e.e.cells = e.row.map (D.int .i64) := rfl
theorem flat_cells (es : List Rd) : (es.map Rd.e).flatMap D.cells = (es.flatMap Rd.row).map (D.int .i64) := by
  induction es with
  | nil => rfl
  | cons e es ih => rw [List.map_cons, List.flatMap_cons, ih, List.flatMap_cons, List.map_append]; rfl
theorem intsOf_map : ∀ l : List Int, intsOf (l.map (D.int .i64)) = some l
  | [] => rfl
  | x :: l => by simp only [List.map_cons, intsOf, intsOf_map l]
theorem rowsI_flat : ∀ es : List Rd, rowsI 2 es.length (es.flatMap Rd.row) = es.map Rd.row
  | [] => rfl
  | e :: es => by
    rw [List.flatMap_cons, List.length_cons, List.map_cons]
    simp only [rowsI]
    rw [List.take_left' (show e.row.length = 2 from rfl), List.drop_left' (show e.row.length = 2 from rfl), rowsI_flat es]
theorem diffB_of : ∀ l : List Int, l.Nodup → diffB l = true
  | [], _ => rfl
  | x :: l, h => by
    have h' := List.nodup_cons.mp h
    simp only [diffB, diffB_of l h'.2, Bool.and_true, Bool.not_eq_true']
    simpa using h'.1
theorem el2 {es : List Rd} : ∀ d ∈ es.map Rd.e, d.cells.length = 2 := fun d hd => by
  obtain ⟨e, _, rfl⟩ := List.mem_map.mp hd
  rfl
theorem s_sort (es : List Rd) (hn : (es.map Rd.node).Nodup) (hlen : es.length < 4611686018427387904) (st : Store) (p c : Nat) (hR : RowIs st p 2 (es.map Rd.e)) :
    ∃ st', EvRW Γ 47 [.rs p 0 2 es.length c, .func 48 []] st (.tuple []) st' ∧ RowIs st' p 2 ((srtK Rd.node es).map Rd.e) := by
  obtain ⟨hl, hp, cs, hb, hlc, htk, hpl⟩ := hR
  rw [List.length_map] at hlc htk
  have e1 : sortI 0 (es.map Rd.row) = (srtK Rd.node es).map Rd.row := by rw [sortI_eq, srtK_map]; rfl
  have e2 : ((srtK Rd.node es).map Rd.row).flatMap (fun x => x.map (D.int .i64)) = ((srtK Rd.node es).map Rd.e).flatMap D.cells := by
    rw [List.flatMap_map, List.flatMap_map]; rfl
  have hpm := (srtK_perm Rd.node es).length_eq
  have e3 : (((srtK Rd.node es).map Rd.e).flatMap D.cells).length = es.length * 2 := by
    rw [flatMap_len el2, List.length_map, hpm]
  refine ⟨{ st with boxes := upd st.boxes p (some (.row (((srtK Rd.node es).map Rd.e).flatMap D.cells ++ cs.drop (es.length * 2)))) }, EvRW_primS (F := sortF 2 0 48) rfl ?_, hl, hp, _, upd_same _ _ _, ?_, ?_, ?_⟩
  · show sortF 2 0 48 [.rs p 0 2 es.length c, .func 48 []] st = _
    simp only [sortF, hb]
    rw [htk, flat_cells, intsOf_map]
    simp only [rowsI_flat, e1, e2]
    rw [if_pos ⟨trivial, trivial, trivial, hl, hlc, hlen, by
      rw [List.map_map]
      exact diffB_of _ hn⟩]
  · rw [List.length_map, List.length_append, e3, hpm]; omega
  · rw [List.length_map, hpm, List.take_left' e3]
  · rw [List.all_append, Bool.and_eq_true]
    refine ⟨?_, ?_⟩
    · rw [flat_cells]
      simp [D.plain]
    · rw [List.all_eq_true] at hpl ⊢
      exact fun x hx => hpl x (List.mem_of_mem_drop hx)
end Go.Ear

/-
  The times, by nodes.
-/
namespace Go.Ear
open Go.Ev
set_option linter.unusedVariables false
set_option linter.unusedSimpArgs false
theorem pass_ge {e : Eg} {t sz : Int} (h : passC e t sz) : t ≤ thereE e t sz := by
  have h1 := le_mx (a := t) (b := e.op)
  have h2 := takes_in e sz
  have h3 := h.1.2.2.2.1.2.2
  unfold thereE
  omega
theorem pass_to {e : Eg} {t sz : Int} (h : passC e t sz) : 1 ≤ e.to ∧ e.to ≤ 255 := h.1.2.2.1.2.1
theorem pass_top {e : Eg} {t sz : Int} (h : passC e t sz) : thereE e t sz ≤ 4294967294 := by
  have h2 := takes_in e sz
  have h3 := h.1.2.2.2.1.2.2
  have h4 := h.1.2.2.2.1.2.1
  have h5 := h.2.2
  have h6 := le_mx (a := takesE e sz) (b := 1)
  unfold thereE
  omega
theorem ceilI_mono {a a' b : Int} (ha : 0 ≤ a') (h : a' ≤ a) (hb : 1 ≤ b) : ceilI a' b ≤ ceilI a b := by
  have h0 : 0 ≤ a := by omega
  unfold ceilI
  rw [Int.tdiv_eq_ediv_of_nonneg ha, Int.tmod_eq_emod_of_nonneg ha, Int.tdiv_eq_ediv_of_nonneg h0, Int.tmod_eq_emod_of_nonneg h0]
  have d1 := Int.ediv_le_ediv (c := b) (by omega) h
  have m1 := Int.emod_nonneg a' (show b ≠ 0 by omega)
  have m2 := Int.emod_nonneg a (show b ≠ 0 by omega)
  have e1 := Int.mul_ediv_add_emod a' b
  have e2 := Int.mul_ediv_add_emod a b
  by_cases hd : a' / b = a / b
  · rw [hd] at e1 ⊢
    split <;> split <;> omega
  · split <;> split <;> omega
/-- Who begins earlier, or with less, is there no later. -/
theorem pass_mono {e : Eg} {t t' sz sz' : Int} (h : passC e t sz) (ht : 0 ≤ t') (htt : t' ≤ t) (hs : 0 ≤ sz') (hss : sz' ≤ sz) : passC e t' sz' ∧ thereE e t' sz' ≤ thereE e t sz := by
  obtain ⟨⟨h1, h2, h3⟩, h4, h5⟩ := h
  have hr : rightE e t' sz' := ⟨by omega, by omega, h3⟩
  have hm : mx t' e.op ≤ mx t e.op := by
    have := le_mx (a := t) (b := e.op)
    exact mx_le.mpr ⟨by omega, by omega⟩
  have hk : takesE e sz' ≤ takesE e sz := by
    unfold takesE
    rw [if_pos ⟨by omega, by omega, h3⟩, if_pos ⟨by omega, h2, h3⟩]
    exact ceilI_mono hs hss h3.2.2.2.1.1
  have hm1 : mx (takesE e sz') 1 ≤ mx (takesE e sz) 1 := by
    have := le_mx (a := takesE e sz) (b := 1)
    exact mx_le.mpr ⟨by omega, by omega⟩
  refine ⟨⟨hr, by omega, by omega⟩, ?_⟩
  unfold thereE
  omega
theorem psz_some {sz : Int} {e : Eg} {t u : Int} : psz sz e t = some u ↔ passC e t sz ∧ u = thereE e t sz := by
  unfold psz
  by_cases h : passC e t sz
  · rw [if_pos h]; simp [h, eq_comm]
  · rw [if_neg h]; simp [h]
theorem psz_ge {sz : Int} : ∀ e t u, psz sz e t = some u → t ≤ u := fun e t u h => by
  obtain ⟨h1, rfl⟩ := psz_some.mp h
  exact pass_ge h1
theorem reach_ge {sz : Int} {cl : Int → Bool} {l : List Eg} {fr now n t : Int} (h : Reach (psz sz) cl l fr now n t) : now ≤ t := by
  induction h with
  | here => exact Int.le_refl _
  | go _ _ _ hp _ ih => exact Int.le_trans ih (psz_ge _ _ _ hp)
theorem psz_mo {sz : Int} {cl : Int → Bool} {l : List Eg} {fr now : Int} (hn : 0 ≤ now) (hs : 0 ≤ sz) : ∀ e t t' u, psz sz e t = some u → t' ≤ t → (∃ a b, Reach (psz sz) cl l fr now a b ∧ b = t') → ∃ u', u' ≤ u ∧ psz sz e t' = some u' := by
  rintro e t t' u h ht ⟨a, b, hr, rfl⟩
  obtain ⟨h1, rfl⟩ := psz_some.mp h
  have := reach_ge hr
  obtain ⟨h2, h3⟩ := pass_mono h1 (by omega) ht hs (Int.le_refl _)
  exact ⟨_, h3, psz_some.mpr ⟨h2, rfl⟩⟩
def clS (shut : List Int) (n : Int) : Bool := decide (n ∈ shut)
/-- From when on each node may have it. -/
def timesM (l : List Eg) (fr now sz : Int) (shut : List Int) : List Rd := if AskC l fr now sz then srtK Rd.node (dij (psz sz) (clS shut) l (l.length + 1) [] [⟨fr, now⟩]) else []
theorem meas_start (l : List Eg) (r : Rd) : meas l [] [r] ≤ l.length + 1 := by
  have := List.length_filter_le (fun e : Eg => !vis [] e.fr) l
  unfold meas
  simp
  omega
theorem dij_ask {l : List Eg} {fr now sz : Int} (ha : AskC l fr now sz) (shut : List Int) : IsT (psz sz) (clS shut) l fr now (dij (psz sz) (clS shut) l (l.length + 1) [] [⟨fr, now⟩]) :=
  dij_isT psz_ge (psz_mo ha.2.2.1.1 ha.2.1.1) _ _ _ (meas_start l _) .start
theorem dij_len (ps : Eg → Int → Option Int) (cl : Int → Bool) (l : List Eg) : ∀ (n : Nat) (out s : List Rd), (dij ps cl l n out s).length ≤ out.length + n
  | 0, out, s => by rw [dij]; omega
  | n + 1, out, [] => by rw [dij]; omega
  | n + 1, out, r :: s => by
    rw [dij]
    split
    · have := dij_len ps cl l n out s; omega
    · have := dij_len ps cl l n (out ++ [r]) (pushes ps cl (out ++ [r]) r.at' (fromE r.node l) s)
      simp at this
      omega
theorem times_len (l : List Eg) (fr now sz : Int) (shut : List Int) : (timesM l fr now sz shut).length ≤ l.length + 1 := by
  unfold timesM
  split
  · rw [(srtK_perm Rd.node _).length_eq]
    have := dij_len (psz sz) (clS shut) l (l.length + 1) [] [⟨fr, now⟩]
    simpa using this
  · simp
theorem l_cl (shut : List Int) (hsl : shut.length ≤ 1073741824) (t : Tok) (sz : Nat) (hs : sz = 1 ∨ shut = []) (v0 v1 v2 v3 v4 v10 : D) : ∀ (post pre : List Int), shut = pre ++ post → ∀ (kv : List (Int × D)), KVC kv (clS pre) → ∀ (ρ : Nat → D) (st : Store), st.lim ≤ 0 → st.boxes 0 = some (.map kv) →
    ρ 0 = v0 → ρ 1 = v1 → ρ 2 = v2 → ρ 3 = v3 → ρ 4 = v4 → ρ 10 = v10 → ρ 11 = .map 0 → ρ 34 = .slice t sz (shut.map (D.int .i64)) → ρ 35 = .int .i64 shut.length → ρ 36 = .int .i64 pre.length → ∀ (Q : X → (Nat → D) → Store → Prop),
    (∀ ρ' st' kv', KVC kv' (clS shut) → st'.lim ≤ 0 → st'.next = st.next → st'.boxes 0 = some (.map kv') → ρ' 0 = v0 → ρ' 1 = v1 → ρ' 2 = v2 → ρ' 3 = v3 → ρ' 4 = v4 → ρ' 10 = v10 → ρ' 11 = .map 0 → Q (.exit 0) ρ' st') → WC Γ (.loop c_early_Times_l0) ρ st Q := by
  intro post
  induction post with
  | nil =>
    intro pre hpp kv hk ρ st hlim hb h0 h1 h2 h3 h4 h10 h11 h34 h35 h36 Q hQ
    rw [List.append_nil] at hpp
    subst hpp
    rw [← upd_self h0, ← upd_self h1, ← upd_self h2, ← upd_self h3, ← upd_self h4, ← upd_self h10, ← upd_self h11, ← upd_self h34, ← upd_self h35, ← upd_self h36]
    refine WC_loop ?_
    repeat' (first
 | (refine I_WS ?_; first
 | (refine I_bin ?_; first
 | refine W_lssF rfl rfl rfl rfl (by omega) ?_)
 | refine WS_nil ?_)
 | refine WC_seq ?_
 | refine WC_opsS ?_
 | refine WC_condF rfl ?_
 | refine WC_exit ?_)
    exact hQ _ _ kv hk hlim rfl hb rfl rfl rfl rfl rfl rfl rfl
  | cons x post ih =>
    intro pre hpp kv hk ρ st hlim hb h0 h1 h2 h3 h4 h10 h11 h34 h35 h36 Q hQ
    have hv : shut[pre.length]? = some x := by rw [hpp]; simp
    have hlen : shut.length = pre.length + (post.length + 1) := by rw [hpp]; simp
    have hz : sz = 1 := hs.resolve_right (by rintro rfl; simp at hlen)
    subst hz
    have hpl : pre.length < (shut.map (D.int .i64)).length := by simp; omega
    have hltl : (pre.length : Int) < shut.length := by omega
    have hk2 : KVC (kvSet x (.bool true) kv) (clS (pre ++ [x])) := fun n => by
      rw [kvGet_set]
      by_cases e : n = x
      · rw [if_pos e]; simp [clS, e]
      · rw [if_neg e, hk n]; simp [clS, e]
    have hnext : ∀ (ρ' : Nat → D) (st' : Store), st'.lim ≤ 0 → st'.next = st.next → st'.boxes 0 = some (.map (kvSet x (.bool true) kv)) → ρ' 0 = v0 → ρ' 1 = v1 → ρ' 2 = v2 → ρ' 3 = v3 → ρ' 4 = v4 → ρ' 10 = v10 → ρ' 11 = .map 0 → ρ' 34 = .slice t 1 (shut.map (D.int .i64)) → ρ' 35 = .int .i64 shut.length → ρ' 36 = .int .i64 ((pre.length : Int) + 1) → WC Γ (.loop c_early_Times_l0) ρ' st' Q := fun ρ' st' e1 e2 e3 k0 k1 k2 k3 k4 k10 k11 k34 k35 k36 =>
      ih (pre ++ [x]) (by simp [hpp]) _ hk2 ρ' st' e1 e3 k0 k1 k2 k3 k4 k10 k11 k34 k35 (by rw [List.length_append]; exact k36) Q (fun ρ'' st'' kv' f0 f1 f2 => hQ ρ'' st'' kv' f0 f1 (f2.trans e2))
    clear ih hQ hpp
    rw [← upd_self h0, ← upd_self h1, ← upd_self h2, ← upd_self h3, ← upd_self h4, ← upd_self h10, ← upd_self h11, ← upd_self h34, ← upd_self h35, ← upd_self h36]
    refine WC_loop ?_
    repeat' (first
 | (refine I_WS ?_; first
 | refine W_iaddr (j := pre.length) rfl rfl rfl rfl rfl hpl ?_
 | refine W_mapset (v := .bool true) rfl rfl rfl hb hlim rfl rfl ?_
 | (refine I_mov ?_; first
 | refine W_mov (v := .int _ _) rfl rfl rfl ?_
 | refine W_mov (v := .map _) rfl rfl rfl ?_)
 | (refine I_bin ?_; first
 | refine W_lssT rfl rfl rfl rfl (by omega) ?_
 | refine W_add rfl rfl rfl rfl (by first | exact w64 (by omega) | rfl) ?_)
 | (refine I_load ?_; first
 | refine W_loadE (agg := false) (d := .int _ _) rfl rfl rfl hv rfl ?_)
 | refine WS_nil ?_)
 | refine WC_seq ?_
 | refine WC_opsS ?_
 | refine WC_skip ?_
 | refine WC_condT rfl ?_
 | refine WC_block ?_)
    refine hnext _ _ hlim rfl rfl ?_ ?_ ?_ ?_ ?_ ?_ ?_ ?_ ?_ ?_ <;> rfl
set_option maxHeartbeats 8000000 in
theorem s_Times (l : List Eg) (hll : l.length ≤ 1000) (fr now sz : Int) (shut : List Int) (hsl : shut.length ≤ 1073741824) (t t' : Tok) (s s' : Nat) (hs : s = 8 ∨ l = []) (hs' : s' = 1 ∨ shut = []) :
    EvX Γ 23 [.slice t s (l.map Eg.e), .int .i64 fr, .int .i64 now, .int .i64 sz, .slice t' s' (shut.map (D.int .i64))] (IsN Rd.e 2 (timesM l fr now sz shut)) := by
  refine EvX_code rfl rfl ?_
  have hA := fun t => s_asked l (by omega) fr now sz t s hs
  unfold timesM
  by_cases ha : AskC l fr now sz
  · rw [decide_eq_true ha] at hA
    rw [if_pos ha]
    have hT := dij_ask ha shut
    repeat' (first
 | (refine I_WS ?_; first
 | refine W_lenM rfl rfl rfl ?_
 | (refine I_mov ?_; first
 | refine W_mov (v := .int _ _) rfl rfl rfl ?_
 | refine W_mov (v := .slice _ _ _) rfl rfl rfl ?_
 | refine W_mov (v := .map _) rfl rfl rfl ?_)
 | (refine I_call ?_; first
 | refine W_call rfl rfl rfl (hA _) rfl rfl ?_)
 | refine W_not rfl rfl rfl ?_
 | refine W_mkmap rfl rfl ?_
 | refine WS_nil ?_)
 | refine WC_seq ?_
 | refine WC_opsS ?_
 | refine WC_skip ?_
 | refine WC_condF rfl ?_
 | refine WC_block ?_)
    refine l_cl shut hsl t' s' hs' (.slice t s (l.map Eg.e)) (.int .i64 fr) (.int .i64 now) (.int .i64 sz) (.slice t' s' (shut.map (D.int .i64))) (.slice .isnil 0 []) shut [] rfl [] (fun n => rfl) _ _ (Nat.le_refl _) ?_ ?_ ?_ ?_ ?_ ?_ ?_ ?_ ?_ ?_ ?_ _ (fun ρ' st' kv hk e1 e2 e3 h0 h1 h2 h3 h4 h10 h11 => ?_)
    all_goals first | rfl | skip
    obtain ⟨bx, nx1, tk, nt, lm, tl⟩ := st'
    have e2' : nx1 = 1 := e2
    subst e2'
    rw [← upd_self h0, ← upd_self h1, ← upd_self h2, ← upd_self h3, ← upd_self h4, ← upd_self h10, ← upd_self h11]
    have hlm : lm ≤ 0 := e1
    have hbx : bx 0 = some (.map kv) := e3
    have hNew := s_New [⟨fr, now⟩] (by simp) .exact 2 (.inl rfl) ⟨upd bx 1 (some (.map [])), 2, tk, nt, lm, tl⟩ (by show lm ≤ 2; omega)
    repeat' (first
 | (refine I_WS ?_; first
 | (refine I_mov ?_; first
 | refine W_mov (v := .int _ _) rfl rfl rfl ?_
 | refine W_mov (v := .map _) rfl rfl rfl ?_)
 | (refine I_call ?_; first
 | (refine W_callRWX0 rfl rfl hNew ?_ <;> intro r0 st2 hp0))
 | (refine I_build ?_; first
 | refine W_build (cs := [_, _]) rfl rfl rfl ?_)
 | refine W_bslice (ys := [_]) rfl rfl rfl (by decide) rfl ?_
 | refine W_mkmap rfl rfl ?_
 | refine WS_nil ?_)
 | refine WC_seq ?_
 | refine WC_opsS ?_)
    obtain ⟨h, o, rfl, q1, q2, H, N⟩ := hp0
    have N1 : st2.lim = lm := N.lim
    have q1' : 2 ≤ h := q1
    have hb0 : st2.boxes 0 = some (.map kv) := (N.box 0 (by show 0 < 2; omega)).trans hbx
    have hb1 : st2.boxes 1 = some (.map []) := N.box 1 (by show 1 < 2; omega)
    repeat' (first
 | (refine I_WS ?_; first
 | (refine I_mov ?_; first
 | refine W_mov (v := .ptr _ _) rfl rfl rfl ?_)
 | refine WS_nil ?_)
 | refine WC_seq ?_
 | refine WC_block ?_)
    refine l_out l hll t s hs sz (clS shut) kv hk (l.length + 1) [] [⟨fr, now⟩] (meas_start l _) (by simp; omega) [] (fun n => ⟨0, rfl, rfl⟩) _ st2 h o (.slice .isnil 0 []) (.slice t' s' (shut.map (D.int .i64))) (by rw [N1]; exact hlm) q1' q2 H hb0 hb1 (.inl ⟨rfl, rfl⟩) ?_ ?_ ?_ ?_ ?_ ?_ ?_ _ (fun ρ' st3 d' h' o' g1 g2 g3 => ?_)
    all_goals first | rfl | skip
    have hlen := dij_len (psz sz) (clS shut) l (l.length + 1) [] [⟨fr, now⟩]
    generalize dij (psz sz) (clS shut) l (l.length + 1) [] [⟨fr, now⟩] = es at *
    rcases g2 with ⟨rfl, rfl⟩ | ⟨q, n, c, _, _, _, rfl, hne, rfl, hR⟩
    · have hS : EvRW Γ 47 [.slice .isnil 0 [], .func 48 []] st3 (.tuple []) st3 := EvRW_primS (F := sortF 2 0 48) rfl rfl
      rw [← upd_self g3]
      repeat' (first
 | (refine I_WS ?_; first
 | (refine WS_callRW rfl rfl rfl hS ?_)
 | (refine I_mov ?_; first
 | refine W_mov (v := .slice _ _ _) rfl rfl rfl ?_)
 | refine WS_nil ?_)
 | refine WC_seq ?_
 | refine WC_opsS ?_
 | refine WC_ret ?_)
      exact finX_N (t := .isnil) (s := 0) rfl (.inr rfl) ⟨.inr rfl, rfl⟩
    · obtain ⟨st4, hS, hR2⟩ := s_sort es hT.t2 (by simp at hlen; omega) st3 q c hR
      rw [← upd_self g3]
      repeat' (first
 | (refine I_WS ?_; first
 | (refine WS_callRW rfl rfl rfl hS ?_)
 | (refine I_mov ?_; first
 | refine W_mov (v := .rs _ _ _ _ _) rfl rfl rfl ?_)
 | refine WS_nil ?_)
 | refine WC_seq ?_
 | refine WC_opsS ?_
 | refine WC_ret ?_)
      exact finX_N (t := .row) (s := 2) rfl (.inl rfl) (fin_row (.inr rfl) rfl (by rw [List.length_map, (srtK_perm Rd.node es).length_eq]) (by decide) hR2 (fun d hd => by
        obtain ⟨e, _, rfl⟩ := List.mem_map.mp hd
        exact ⟨rfl, rfl⟩))
  · rw [decide_eq_false ha] at hA
    rw [if_neg ha]
    repeat' (first
 | (refine I_WS ?_; first
 | (refine I_mov ?_; first
 | refine W_mov (v := .int _ _) rfl rfl rfl ?_
 | refine W_mov (v := .slice _ _ _) rfl rfl rfl ?_)
 | (refine I_call ?_; first
 | refine W_call rfl rfl rfl (hA _) rfl rfl ?_)
 | refine W_not rfl rfl rfl ?_
 | refine WS_nil ?_)
 | refine WC_seq ?_
 | refine WC_opsS ?_
 | refine WC_condT rfl ?_
 | refine WC_ret ?_)
    exact finX_N (t := .isnil) (s := 0) rfl (.inr rfl) ⟨.inr rfl, rfl⟩
end Go.Ear

/-
  A small case comes out right.
-/
namespace Go.Ear
open Go.Ev
set_option maxRecDepth 100000 in
theorem small_run : isT (callP Γ 400 21 []) = true := by decide +kernel
theorem s_small : EvP Γ 21 [] (.bool true) := EvP_of_run (isT_eq small_run)
end Go.Ear

/-
  Plain laws of the earliest times.
-/
namespace Go.Ear
set_option linter.unusedVariables false
set_option linter.unusedSimpArgs false
theorem nd_le {α : Type} [DecidableEq α] : ∀ {l m : List α}, l.Nodup → (∀ x ∈ l, x ∈ m) → l.length ≤ m.length
  | [], m, _, _ => Nat.zero_le _
  | x :: l, m, hn, hs => by
    have hn' := List.nodup_cons.mp hn
    have hx := hs x List.mem_cons_self
    have ih := nd_le (l := l) (m := m.erase x) hn'.2 (fun y hy => (List.mem_erase_of_ne (fun e : y = x => hn'.1 (by rw [← e]; exact hy))).mpr (hs y (List.mem_cons_of_mem _ hy)))
    rw [List.length_erase_of_mem hx] at ih
    have := List.length_pos_of_mem hx
    rw [List.length_cons]
    omega
theorem atN_some {n u : Int} : ∀ {L : List Rd}, atN n L = some u → ⟨n, u⟩ ∈ L
  | [], h => by cases h
  | r :: L, h => by
    rw [atN] at h
    split at h
    · rename_i e
      cases h
      obtain ⟨a, b⟩ := r
      cases e
      exact List.mem_cons_self
    · exact List.mem_cons_of_mem _ (atN_some h)
theorem atN_of {L : List Rd} (hn : (L.map Rd.node).Nodup) {r : Rd} (hr : r ∈ L) : atN r.node L = some r.at' := by
  induction L with
  | nil => cases hr
  | cons x L ih =>
    have hn' := List.nodup_cons.mp hn
    rw [atN]
    rcases List.mem_cons.mp hr with rfl | hr
    · rw [if_pos rfl]
    · rw [if_neg (fun e : x.node = r.node => hn'.1 (by rw [e]; exact List.mem_map.mpr ⟨r, hr, rfl⟩))]
      exact ih hn'.2 hr
section
variable {ps : Eg → Int → Option Int} {cl : Int → Bool} {l : List Eg} {fr now : Int}
theorem IsT.perm {es es' : List Rd} (h : IsT ps cl l fr now es) (hp : es'.Perm es) : IsT ps cl l fr now es' :=
  ⟨fun x hx => h.t1 x (hp.mem_iff.mp hx), (hp.map Rd.node).nodup_iff.mpr h.t2, fun n t hr => by
    obtain ⟨y, hy, h1⟩ := h.t3 n t hr
    exact ⟨y, hp.mem_iff.mpr hy, h1⟩⟩
theorem IsT.at_ {es : List Rd} (h : IsT ps cl l fr now es) {n t : Int} (hr : Reach ps cl l fr now n t) : ∃ u, atN n es = some u ∧ u ≤ t := by
  obtain ⟨y, hy, rfl, h2⟩ := h.t3 n t hr
  exact ⟨y.at', atN_of h.t2 hy, h2⟩
theorem IsT.pos {es : List Rd} (h : IsT ps cl l fr now es) : 0 < es.length := by
  obtain ⟨y, hy, _⟩ := h.t3 fr now .here
  exact List.length_pos_of_mem hy
theorem reach_trans {n t m u : Int} (h : Reach ps cl l fr now n t) (h' : Reach ps cl l n t m u) : Reach ps cl l fr now m u := by
  induction h' with
  | here => exact h
  | go _ he hf hp hc ih => exact .go ih he hf hp hc
theorem reach_open {cl' : Int → Bool} (hc : ∀ n, cl n = false → cl' n = false) {n t : Int} (h : Reach ps cl l fr now n t) : Reach ps cl' l fr now n t := by
  induction h with
  | here => exact .here
  | go _ he hf hp h ih => exact .go ih he hf hp (hc _ h)
theorem reach_cl {n t : Int} (h : Reach ps cl l fr now n t) : n = fr ∨ cl n = false := by
  cases h with
  | here => exact .inl rfl
  | go _ _ _ _ hc => exact .inr hc
end
theorem reach_mono {cl : Int → Bool} {l : List Eg} {fr now later sz more : Int} (hn : 0 ≤ now) (hl : now ≤ later) (hs : 0 ≤ sz) (hm : sz ≤ more) {n t : Int} (h : Reach (psz more) cl l fr later n t) : ∃ t', t' ≤ t ∧ Reach (psz sz) cl l fr now n t' := by
  induction h with
  | here => exact ⟨now, hl, .here⟩
  | go _ he hf hp hc ih =>
    obtain ⟨t', h1, h2⟩ := ih
    obtain ⟨h3, rfl⟩ := psz_some.mp hp
    have := reach_ge h2
    obtain ⟨h4, h5⟩ := pass_mono h3 (by omega) h1 hs hm
    exact ⟨_, h5, .go h2 he hf (psz_some.mpr ⟨h4, rfl⟩) hc⟩
theorem reach_node {sz : Int} {cl : Int → Bool} {l : List Eg} {fr now n t : Int} (hf : 1 ≤ fr ∧ fr ≤ 255) (h : Reach (psz sz) cl l fr now n t) : 1 ≤ n ∧ n ≤ 255 := by
  cases h with
  | here => exact hf
  | go _ _ _ hp _ => exact pass_to (psz_some.mp hp).1
theorem reach_top {sz : Int} {cl : Int → Bool} {l : List Eg} {fr now n t : Int} (hf : now ≤ 1099511627776) (h : Reach (psz sz) cl l fr now n t) : t ≤ 1099511627776 := by
  cases h with
  | here => exact hf
  | go _ _ _ hp _ =>
    obtain ⟨h1, rfl⟩ := psz_some.mp hp
    have := pass_top h1
    omega
theorem times_isT {l : List Eg} {fr now sz : Int} (ha : AskC l fr now sz) (shut : List Int) : IsT (psz sz) (clS shut) l fr now (timesM l fr now sz shut) := by
  unfold timesM
  rw [if_pos ha]
  exact (dij_ask ha shut).perm (srtK_perm Rd.node _)
theorem times_no {l : List Eg} {fr now sz : Int} (ha : ¬ AskC l fr now sz) (shut : List Int) : timesM l fr now sz shut = [] := by
  unfold timesM
  rw [if_neg ha]
theorem times_mem {l : List Eg} {fr now sz : Int} {shut : List Int} {r : Rd} (hr : r ∈ timesM l fr now sz shut) : AskC l fr now sz := by
  by_cases ha : AskC l fr now sz
  · exact ha
  · rw [times_no ha] at hr
    cases hr
theorem pw_lt : ∀ {L : List Rd}, (L.Pairwise fun a b => a.node ≤ b.node) → (L.map Rd.node).Nodup → L.Pairwise fun a b => a.node < b.node
  | [], _, _ => List.Pairwise.nil
  | x :: L, h, hn => by
    have h' := List.pairwise_cons.mp h
    have hn' := List.nodup_cons.mp hn
    refine List.pairwise_cons.mpr ⟨fun y hy => ?_, pw_lt h'.2 hn'.2⟩
    have h1 := h'.1 y hy
    have h2 : x.node ≠ y.node := fun e => hn'.1 (by rw [e]; exact List.mem_map.mpr ⟨y, hy, rfl⟩)
    omega
theorem times_lt (l : List Eg) (fr now sz : Int) (shut : List Int) : (timesM l fr now sz shut).Pairwise fun a b => a.node < b.node := by
  by_cases ha : AskC l fr now sz
  · have := times_isT ha shut
    refine pw_lt ?_ this.t2
    unfold timesM
    rw [if_pos ha]
    exact srtK_sorted Rd.node _
  · rw [times_no ha]
    exact List.Pairwise.nil
/-- Each of these is there, no later. -/
def Cov (a b : List Rd) : Prop := ∀ r ∈ b, ∃ u, atN r.node a = some u ∧ u ≤ r.at'
theorem cov_earlier {l : List Eg} {fr now later sz more : Int} (hn : 0 ≤ now) (hl : now ≤ later) (hs : 0 ≤ sz) (hm : sz ≤ more) : Cov (timesM l fr now sz []) (timesM l fr later more []) := fun r hr => by
  have hb := times_mem hr
  have ha : AskC l fr now sz := ⟨hb.1, ⟨hs, by have := hb.2.1.2; omega⟩, ⟨hn, by have := hb.2.2.1.2; omega⟩, hb.2.2.2⟩
  obtain ⟨t', h1, h2⟩ := reach_mono hn hl hs hm ((times_isT hb []).t1 r hr)
  obtain ⟨u, h3, h4⟩ := (times_isT ha []).at_ h2
  exact ⟨u, h3, by omega⟩
theorem cov_len {a b : List Rd} (h : Cov a b) (hn : (b.map Rd.node).Nodup) : b.length ≤ a.length := by
  have := nd_le (m := a.map Rd.node) hn (fun x hx => by
    obtain ⟨r, hr, rfl⟩ := List.mem_map.mp hx
    obtain ⟨u, h1, _⟩ := h r hr
    exact List.mem_map.mpr ⟨_, atN_some h1, rfl⟩)
  simpa using this
theorem times_nodup (l : List Eg) (fr now sz : Int) (shut : List Int) : ((timesM l fr now sz shut).map Rd.node).Nodup := by
  by_cases ha : AskC l fr now sz
  · exact (times_isT ha shut).t2
  · rw [times_no ha]; simp
theorem cov_shut {l : List Eg} {fr now sz : Int} (shut : List Int) : Cov (timesM l fr now sz []) (timesM l fr now sz shut) := fun r hr => by
  have ha := times_mem hr
  exact (times_isT ha []).at_ (reach_open (fun n _ => by simp [clS]) ((times_isT ha shut).t1 r hr))
theorem shut_from {l : List Eg} {fr now sz : Int} {shut : List Int} {n u : Int} (hn : n ∈ shut) (h : atN n (timesM l fr now sz shut) = some u) : n = fr := by
  have hr := atN_some h
  rcases reach_cl ((times_isT (times_mem hr) shut).t1 _ hr) with h | h
  · exact h
  · have h : clS shut n = false := h
    simp [clS, hn] at h
theorem shut_pos {l : List Eg} {fr now sz : Int} (shut : List Int) : 0 < (timesM l fr now sz []).length ↔ 0 < (timesM l fr now sz shut).length := by
  by_cases ha : AskC l fr now sz
  · exact ⟨fun _ => (times_isT ha shut).pos, fun _ => (times_isT ha []).pos⟩
  · rw [times_no ha, times_no ha]
theorem join_ask {l : List Eg} {fr now sz m t : Int} (h : atN m (timesM l fr now sz []) = some t) : AskC l m t sz ∧ Reach (psz sz) (clS []) l fr now m t := by
  have hr := atN_some h
  have ha := times_mem hr
  have hR := (times_isT ha []).t1 _ hr
  have h1 := reach_ge hR
  have h2 := reach_top ha.2.2.1.2 hR
  have h3 := ha.2.2.1.1
  exact ⟨⟨reach_node ha.1 hR, ha.2.1, ⟨Int.le_trans h3 h1, h2⟩, ha.2.2.2⟩, hR⟩
theorem cov_join {l : List Eg} {fr now sz m t : Int} (h : atN m (timesM l fr now sz []) = some t) : Cov (timesM l fr now sz []) (timesM l m t sz []) ∧ (∀ r ∈ timesM l m t sz [], t ≤ r.at') ∧ 0 < (timesM l m t sz []).length := by
  obtain ⟨h1, h2⟩ := join_ask h
  have ha := times_mem (atN_some h)
  refine ⟨fun r hr => ?_, fun r hr => reach_ge ((times_isT h1 []).t1 r hr), (times_isT h1 []).pos⟩
  exact (times_isT ha []).at_ (reach_trans h2 ((times_isT h1 []).t1 r hr))
end Go.Ear

/-
  EarlyEarlier, EarlyShuts, EarlyJoins, as the evaluator runs them.
-/
namespace Go.Ear
open Go.Ev
set_option linter.unusedVariables false
set_option linter.unusedSimpArgs false
theorem s_At1 (n : Int) (l : List Rd) (hll : l.length ≤ 1073741824) (u : Int) (hu : atN n l = some u) (t : Tok) (sz : Nat) (hs : sz = 2 ∨ l = []) : EvP Γ 19 [.slice t sz (l.map Rd.e), .int .i64 n] (.tuple [.int .i64 u, .bool true]) := by
  have h := s_At n l hll t sz hs
  rw [hu] at h
  exact h
theorem s_At0 (n : Int) (l : List Rd) (hll : l.length ≤ 1073741824) (hu : atN n l = none) (t : Tok) (sz : Nat) (hs : sz = 2 ∨ l = []) : EvP Γ 19 [.slice t sz (l.map Rd.e), .int .i64 n] (.tuple [.int .i64 0, .bool false]) := by
  have h := s_At n l hll t sz hs
  rw [hu] at h
  exact h
theorem l_E1 (a b : List Rd) (hal : a.length ≤ 1000000) (hbl : b.length ≤ 1000000) (hC : Cov a b) (ta tb : Tok) (sa sb : Nat) (hsa : sa = 2 ∨ a = []) (hsb : sb = 2 ∨ b = []) : ∀ (post pre : List Rd), b = pre ++ post → ∀ (ρ : Nat → D) (st : Store),
    ρ 13 = .bool true → ρ 14 = .slice ta sa (a.map Rd.e) → ρ 15 = .slice tb sb (b.map Rd.e) → ρ 16 = .int .i64 pre.length → ∀ (Q : X → (Nat → D) → Store → Prop),
    (∀ ρ', ρ' 13 = .bool true → ρ' 14 = .slice ta sa (a.map Rd.e) → ρ' 15 = .slice tb sb (b.map Rd.e) → Q (.exit 0) ρ' st) → WC Γ (.loop c_feluccalaw15_EarlyEarlier_l0) ρ st Q := by
  intro post
  induction post with
  | nil =>
    intro pre hpp ρ st h13 h14 h15 h16 Q hQ
    rw [List.append_nil] at hpp
    subst hpp
    rw [← upd_self h13, ← upd_self h14, ← upd_self h15, ← upd_self h16]
    refine WC_loop ?_
    repeat' (first
 | (refine I_WS ?_; first
 | (refine I_mov ?_; first
 | refine W_mov (v := .int _ _) rfl rfl rfl ?_
 | refine W_mov (v := .slice _ _ _) rfl rfl rfl ?_)
 | (refine I_bin ?_; first
 | refine W_lssF rfl rfl rfl rfl (by omega) ?_)
 | refine W_lenM rfl rfl rfl ?_
 | refine WS_nil ?_)
 | refine WC_seq ?_
 | refine WC_opsS ?_
 | refine WC_condF rfl ?_
 | refine WC_exit ?_)
    exact hQ _ rfl rfl rfl
  | cons r post ih =>
    intro pre hpp ρ st h13 h14 h15 h16 Q hQ
    have hv := rd_mid hpp
    have hlen : b.length = pre.length + (post.length + 1) := by rw [hpp]; simp
    have hz : sb = 2 := hsb.resolve_right (by rintro rfl; simp at hlen)
    subst hz
    have hpl : pre.length < (b.map Rd.e).length := by simp; omega
    have hltl : (pre.length : Int) < b.length := by omega
    obtain ⟨u, hu, hle⟩ := hC r (List.mem_of_getElem? hv)
    have hAt := fun t => s_At1 r.node a (by omega) u hu t sa hsa
    have hnext : ∀ (ρ' : Nat → D), ρ' 13 = .bool true → ρ' 14 = .slice ta sa (a.map Rd.e) → ρ' 15 = .slice tb 2 (b.map Rd.e) → ρ' 16 = .int .i64 ((pre.length : Int) + 1) → WC Γ (.loop c_feluccalaw15_EarlyEarlier_l0) ρ' st Q := fun ρ' k13 k14 k15 k16 =>
      ih (pre ++ [r]) (by simp [hpp]) ρ' st k13 k14 k15 (by rw [List.length_append]; exact k16) Q hQ
    clear ih hQ hpp
    rw [← upd_self h13, ← upd_self h14, ← upd_self h15, ← upd_self h16]
    refine WC_loop ?_
    repeat' (first
 | (refine I_WS ?_; first
 | refine W_iaddr (j := pre.length) rfl rfl rfl rfl rfl hpl ?_
 | (refine I_mov ?_; first
 | refine W_mov (v := .int _ _) rfl rfl rfl ?_
 | refine W_mov (v := .bool _) rfl rfl rfl ?_
 | refine W_mov (v := .slice _ _ _) rfl rfl rfl ?_
 | refine W_mov (v := .tuple _) rfl rfl rfl ?_)
 | (refine I_bin ?_; first
 | refine W_lssT rfl rfl rfl rfl (by omega) ?_
 | refine W_gtrF rfl rfl rfl rfl (by omega) ?_
 | refine W_add rfl rfl rfl rfl (by first | exact w64 (by omega) | rfl) ?_)
 | (refine I_load ?_; first
 | refine W_loadE (agg := false) (d := .int _ _) rfl rfl rfl hv rfl ?_)
 | (refine I_call ?_; first
 | refine W_call rfl rfl rfl (hAt _) rfl rfl ?_)
 | (refine I_pick ?_; first
 | refine W_pick (v := .bool _) rfl rfl rfl rfl ?_)
 | (refine I_extract ?_; first
 | refine W_extract (d := .int _ _) rfl rfl rfl rfl ?_
 | refine W_extract (d := .bool _) rfl rfl rfl rfl ?_)
 | refine W_not rfl rfl rfl ?_
 | refine W_lenM rfl rfl rfl ?_
 | refine W_faddrE rfl rfl rfl ?_
 | refine WS_nil ?_)
 | refine WC_seq ?_
 | refine WC_opsS ?_
 | refine WC_skip ?_
 | refine WC_condT rfl ?_
 | refine WC_condF rfl ?_
 | refine WC_block ?_)
    refine hnext _ ?_ ?_ ?_ ?_ <;> rfl
set_option maxHeartbeats 4000000 in
theorem run_Earlier (l : List Eg) (fr now later sz more : Int) : EvP Γ 7 [.slice .no 8 (l.map Eg.e), .int .i64 fr, .int .i64 now, .int .i64 later, .int .i64 sz, .int .i64 more] (.bool true) := by
  refine EvP_code rfl rfl ?_
  by_cases hf : l.length ≤ 40 ∧ 0 ≤ now ∧ 0 ≤ sz ∧ now ≤ later ∧ sz ≤ more
  · obtain ⟨f1, f2, f3, f4, f5⟩ := hf
    have hA := s_Times l (by omega) fr now sz [] (by simp) .no .isnil 8 0 (.inl rfl) (.inr rfl)
    have hB := s_Times l (by omega) fr later more [] (by simp) .no .isnil 8 0 (.inl rfl) (.inr rfl)
    have hC := cov_earlier (l := l) (fr := fr) f2 f4 f3 f5
    have hL := cov_len hC (times_nodup l fr later more [])
    have ha := times_len l fr now sz []
    have hb := times_len l fr later more []
    generalize timesM l fr now sz [] = a at *
    generalize timesM l fr later more [] = b at *
    repeat' (first
 | (refine I_WS ?_; first
 | refine W_lenM rfl rfl rfl ?_
 | (refine I_mov ?_; first
 | refine W_mov (v := .int _ _) rfl rfl rfl ?_
 | refine W_mov (v := .bool _) rfl rfl rfl ?_
 | refine W_mov (v := .slice _ _ _) rfl rfl rfl ?_)
 | (refine I_bin ?_; first
 | refine W_lssF rfl rfl rfl rfl (by omega) ?_
 | refine W_gtrF rfl rfl rfl rfl (by omega) ?_)
 | (refine I_call ?_; first
 | refine W_call rfl rfl rfl s_small rfl rfl ?_
 | (refine W_callN rfl rfl rfl hA rfl ?_; intro ta sa hsa hta)
 | (refine W_callN rfl rfl rfl hB rfl ?_; intro tb sb hsb htb))
 | (refine I_pick ?_; first
 | refine W_pick (v := .bool _) rfl rfl rfl rfl ?_)
 | refine WS_nil ?_)
 | refine WC_seq ?_
 | refine WC_opsS ?_
 | refine WC_skip ?_
 | refine WC_condF rfl ?_
 | refine WC_block ?_)
    refine l_E1 a b (by omega) (by omega) hC ta tb sa sb hsa hsb b [] rfl _ _ ?_ ?_ ?_ ?_ _ (fun ρ' h13 h14 h15 => ?_)
    all_goals first | rfl | skip
    rw [← upd_self h13, ← upd_self h14, ← upd_self h15]
    have hL' : (b.length : Int) ≤ a.length := by omega
    repeat' (first
 | (refine I_WS ?_; first
 | refine W_lenM rfl rfl rfl ?_
 | (refine I_mov ?_; first
 | refine W_mov (v := .bool _) rfl rfl rfl ?_
 | refine W_mov (v := .slice _ _ _) rfl rfl rfl ?_)
 | (refine I_bin ?_; first
 | refine W_geqT rfl rfl rfl rfl (by omega) ?_)
 | (refine I_pick ?_; first
 | refine W_pick (v := .bool _) rfl rfl rfl rfl ?_)
 | refine WS_nil ?_)
 | refine WC_seq ?_
 | refine WC_opsS ?_
 | refine WC_ret ?_)
    all_goals exact fin_bool (.inr rfl) rfl rfl
  · repeat' (first
 | (refine I_WS ?_; first
 | refine W_lenM rfl rfl rfl ?_
 | (refine I_mov ?_; first
 | refine W_skip rfl ?_
 | refine W_mov (v := .int _ _) rfl rfl rfl ?_
 | refine W_mov (v := .bool _) rfl rfl rfl ?_
 | refine W_mov (v := .slice _ _ _) rfl rfl rfl ?_)
 | (refine I_bin ?_; first
 | refine W_skip rfl ?_
 | refine W_lssT rfl rfl rfl rfl (by omega) ?_
 | (refine W_lss rfl rfl rfl rfl ?_ ?_ <;> intro _)
 | (refine W_gtr rfl rfl rfl rfl ?_ ?_ <;> intro _))
 | (refine I_call ?_; first
 | refine W_call rfl rfl rfl s_small rfl rfl ?_)
 | (refine I_pick ?_; first
 | refine W_pick (v := .bool _) rfl rfl rfl rfl ?_)
 | refine WS_nil ?_)
 | refine WC_seq ?_
 | refine WC_opsS ?_
 | refine WC_condT rfl ?_
 | refine WC_ret ?_)
    all_goals first | exact fin_bool (.inr rfl) rfl rfl | (exfalso; omega)
theorem l_J1 (a b : List Rd) (hal : a.length ≤ 1000000) (hbl : b.length ≤ 1000000) (t : Int) (hC : Cov a b) (hge : ∀ r ∈ b, t ≤ r.at') (ta tb : Tok) (sa sb : Nat) (hsa : sa = 2 ∨ a = []) (hsb : sb = 2 ∨ b = []) : ∀ (post pre : List Rd), b = pre ++ post → ∀ (ρ : Nat → D) (st : Store),
    ρ 11 = .bool true → ρ 12 = .slice ta sa (a.map Rd.e) → ρ 13 = .int .i64 t → ρ 15 = .slice tb sb (b.map Rd.e) → ρ 16 = .int .i64 pre.length → ∀ (Q : X → (Nat → D) → Store → Prop),
    (∀ ρ', ρ' 11 = .bool true → ρ' 15 = .slice tb sb (b.map Rd.e) → Q (.exit 0) ρ' st) → WC Γ (.loop c_feluccalaw15_EarlyJoins_l0) ρ st Q := by
  intro post
  induction post with
  | nil =>
    intro pre hpp ρ st h11 h12 h13 h15 h16 Q hQ
    rw [List.append_nil] at hpp
    subst hpp
    rw [← upd_self h11, ← upd_self h12, ← upd_self h13, ← upd_self h15, ← upd_self h16]
    refine WC_loop ?_
    repeat' (first
 | (refine I_WS ?_; first
 | (refine I_mov ?_; first
 | refine W_mov (v := .int _ _) rfl rfl rfl ?_
 | refine W_mov (v := .slice _ _ _) rfl rfl rfl ?_)
 | (refine I_bin ?_; first
 | refine W_lssF rfl rfl rfl rfl (by omega) ?_)
 | refine W_lenM rfl rfl rfl ?_
 | refine WS_nil ?_)
 | refine WC_seq ?_
 | refine WC_opsS ?_
 | refine WC_condF rfl ?_
 | refine WC_exit ?_)
    exact hQ _ rfl rfl
  | cons r post ih =>
    intro pre hpp ρ st h11 h12 h13 h15 h16 Q hQ
    have hv := rd_mid hpp
    have hlen : b.length = pre.length + (post.length + 1) := by rw [hpp]; simp
    have hz : sb = 2 := hsb.resolve_right (by rintro rfl; simp at hlen)
    subst hz
    have hpl : pre.length < (b.map Rd.e).length := by simp; omega
    have hltl : (pre.length : Int) < b.length := by omega
    have hm := List.mem_of_getElem? hv
    obtain ⟨u, hu, hle⟩ := hC r hm
    have hgr := hge r hm
    have hAt := fun t => s_At1 r.node a (by omega) u hu t sa hsa
    have hnext : ∀ (ρ' : Nat → D), ρ' 11 = .bool true → ρ' 12 = .slice ta sa (a.map Rd.e) → ρ' 13 = .int .i64 t → ρ' 15 = .slice tb 2 (b.map Rd.e) → ρ' 16 = .int .i64 ((pre.length : Int) + 1) → WC Γ (.loop c_feluccalaw15_EarlyJoins_l0) ρ' st Q := fun ρ' k11 k12 k13 k15 k16 =>
      ih (pre ++ [r]) (by simp [hpp]) ρ' st k11 k12 k13 k15 (by rw [List.length_append]; exact k16) Q hQ
    clear ih hQ hpp
    rw [← upd_self h11, ← upd_self h12, ← upd_self h13, ← upd_self h15, ← upd_self h16]
    refine WC_loop ?_
    repeat' (first
 | (refine I_WS ?_; first
 | refine W_iaddr (j := pre.length) rfl rfl rfl rfl rfl hpl ?_
 | (refine I_mov ?_; first
 | refine W_mov (v := .int _ _) rfl rfl rfl ?_
 | refine W_mov (v := .bool _) rfl rfl rfl ?_
 | refine W_mov (v := .slice _ _ _) rfl rfl rfl ?_
 | refine W_mov (v := .tuple _) rfl rfl rfl ?_)
 | (refine I_bin ?_; first
 | refine W_lssT rfl rfl rfl rfl (by omega) ?_
 | refine W_lssF rfl rfl rfl rfl (by omega) ?_
 | refine W_gtrF rfl rfl rfl rfl (by omega) ?_
 | refine W_add rfl rfl rfl rfl (by first | exact w64 (by omega) | rfl) ?_)
 | (refine I_load ?_; first
 | refine W_loadE (agg := false) (d := .int _ _) rfl rfl rfl hv rfl ?_)
 | (refine I_call ?_; first
 | refine W_call rfl rfl rfl (hAt _) rfl rfl ?_)
 | (refine I_pick ?_; first
 | refine W_pick (v := .bool _) rfl rfl rfl rfl ?_)
 | (refine I_extract ?_; first
 | refine W_extract (d := .int _ _) rfl rfl rfl rfl ?_
 | refine W_extract (d := .bool _) rfl rfl rfl rfl ?_)
 | refine W_not rfl rfl rfl ?_
 | refine W_lenM rfl rfl rfl ?_
 | refine W_faddrE rfl rfl rfl ?_
 | refine WS_nil ?_)
 | refine WC_seq ?_
 | refine WC_opsS ?_
 | refine WC_skip ?_
 | refine WC_condT rfl ?_
 | refine WC_condF rfl ?_
 | refine WC_block ?_)
    refine hnext _ ?_ ?_ ?_ ?_ ?_ <;> rfl
set_option maxHeartbeats 4000000 in
theorem run_Joins (l : List Eg) (fr now sz m : Int) : EvP Γ 9 [.slice .no 8 (l.map Eg.e), .int .i64 fr, .int .i64 now, .int .i64 sz, .int .i64 m] (.bool true) := by
  refine EvP_code rfl rfl ?_
  by_cases hf : l.length ≤ 40
  · have hA := s_Times l (by omega) fr now sz [] (by simp) .no .isnil 8 0 (.inl rfl) (.inr rfl)
    have ha := times_len l fr now sz []
    cases hm : atN m (timesM l fr now sz []) with
    | none =>
      have hAt := fun t s h => s_At0 m (timesM l fr now sz []) (by omega) hm t s h
      generalize timesM l fr now sz [] = a at *
      repeat' (first
 | (refine I_WS ?_; first
 | refine W_lenM rfl rfl rfl ?_
 | (refine I_mov ?_; first
 | refine W_mov (v := .int _ _) rfl rfl rfl ?_
 | refine W_mov (v := .bool _) rfl rfl rfl ?_
 | refine W_mov (v := .slice _ _ _) rfl rfl rfl ?_
 | refine W_mov (v := .tuple _) rfl rfl rfl ?_)
 | (refine I_bin ?_; first
 | refine W_gtrF rfl rfl rfl rfl (by omega) ?_)
 | (refine I_call ?_; first
 | refine W_call rfl rfl rfl s_small rfl rfl ?_
 | refine W_call rfl rfl rfl (hAt _ _ hsa) rfl rfl ?_
 | (refine W_callN rfl rfl rfl hA rfl ?_; intro ta sa hsa hta))
 | (refine I_extract ?_; first
 | refine W_extract (d := .int _ _) rfl rfl rfl rfl ?_
 | refine W_extract (d := .bool _) rfl rfl rfl rfl ?_)
 | refine W_not rfl rfl rfl ?_
 | refine WS_nil ?_)
 | refine WC_seq ?_
 | refine WC_opsS ?_
 | refine WC_skip ?_
 | refine WC_condT rfl ?_
 | refine WC_condF rfl ?_
 | refine WC_ret ?_)
      exact fin_bool (.inr rfl) rfl rfl
    | some t =>
      have hAt := fun t' s h => s_At1 m (timesM l fr now sz []) (by omega) t hm t' s h
      obtain ⟨hC, hge, hp⟩ := cov_join hm
      have hB := s_Times l (by omega) m t sz [] (by simp) .no .isnil 8 0 (.inl rfl) (.inr rfl)
      have hb := times_len l m t sz []
      clear hm
      generalize timesM l fr now sz [] = a at *
      generalize timesM l m t sz [] = b at *
      repeat' (first
 | (refine I_WS ?_; first
 | refine W_lenM rfl rfl rfl ?_
 | (refine I_mov ?_; first
 | refine W_mov (v := .int _ _) rfl rfl rfl ?_
 | refine W_mov (v := .bool _) rfl rfl rfl ?_
 | refine W_mov (v := .slice _ _ _) rfl rfl rfl ?_
 | refine W_mov (v := .tuple _) rfl rfl rfl ?_)
 | (refine I_bin ?_; first
 | refine W_gtrF rfl rfl rfl rfl (by omega) ?_)
 | (refine I_call ?_; first
 | refine W_call rfl rfl rfl s_small rfl rfl ?_
 | refine W_call rfl rfl rfl (hAt _ _ hsa) rfl rfl ?_
 | (refine W_callN rfl rfl rfl hA rfl ?_; intro ta sa hsa hta)
 | (refine W_callN rfl rfl rfl hB rfl ?_; intro tb sb hsb htb))
 | (refine I_extract ?_; first
 | refine W_extract (d := .int _ _) rfl rfl rfl rfl ?_
 | refine W_extract (d := .bool _) rfl rfl rfl rfl ?_)
 | refine W_not rfl rfl rfl ?_
 | refine WS_nil ?_)
 | refine WC_seq ?_
 | refine WC_opsS ?_
 | refine WC_skip ?_
 | refine WC_condF rfl ?_
 | refine WC_block ?_)
      refine l_J1 a b (by omega) (by omega) t hC hge ta tb sa sb hsa hsb b [] rfl _ _ ?_ ?_ ?_ ?_ ?_ _ (fun ρ' h11 h15 => ?_)
      all_goals first | rfl | skip
      rw [← upd_self h11, ← upd_self h15]
      have hp' : (1 : Int) ≤ b.length := by omega
      repeat' (first
 | (refine I_WS ?_; first
 | refine W_lenM rfl rfl rfl ?_
 | (refine I_mov ?_; first
 | refine W_mov (v := .bool _) rfl rfl rfl ?_
 | refine W_mov (v := .slice _ _ _) rfl rfl rfl ?_)
 | (refine I_bin ?_; first
 | refine W_geqT rfl rfl rfl rfl (by omega) ?_)
 | (refine I_pick ?_; first
 | refine W_pick (v := .bool _) rfl rfl rfl rfl ?_)
 | refine WS_nil ?_)
 | refine WC_seq ?_
 | refine WC_opsS ?_
 | refine WC_ret ?_)
      all_goals exact fin_bool (.inr rfl) rfl rfl
  · repeat' (first
 | (refine I_WS ?_; first
 | refine W_lenM rfl rfl rfl ?_
 | (refine I_mov ?_; first
 | refine W_mov (v := .bool _) rfl rfl rfl ?_
 | refine W_mov (v := .slice _ _ _) rfl rfl rfl ?_)
 | (refine I_bin ?_; first
 | refine W_gtrT rfl rfl rfl rfl (by omega) ?_)
 | (refine I_call ?_; first
 | refine W_call rfl rfl rfl s_small rfl rfl ?_)
 | refine WS_nil ?_)
 | refine WC_seq ?_
 | refine WC_opsS ?_
 | refine WC_condT rfl ?_
 | refine WC_ret ?_)
    all_goals first | exact fin_bool (.inr rfl) rfl rfl | (exfalso; omega)
end Go.Ear

/-
  EarlyShuts, as the evaluator runs it.
-/
namespace Go.Ear
open Go.Ev
set_option linter.unusedVariables false
set_option linter.unusedSimpArgs false
set_option maxHeartbeats 4000000 in
theorem l_S1 (a b : List Rd) (hal : a.length ≤ 1000000) (hbl : b.length ≤ 1000000) (hC : Cov a b) (hlt : b.Pairwise fun x y => x.node < y.node) (shut : List Int) (ta tb : Tok) (sa sb : Nat) (hsa : sa = 2 ∨ a = []) (hsb : sb = 2 ∨ b = []) (v1 v4 : D) : ∀ (post pre : List Rd), b = pre ++ post → ∀ (ρ : Nat → D) (st : Store),
    ρ 1 = v1 → ρ 4 = v4 → ρ 11 = .bool true → ρ 12 = .slice ta sa (a.map Rd.e) → ρ 13 = .slice tb sb (b.map Rd.e) → ρ 14 = .int .i64 pre.length → ∀ (Q : X → (Nat → D) → Store → Prop),
    (∀ ρ', ρ' 1 = v1 → ρ' 4 = v4 → ρ' 11 = .bool true → ρ' 12 = .slice ta sa (a.map Rd.e) → ρ' 13 = .slice tb sb (b.map Rd.e) → Q (.exit 0) ρ' st) → WC Γ (.loop c_feluccalaw15_EarlyShuts_l0) ρ st Q := by
  intro post
  induction post with
  | nil =>
    intro pre hpp ρ st h1 h4 h11 h12 h13 h14 Q hQ
    rw [List.append_nil] at hpp
    subst hpp
    rw [← upd_self h1, ← upd_self h4, ← upd_self h11, ← upd_self h12, ← upd_self h13, ← upd_self h14]
    refine WC_loop ?_
    repeat' (first
 | (refine I_WS ?_; first
 | (refine I_mov ?_; first
 | refine W_mov (v := .int _ _) rfl rfl rfl ?_
 | refine W_mov (v := .slice _ _ _) rfl rfl rfl ?_)
 | (refine I_bin ?_; first
 | refine W_lssF rfl rfl rfl rfl (by omega) ?_)
 | refine W_lenM rfl rfl rfl ?_
 | refine WS_nil ?_)
 | refine WC_seq ?_
 | refine WC_opsS ?_
 | refine WC_condF rfl ?_
 | refine WC_exit ?_)
    exact hQ _ rfl rfl rfl rfl rfl
  | cons r post ih =>
    intro pre hpp ρ st h1 h4 h11 h12 h13 h14 Q hQ
    have hv := rd_mid hpp
    have hlen : b.length = pre.length + (post.length + 1) := by rw [hpp]; simp
    have hz : sb = 2 := hsb.resolve_right (by rintro rfl; simp at hlen)
    subst hz
    have hpl : pre.length < (b.map Rd.e).length := by simp; omega
    have hpl2 : pre.length - 1 < (b.map Rd.e).length := by simp; omega
    have hltl : (pre.length : Int) < b.length := by omega
    have hm := List.mem_of_getElem? hv
    obtain ⟨u, hu, hle⟩ := hC r hm
    have hAt := fun t => s_At1 r.node a (by omega) u hu t sa hsa
    have hnext : ∀ (ρ' : Nat → D), ρ' 1 = v1 → ρ' 4 = v4 → ρ' 11 = .bool true → ρ' 12 = .slice ta sa (a.map Rd.e) → ρ' 13 = .slice tb 2 (b.map Rd.e) → ρ' 14 = .int .i64 ((pre.length : Int) + 1) → WC Γ (.loop c_feluccalaw15_EarlyShuts_l0) ρ' st Q := fun ρ' k1 k4 k11 k12 k13 k14 =>
      ih (pre ++ [r]) (by simp [hpp]) ρ' st k1 k4 k11 k12 k13 (by rw [List.length_append]; exact k14) Q hQ
    rw [← upd_self h1, ← upd_self h4, ← upd_self h11, ← upd_self h12, ← upd_self h13, ← upd_self h14]
    refine WC_loop ?_
    by_cases hz : 0 < pre.length
    · have hsub : IntKind.i64.wrap ((pre.length : Int) - 1) = ((pre.length - 1 : Nat) : Int) := by rw [w64 (by omega)]; omega
      have hz' : (0 : Int) < pre.length := by omega
      obtain ⟨y, hvy⟩ : ∃ y, b[pre.length - 1]? = some y := ⟨b[pre.length - 1]'(by omega), List.getElem?_eq_getElem _⟩
      have hyr : y.node < r.node := by
        obtain ⟨i1, e1⟩ := List.getElem?_eq_some_iff.mp hvy
        obtain ⟨i2, e2⟩ := List.getElem?_eq_some_iff.mp hv
        have := List.pairwise_iff_getElem.mp hlt _ _ i1 i2 (by omega)
        rwa [e1, e2] at this
      clear ih hQ hpp hlt
      repeat' (first
 | (refine I_WS ?_; first
 | refine W_sub (s := ((pre.length - 1 : Nat) : Int)) rfl rfl rfl rfl hsub ?_
 | refine W_iaddr (j := pre.length) rfl rfl rfl rfl rfl hpl ?_
 | refine W_iaddr (j := pre.length - 1) rfl rfl rfl rfl rfl hpl2 ?_
 | (refine I_mov ?_; first
 | refine W_mov (v := .int _ _) rfl rfl rfl ?_
 | refine W_mov (v := .bool _) rfl rfl rfl ?_
 | refine W_mov (v := .slice _ _ _) rfl rfl rfl ?_
 | refine W_mov (v := .tuple _) rfl rfl rfl ?_)
 | (refine I_bin ?_; first
 | refine W_lssT rfl rfl rfl rfl (by omega) ?_
 | refine W_leqF rfl rfl rfl rfl (by omega) ?_
 | refine W_gtrT rfl rfl rfl rfl (by omega) ?_
 | refine W_gtrF rfl rfl rfl rfl (by omega) ?_
 | refine W_add rfl rfl rfl rfl (by first | exact w64 (by omega) | rfl) ?_)
 | (refine I_load ?_; first
 | refine W_loadE (agg := false) (d := .int _ _) rfl rfl rfl hv rfl ?_
 | refine W_loadE (agg := false) (d := .int _ _) rfl rfl rfl hvy rfl ?_)
 | (refine I_call ?_; first
 | refine W_call rfl rfl rfl (hAt _) rfl rfl ?_)
 | (refine I_pick ?_; first
 | refine W_pick (v := .bool _) rfl rfl rfl rfl ?_)
 | (refine I_extract ?_; first
 | refine W_extract (d := .int _ _) rfl rfl rfl rfl ?_
 | refine W_extract (d := .bool _) rfl rfl rfl rfl ?_)
 | refine W_not rfl rfl rfl ?_
 | refine W_lenM rfl rfl rfl ?_
 | refine W_faddrE rfl rfl rfl ?_
 | refine WS_nil ?_)
 | refine okF_intro (okFlags_onlyR rfl) ?_
 | refine WC_seq ?_
 | refine WC_opsS ?_
 | refine WC_drawS ?_
 | refine WC_skip ?_
 | refine WC_condT rfl ?_
 | refine WC_condF rfl ?_
 | refine WC_block ?_)
      refine hnext _ ?_ ?_ ?_ ?_ ?_ ?_ <;> rfl
    · have hz' : (pre.length : Int) ≤ 0 := by omega
      clear ih hQ hpp hlt
      repeat' (first
 | (refine I_WS ?_; first
 | refine W_iaddr (j := pre.length) rfl rfl rfl rfl rfl hpl ?_
 | (refine I_mov ?_; first
 | refine W_skip rfl ?_
 | refine W_mov (v := .int _ _) rfl rfl rfl ?_
 | refine W_mov (v := .bool _) rfl rfl rfl ?_
 | refine W_mov (v := .slice _ _ _) rfl rfl rfl ?_
 | refine W_mov (v := .tuple _) rfl rfl rfl ?_)
 | (refine I_bin ?_; first
 | refine W_skip rfl ?_
 | refine W_lssT rfl rfl rfl rfl (by omega) ?_
 | refine W_gtrF rfl rfl rfl rfl (by omega) ?_
 | refine W_add rfl rfl rfl rfl (by first | exact w64 (by omega) | rfl) ?_)
 | (refine I_load ?_; first
 | refine W_skip rfl ?_
 | refine W_loadE (agg := false) (d := .int _ _) rfl rfl rfl hv rfl ?_)
 | (refine I_call ?_; first
 | refine W_call rfl rfl rfl (hAt _) rfl rfl ?_)
 | (refine I_pick ?_; first
 | refine W_pick (v := .bool _) rfl rfl rfl rfl ?_)
 | (refine I_extract ?_; first
 | refine W_extract (d := .int _ _) rfl rfl rfl rfl ?_
 | refine W_extract (d := .bool _) rfl rfl rfl rfl ?_)
 | refine W_not rfl rfl rfl ?_
 | refine W_lenM rfl rfl rfl ?_
 | refine W_faddrE rfl rfl rfl ?_
 | refine W_skip rfl ?_
 | refine WS_nil ?_)
 | refine okF_intro (okFlags_onlyR rfl) ?_
 | refine WC_seq ?_
 | refine WC_opsS ?_
 | refine WC_drawS ?_
 | refine WC_skip ?_
 | refine WC_condT rfl ?_
 | refine WC_condF rfl ?_
 | refine WC_block ?_)
      refine hnext _ ?_ ?_ ?_ ?_ ?_ ?_ <;> rfl
theorem l_S2 (b : List Rd) (hbl : b.length ≤ 1000000) (fr : Int) (shut : List Int) (hsl : shut.length ≤ 1000000) (hsh : ∀ n ∈ shut, ∀ u, atN n b = some u → n = fr) (tb ts : Tok) (sb ss : Nat) (hsb : sb = 2 ∨ b = []) (hss : ss = 1 ∨ shut = []) (v12 : D) : ∀ (post pre : List Int), shut = pre ++ post → ∀ (ρ : Nat → D) (st : Store),
    ρ 1 = .int .i64 fr → ρ 4 = .slice ts ss (shut.map (D.int .i64)) → ρ 11 = .bool true → ρ 12 = v12 → ρ 13 = .slice tb sb (b.map Rd.e) → ρ 17 = .int .i64 pre.length → ∀ (Q : X → (Nat → D) → Store → Prop),
    (∀ ρ', ρ' 11 = .bool true → ρ' 12 = v12 → ρ' 13 = .slice tb sb (b.map Rd.e) → Q (.exit 2) ρ' st) → WC Γ (.loop c_feluccalaw15_EarlyShuts_l1) ρ st Q := by
  intro post
  induction post with
  | nil =>
    intro pre hpp ρ st h1 h4 h11 h12 h13 h17 Q hQ
    rw [List.append_nil] at hpp
    subst hpp
    rw [← upd_self h1, ← upd_self h4, ← upd_self h11, ← upd_self h12, ← upd_self h13, ← upd_self h17]
    refine WC_loop ?_
    repeat' (first
 | (refine I_WS ?_; first
 | (refine I_mov ?_; first
 | refine W_mov (v := .int _ _) rfl rfl rfl ?_
 | refine W_mov (v := .slice _ _ _) rfl rfl rfl ?_)
 | (refine I_bin ?_; first
 | refine W_lssF rfl rfl rfl rfl (by omega) ?_)
 | refine W_lenM rfl rfl rfl ?_
 | refine WS_nil ?_)
 | refine WC_seq ?_
 | refine WC_opsS ?_
 | refine WC_condF rfl ?_
 | refine WC_exit ?_)
    exact hQ _ rfl rfl rfl
  | cons n post ih =>
    intro pre hpp ρ st h1 h4 h11 h12 h13 h17 Q hQ
    have hv : shut[pre.length]? = some n := by rw [hpp]; simp
    have hlen : shut.length = pre.length + (post.length + 1) := by rw [hpp]; simp
    have hz : ss = 1 := hss.resolve_right (by rintro rfl; simp at hlen)
    subst hz
    have hpl : pre.length < (shut.map (D.int .i64)).length := by simp; omega
    have hltl : (pre.length : Int) < shut.length := by omega
    have hnm : n ∈ shut := List.mem_of_getElem? hv
    have hnext : ∀ (ρ' : Nat → D), ρ' 1 = .int .i64 fr → ρ' 4 = .slice ts 1 (shut.map (D.int .i64)) → ρ' 11 = .bool true → ρ' 12 = v12 → ρ' 13 = .slice tb sb (b.map Rd.e) → ρ' 17 = .int .i64 ((pre.length : Int) + 1) → WC Γ (.loop c_feluccalaw15_EarlyShuts_l1) ρ' st Q := fun ρ' k1 k4 k11 k12 k13 k17 =>
      ih (pre ++ [n]) (by simp [hpp]) ρ' st k1 k4 k11 k12 k13 (by rw [List.length_append]; exact k17) Q hQ
    clear ih hQ hpp
    rw [← upd_self h1, ← upd_self h4, ← upd_self h11, ← upd_self h12, ← upd_self h13, ← upd_self h17]
    refine WC_loop ?_
    cases hu : atN n b with
    | none =>
      have hAt := fun t => s_At0 n b (by omega) hu t sb hsb
      repeat' (first
 | (refine I_WS ?_; first
 | refine W_iaddr (j := pre.length) rfl rfl rfl rfl rfl hpl ?_
 | (refine I_mov ?_; first
 | refine W_skip rfl ?_
 | refine W_mov (v := .int _ _) rfl rfl rfl ?_
 | refine W_mov (v := .bool _) rfl rfl rfl ?_
 | refine W_mov (v := .slice _ _ _) rfl rfl rfl ?_
 | refine W_mov (v := .tuple _) rfl rfl rfl ?_)
 | (refine I_bin ?_; first
 | refine W_skip rfl ?_
 | refine W_lssT rfl rfl rfl rfl (by omega) ?_
 | refine W_add rfl rfl rfl rfl (by first | exact w64 (by omega) | rfl) ?_)
 | (refine I_load ?_; first
 | refine W_skip rfl ?_
 | refine W_loadE (agg := false) (d := .int _ _) rfl rfl rfl hv rfl ?_)
 | (refine I_call ?_; first
 | refine W_call rfl rfl rfl (hAt _) rfl rfl ?_)
 | (refine I_pick ?_; first
 | refine W_pick (v := .bool _) rfl rfl rfl rfl ?_)
 | (refine I_extract ?_; first
 | refine W_extract (d := .int _ _) rfl rfl rfl rfl ?_
 | refine W_extract (d := .bool _) rfl rfl rfl rfl ?_)
 | refine W_lenM rfl rfl rfl ?_
 | refine W_skip rfl ?_
 | refine WS_nil ?_)
 | refine WC_seq ?_
 | refine WC_opsS ?_
 | refine WC_skip ?_
 | refine WC_condT rfl ?_
 | refine WC_condF rfl ?_
 | refine WC_block ?_)
      refine hnext _ ?_ ?_ ?_ ?_ ?_ ?_ <;> rfl
    | some u =>
      have hAt := fun t => s_At1 n b (by omega) u hu t sb hsb
      have hnf := hsh n hnm u hu
      repeat' (first
 | (refine I_WS ?_; first
 | refine W_iaddr (j := pre.length) rfl rfl rfl rfl rfl hpl ?_
 | (refine I_mov ?_; first
 | refine W_mov (v := .int _ _) rfl rfl rfl ?_
 | refine W_mov (v := .bool _) rfl rfl rfl ?_
 | refine W_mov (v := .slice _ _ _) rfl rfl rfl ?_
 | refine W_mov (v := .tuple _) rfl rfl rfl ?_)
 | (refine I_bin ?_; first
 | refine W_lssT rfl rfl rfl rfl (by omega) ?_
 | refine W_neqF rfl rfl rfl rfl (by omega) ?_
 | refine W_add rfl rfl rfl rfl (by first | exact w64 (by omega) | rfl) ?_)
 | (refine I_load ?_; first
 | refine W_loadE (agg := false) (d := .int _ _) rfl rfl rfl hv rfl ?_)
 | (refine I_call ?_; first
 | refine W_call rfl rfl rfl (hAt _) rfl rfl ?_)
 | (refine I_pick ?_; first
 | refine W_pick (v := .bool _) rfl rfl rfl rfl ?_)
 | (refine I_extract ?_; first
 | refine W_extract (d := .int _ _) rfl rfl rfl rfl ?_
 | refine W_extract (d := .bool _) rfl rfl rfl rfl ?_)
 | refine W_lenM rfl rfl rfl ?_
 | refine WS_nil ?_)
 | refine WC_seq ?_
 | refine WC_opsS ?_
 | refine WC_skip ?_
 | refine WC_condT rfl ?_
 | refine WC_condF rfl ?_
 | refine WC_block ?_)
      refine hnext _ ?_ ?_ ?_ ?_ ?_ ?_ <;> rfl
set_option maxHeartbeats 4000000 in
theorem run_Shuts (l : List Eg) (fr now sz : Int) (shut : List Int) : EvP Γ 8 [.slice .no 8 (l.map Eg.e), .int .i64 fr, .int .i64 now, .int .i64 sz, .slice .no 1 (shut.map (D.int .i64))] (.bool true) := by
  refine EvP_code rfl rfl ?_
  by_cases hf : l.length ≤ 40 ∧ shut.length ≤ 40
  · obtain ⟨f1, f2⟩ := hf
    have hA := s_Times l (by omega) fr now sz [] (by simp) .no .isnil 8 0 (.inl rfl) (.inr rfl)
    have hB := s_Times l (by omega) fr now sz shut (by omega) .no .no 8 1 (.inl rfl) (.inl rfl)
    have hC := cov_shut (l := l) (fr := fr) (now := now) (sz := sz) shut
    have ha := times_len l fr now sz []
    have hb := times_len l fr now sz shut
    have hlt := times_lt l fr now sz shut
    have hpos := shut_pos (l := l) (fr := fr) (now := now) (sz := sz) shut
    have hsh : ∀ n ∈ shut, ∀ u, atN n (timesM l fr now sz shut) = some u → n = fr := fun n hn u h => shut_from hn h
    generalize timesM l fr now sz [] = a at *
    generalize timesM l fr now sz shut = b at *
    repeat' (first
 | (refine I_WS ?_; first
 | refine W_lenM rfl rfl rfl ?_
 | (refine I_mov ?_; first
 | refine W_mov (v := .int _ _) rfl rfl rfl ?_
 | refine W_mov (v := .bool _) rfl rfl rfl ?_
 | refine W_mov (v := .slice _ _ _) rfl rfl rfl ?_)
 | (refine I_bin ?_; first
 | refine W_gtrF rfl rfl rfl rfl (by omega) ?_)
 | (refine I_call ?_; first
 | refine W_call rfl rfl rfl s_small rfl rfl ?_
 | (refine W_callN rfl rfl rfl hA rfl ?_; intro ta sa hsa hta)
 | (refine W_callN rfl rfl rfl hB rfl ?_; intro tb sb hsb htb))
 | (refine I_pick ?_; first
 | refine W_pick (v := .bool _) rfl rfl rfl rfl ?_)
 | refine WS_nil ?_)
 | refine WC_seq ?_
 | refine WC_opsS ?_
 | refine WC_skip ?_
 | refine WC_condF rfl ?_
 | refine WC_block ?_)
    refine l_S1 a b (by omega) (by omega) hC hlt shut ta tb sa sb hsa hsb (.int .i64 fr) (.slice .no 1 (shut.map (D.int .i64))) b [] rfl _ _ ?_ ?_ ?_ ?_ ?_ ?_ _ (fun ρ' h1 h4 h11 h12 h13 => ?_)
    all_goals first | rfl | skip
    rw [← upd_self h1, ← upd_self h4, ← upd_self h11, ← upd_self h12, ← upd_self h13]
    repeat' (first
 | (refine I_WS ?_; first
 | (refine I_mov ?_; first
 | refine W_mov (v := .int _ _) rfl rfl rfl ?_)
 | refine WS_nil ?_)
 | refine WC_seq ?_
 | refine WC_opsS ?_
 | refine WC_block ?_)
    refine l_S2 b (by omega) fr shut (by omega) hsh tb .no sb 1 hsb (.inl rfl) (.slice ta sa (a.map Rd.e)) shut [] rfl _ _ ?_ ?_ ?_ ?_ ?_ ?_ _ (fun ρ' h11 h12 h13 => ?_)
    all_goals first | rfl | skip
    rw [← upd_self h11, ← upd_self h12, ← upd_self h13]
    by_cases hp : 0 < a.length
    · have hp1 : (0 : Int) < a.length := by omega
      have hp2 : (0 : Int) < b.length := by have := hpos.mp hp; omega
      repeat' (first
 | (refine I_WS ?_; first
 | refine W_lenM rfl rfl rfl ?_
 | (refine I_mov ?_; first
 | refine W_mov (v := .bool _) rfl rfl rfl ?_
 | refine W_mov (v := .slice _ _ _) rfl rfl rfl ?_)
 | (refine I_bin ?_; first
 | refine W_gtrT rfl rfl rfl rfl (by omega) ?_)
 | (refine I_pick ?_; first
 | refine W_pick (v := .bool _) rfl rfl rfl rfl ?_)
 | (refine W_eqlB rfl rfl rfl rfl ?_)
 | refine WS_nil ?_)
 | refine WC_seq ?_
 | refine WC_opsS ?_
 | refine WC_ret ?_)
      all_goals exact fin_bool (.inr rfl) rfl rfl
    · have hp1 : (a.length : Int) ≤ 0 := by omega
      have hp2 : (b.length : Int) ≤ 0 := by
        have : ¬ 0 < b.length := fun h => hp (hpos.mpr h)
        omega
      repeat' (first
 | (refine I_WS ?_; first
 | refine W_lenM rfl rfl rfl ?_
 | (refine I_mov ?_; first
 | refine W_mov (v := .bool _) rfl rfl rfl ?_
 | refine W_mov (v := .slice _ _ _) rfl rfl rfl ?_)
 | (refine I_bin ?_; first
 | refine W_gtrF rfl rfl rfl rfl (by omega) ?_)
 | (refine I_pick ?_; first
 | refine W_pick (v := .bool _) rfl rfl rfl rfl ?_)
 | (refine W_eqlB rfl rfl rfl rfl ?_)
 | refine WS_nil ?_)
 | refine WC_seq ?_
 | refine WC_opsS ?_
 | refine WC_ret ?_)
      all_goals exact fin_bool (.inr rfl) rfl rfl
  · repeat' (first
 | (refine I_WS ?_; first
 | refine W_lenM rfl rfl rfl ?_
 | (refine I_mov ?_; first
 | refine W_skip rfl ?_
 | refine W_mov (v := .bool _) rfl rfl rfl ?_
 | refine W_mov (v := .slice _ _ _) rfl rfl rfl ?_)
 | (refine I_bin ?_; first
 | refine W_skip rfl ?_
 | refine W_gtrT rfl rfl rfl rfl (by omega) ?_
 | (refine W_gtr rfl rfl rfl rfl ?_ ?_ <;> intro _))
 | (refine I_call ?_; first
 | refine W_call rfl rfl rfl s_small rfl rfl ?_)
 | (refine I_pick ?_; first
 | refine W_pick (v := .bool _) rfl rfl rfl rfl ?_)
 | refine W_skip rfl ?_
 | refine WS_nil ?_)
 | refine WC_seq ?_
 | refine WC_opsS ?_
 | refine WC_condT rfl ?_
 | refine WC_ret ?_)
    all_goals first | exact fin_bool (.inr rfl) rfl rfl | (exfalso; omega)
end Go.Ear

/-
  EarlyLeast, as the evaluator runs it.
-/
namespace Go.Ear
open Go.Ev
set_option linter.unusedVariables false
set_option linter.unusedSimpArgs false
theorem l_ends (m : List Eg) (hml : m.length ≤ 1073741824) (t : Tok) (s : Nat) (hs : s = 8 ∨ m = []) : ∀ (post pre : List Eg), m = pre ++ post → ∀ (ρ : Nat → D) (st : Store) (out : List Int) (tk : Tok) (so : Nat), out.length ≤ pre.length + 1 → st.lim ≤ st.next → st.tlim ≤ st.ntok → AppOK st 1 tk so (out.map (D.int .i64)) →
    ρ 10 = .slice tk so (out.map (D.int .i64)) → ρ 29 = .slice t s (m.map Eg.e) → ρ 30 = .int .i64 m.length → ρ 31 = .int .i64 pre.length → ∀ (Q : X → (Nat → D) → Store → Prop),
    (∀ ρ' st' tk' so', AppOK st' 1 tk' so' ((out ++ post.map Eg.to).map (D.int .i64)) → ρ' 10 = .slice tk' so' ((out ++ post.map Eg.to).map (D.int .i64)) → Q (.exit 0) ρ' st') → WC Γ (.loop c_path_Ends_l0) ρ st Q := by
  intro post
  induction post with
  | nil =>
    intro pre hpp ρ st out tk so hol hlim htl hO h10 h29 h30 h31 Q hQ
    rw [List.append_nil] at hpp
    subst hpp
    rw [← upd_self h10, ← upd_self h29, ← upd_self h30, ← upd_self h31]
    refine WC_loop ?_
    repeat' (first
 | (refine I_WS ?_; first
 | (refine I_bin ?_; first
 | refine W_lssF rfl rfl rfl rfl (by omega) ?_)
 | refine WS_nil ?_)
 | refine WC_seq ?_
 | refine WC_opsS ?_
 | refine WC_condF rfl ?_
 | refine WC_exit ?_)
    exact hQ _ _ tk so (by simpa using hO) (by rw [List.map_nil, List.append_nil]; rfl)
  | cons e post ih =>
    intro pre hpp ρ st out tk so hol hlim htl hO h10 h29 h30 h31 Q hQ
    have hv := eg_mid hpp
    have hlen : m.length = pre.length + (post.length + 1) := by rw [hpp]; simp
    have hz : s = 8 := hs.resolve_right (by rintro rfl; simp at hlen)
    subst hz
    have hpl : pre.length < (m.map Eg.e).length := by simp; omega
    have hltl : (pre.length : Int) < m.length := by omega
    have hbd : ((out.map (D.int .i64)).length + [D.int .i64 e.to].length) * 8 ≤ 140737488355328 := by simp; omega
    have hnext : ∀ (ρ' : Nat → D) (st' : Store) (tk' : Tok) (so' : Nat), st'.lim ≤ st'.next → st'.tlim ≤ st'.ntok → AppOK st' 1 tk' so' ((out ++ [e.to]).map (D.int .i64)) → ρ' 10 = .slice tk' so' ((out ++ [e.to]).map (D.int .i64)) → ρ' 29 = .slice t 8 (m.map Eg.e) → ρ' 30 = .int .i64 m.length → ρ' 31 = .int .i64 ((pre.length : Int) + 1) → WC Γ (.loop c_path_Ends_l0) ρ' st' Q := fun ρ' st' tk' so' e1 e2 e3 k10 k29 k30 k31 =>
      ih (pre ++ [e]) (by simp [hpp]) ρ' st' _ tk' so' (by simp; omega) e1 e2 e3 k10 k29 k30 (by rw [List.length_append]; exact k31) Q
        (fun ρ'' st'' tk'' so'' f1 f2 => hQ ρ'' st'' tk'' so'' (by simpa using f1) (by rw [f2]; simp))
    clear ih hQ
    rw [← upd_self h10, ← upd_self h29, ← upd_self h30, ← upd_self h31]
    refine WC_loop ?_
    repeat' (first
 | (refine I_WS ?_; first
 | refine W_iaddr (j := pre.length) rfl rfl rfl rfl rfl hpl ?_
 | refine W_store (cs' := [_, _, _, _, _, _, _, _]) rfl rfl (upd_same _ _ _) rfl hlim rfl rfl rfl ?_
 | (refine W_app rfl rfl rfl hO (.inl rfl) hbd htl rfl ?_ <;> intro k' st' c1 c2 c3 c4 c5 c6 c7)
 | (refine I_mov ?_; first
 | refine W_mov (v := .int _ _) rfl rfl rfl ?_
 | refine W_mov (v := .slice _ _ _) rfl rfl rfl ?_)
 | (refine I_bin ?_; first
 | refine W_lssT rfl rfl rfl rfl (by omega) ?_
 | refine W_add rfl rfl rfl rfl (by first | exact w64 (by omega) | rfl) ?_)
 | (refine I_load ?_; first
 | refine W_loadE (agg := true) (d := .agg [_, _, _, _, _, _, _, _]) rfl rfl rfl hv rfl ?_
 | refine W_load (agg := false) (d := .int _ _) rfl rfl rfl (bxc rfl) (by first | exact Nat.zero_le _ | assumption | exact Nat.le_trans hlim (Nat.zero_le _) | omega) rfl ?_)
 | refine W_faddr rfl rfl rfl ?_
 | refine W_alloc rfl rfl ?_
 | refine W_bslice (ys := [_]) rfl rfl rfl (by decide) rfl ?_
 | refine WS_nil ?_)
 | refine WC_seq ?_
 | refine WC_opsS ?_
 | refine WC_skip ?_
 | refine WC_condT rfl ?_
 | refine WC_block ?_)
    refine hnext _ _ (.own k') 1 ?_ c5 (.inr ⟨k', rfl, c6, c7, rfl⟩) ?_ ?_ ?_ ?_
    · rw [c3, c2]; exact Nat.le_succ_of_le hlim
    all_goals first | rfl | (rw [List.map_append]; rfl)
theorem s_Ends1 (l : List Eg) (hll : l.length ≤ 1073741824) (ids : List Int) (hil : ids.length ≤ 1073741824) (fr : Int) (ha : AskC l fr 0 0) (m : List Eg) (hm : stepsM l ids fr = some m) (t : Tok) (s : Nat) (hs : s = 8 ∨ l = []) (t' : Tok) (s' : Nat) (hs' : s' = 1 ∨ ids = []) :
    EvX Γ 28 [.slice t s (l.map Eg.e), .slice t' s' (ids.map (D.int .i64)), .int .i64 fr] (Go.Ev.IsT (D.int .i64) 1 (fr :: m.map Eg.to) [.bool true]) := by
  refine EvX_code rfl rfl ?_
  have hml := steps_len l ids fr m hm
  have hS := fun t t' => s_steps1 l hll ids hil fr m hm t s hs t' s' hs'
  have hA := fun t => s_pasked l hll fr 0 0 t s hs
  rw [decide_eq_true ha] at hA
  repeat' (first
 | (refine I_WS ?_; first
 | refine W_lenM rfl rfl rfl ?_
 | (refine I_mov ?_; first
 | refine W_mov (v := .int _ _) rfl rfl rfl ?_
 | refine W_mov (v := .bool _) rfl rfl rfl ?_
 | refine W_mov (v := .slice _ _ _) rfl rfl rfl ?_
 | refine W_mov (v := .tuple _) rfl rfl rfl ?_)
 | (refine I_call ?_; first
 | refine W_call rfl rfl rfl (hA _) rfl rfl ?_
 | (refine W_callT rfl rfl rfl (hS _ _) rfl ?_; intro tm sm hsm tk2 nt2))
 | (refine I_extract ?_; first
 | refine W_extract (d := .bool _) rfl rfl rfl rfl ?_
 | refine W_extract (d := .slice _ _ _) rfl rfl rfl rfl ?_)
 | refine W_not rfl rfl rfl ?_
 | refine W_bslice (ys := [_]) rfl rfl rfl (by decide) rfl ?_
 | refine WS_nil ?_)
 | refine WC_seq ?_
 | refine WC_opsS ?_
 | refine WC_skip ?_
 | refine WC_condF rfl ?_
 | refine WC_block ?_)
  refine l_ends m (by omega) tm sm hsm m [] rfl _ { Store.empty with toks := tk2, ntok := nt2 } [fr] .exact 1 (by simp) (Nat.le_refl _) (Nat.zero_le _) (.inl ⟨.inr rfl, .inl rfl⟩) ?_ ?_ ?_ ?_ _ (fun ρ' st' tk so hO h10 => ?_)
  all_goals first | rfl | skip
  rw [← upd_self h10]
  repeat' (first
 | (refine I_WS ?_; first
 | (refine I_mov ?_; first
 | refine W_mov (v := .bool _) rfl rfl rfl ?_
 | refine W_mov (v := .slice _ _ _) rfl rfl rfl ?_)
 | refine WS_nil ?_)
 | refine WC_seq ?_
 | refine WC_opsS ?_
 | refine WC_ret ?_)
  have hso : so = 1 ∨ (fr :: m.map Eg.to) = [] := by
    rcases hO with ⟨_, h | ⟨_, h⟩⟩ | ⟨_, _, _, _, h⟩
    · exact .inl h
    · simp at h
    · exact .inl h
  exact finX_T (us := [.bool true]) (.inr rfl) rfl rfl hso rfl rfl
theorem s_Ends0 (l : List Eg) (hll : l.length ≤ 1073741824) (ids : List Int) (hil : ids.length ≤ 1073741824) (fr : Int) (h : ¬ AskC l fr 0 0 ∨ stepsM l ids fr = none) (t : Tok) (s : Nat) (hs : s = 8 ∨ l = []) (t' : Tok) (s' : Nat) (hs' : s' = 1 ∨ ids = []) :
    EvP Γ 28 [.slice t s (l.map Eg.e), .slice t' s' (ids.map (D.int .i64)), .int .i64 fr] (.tuple [.slice .isnil 0 [], .bool false]) := by
  refine EvP_code rfl rfl ?_
  have hA := fun t => s_pasked l hll fr 0 0 t s hs
  by_cases ha : AskC l fr 0 0
  · have hm := h.resolve_left (fun h => h ha)
    have hS := fun t t' => s_steps0 l hll ids hil fr hm t s hs t' s' hs'
    rw [decide_eq_true ha] at hA
    repeat' (first
 | (refine I_WS ?_; first
 | (refine I_mov ?_; first
 | refine W_mov (v := .int _ _) rfl rfl rfl ?_
 | refine W_mov (v := .bool _) rfl rfl rfl ?_
 | refine W_mov (v := .slice _ _ _) rfl rfl rfl ?_
 | refine W_mov (v := .tuple _) rfl rfl rfl ?_)
 | (refine I_call ?_; first
 | refine W_call rfl rfl rfl (hA _) rfl rfl ?_
 | refine W_call rfl rfl rfl (hS _ _) rfl rfl ?_)
 | (refine I_extract ?_; first
 | refine W_extract (d := .bool _) rfl rfl rfl rfl ?_
 | refine W_extract (d := .slice _ _ _) rfl rfl rfl rfl ?_)
 | refine W_not rfl rfl rfl ?_
 | refine WS_nil ?_)
 | refine WC_seq ?_
 | refine WC_opsS ?_
 | refine WC_skip ?_
 | refine WC_condT rfl ?_
 | refine WC_condF rfl ?_
 | refine WC_ret ?_)
    exact ⟨.inr rfl, rfl⟩
  · rw [decide_eq_false ha] at hA
    repeat' (first
 | (refine I_WS ?_; first
 | (refine I_mov ?_; first
 | refine W_mov (v := .int _ _) rfl rfl rfl ?_
 | refine W_mov (v := .bool _) rfl rfl rfl ?_
 | refine W_mov (v := .slice _ _ _) rfl rfl rfl ?_)
 | (refine I_call ?_; first
 | refine W_call rfl rfl rfl (hA _) rfl rfl ?_)
 | refine W_not rfl rfl rfl ?_
 | refine WS_nil ?_)
 | refine WC_seq ?_
 | refine WC_opsS ?_
 | refine WC_condT rfl ?_
 | refine WC_ret ?_)
    exact ⟨.inr rfl, rfl⟩
theorem lastE_mem {id : Int} : ∀ {l : List Eg} {e : Eg}, lastE id l = some e → e ∈ l := fun {l} => by
  have key : ∀ (l : List Eg) (o : Option Eg) (e : Eg), l.foldl (fun o x => if id = x.id then some x else o) o = some e → e ∈ l ∨ o = some e := by
    intro l
    induction l with
    | nil => intro o e h; exact .inr h
    | cons x l ih =>
      intro o e h
      rw [List.foldl_cons] at h
      rcases ih _ e h with h | h
      · exact .inl (List.mem_cons_of_mem _ h)
      · split at h
        · cases h; exact .inl List.mem_cons_self
        · exact .inr h
  intro e h
  rcases key l none e h with h | h
  · exact h
  · cases h
/-- Each hop is a way to where it ends. -/
theorem hops_reach {l : List Eg} {fr now sz : Int} : ∀ (ids : List Int) (cur t : Int) (m : List Eg) (h : List Hp), stepsM l ids cur = some m → hopsM sz m t = some h → Reach (psz sz) (clS []) l fr now cur t → h.length = m.length ∧ ∀ (i : Nat) e x, m[i]? = some e → h[i]? = some x → Reach (psz sz) (clS []) l fr now e.to x.ar
  | [], cur, t, m, h, hm, hh, hr => by
    cases hm
    cases hh
    exact ⟨rfl, fun i e x he => by simp at he⟩
  | id :: ids, cur, t, m, h, hm, hh, hr => by
    simp only [stepsM] at hm
    split at hm
    · rename_i e0 hl
      split at hm
      · rename_i hf
        obtain ⟨m', h1, rfl⟩ := Option.map_eq_some_iff.mp hm
        simp only [hopsM] at hh
        split at hh
        · rename_i hc
          obtain ⟨h', h2, rfl⟩ := Option.map_eq_some_iff.mp hh
          have hr' : Reach (psz sz) (clS []) l fr now e0.to (thereE e0 t sz) := .go hr (lastE_mem hl) hf (psz_some.mpr ⟨hc, rfl⟩) (by simp [clS])
          obtain ⟨k1, k2⟩ := hops_reach ids e0.to _ m' h' h1 h2 hr'
          refine ⟨by simp [k1], fun i e x he hx => ?_⟩
          cases i with
          | zero =>
            simp at he hx
            subst he hx
            exact hr'
          | succ i => exact k2 i e x (by simpa using he) (by simpa using hx)
        · cases hh
      · cases hm
    · cases hm
theorem hp_mid {l pre post : List Hp} {x : Hp} (h : l = pre ++ x :: post) : l[pre.length]? = some x := by rw [h]; simp
set_option maxHeartbeats 4000000 in
theorem l_L1 (r : List Rd) (hrl : r.length ≤ 1000000) (n : List Int) (h : List Hp) (hhl : h.length ≤ 1000000) (hnl : n.length = h.length + 1) (hC : ∀ (i : Nat) x k, h[i]? = some x → n[i + 1]? = some k → ∃ u, atN k r = some u ∧ u ≤ x.ar) (tr tn th : Tok) (sr sn sh : Nat) (hsr : sr = 2 ∨ r = []) (hsn : sn = 1 ∨ n = []) (hsh : sh = 3 ∨ h = []) (v0 v1 v2 v3 : D) : ∀ (post pre : List Hp), h = pre ++ post → ∀ (ρ : Nat → D) (st : Store),
    ρ 0 = v0 → ρ 1 = v1 → ρ 2 = v2 → ρ 3 = v3 → ρ 11 = .bool true → ρ 12 = .slice tr sr (r.map Rd.e) → ρ 13 = .slice th sh (h.map Hp.e) → ρ 15 = .slice tn sn (n.map (D.int .i64)) → ρ 17 = .int .i64 pre.length → ∀ (Q : X → (Nat → D) → Store → Prop),
    (∀ ρ', ρ' 0 = v0 → ρ' 1 = v1 → ρ' 2 = v2 → ρ' 3 = v3 → ρ' 11 = .bool true → ρ' 12 = .slice tr sr (r.map Rd.e) → Q (.exit 0) ρ' st) → WC Γ (.loop c_feluccalaw15_EarlyLeast_l0) ρ st Q := by
  have hn0 : sn = 1 := hsn.resolve_right (by rintro rfl; simp at hnl)
  subst hn0
  intro post
  induction post with
  | nil =>
    intro pre hpp ρ st h0 h1 h2 h3 h11 h12 h13 h15 h17 Q hQ
    rw [List.append_nil] at hpp
    subst hpp
    rw [← upd_self h0, ← upd_self h1, ← upd_self h2, ← upd_self h3, ← upd_self h11, ← upd_self h12, ← upd_self h13, ← upd_self h15, ← upd_self h17]
    refine WC_loop ?_
    repeat' (first
 | (refine I_WS ?_; first
 | (refine I_mov ?_; first
 | refine W_mov (v := .int _ _) rfl rfl rfl ?_
 | refine W_mov (v := .slice _ _ _) rfl rfl rfl ?_)
 | (refine I_bin ?_; first
 | refine W_lssF rfl rfl rfl rfl (by omega) ?_)
 | refine W_lenM rfl rfl rfl ?_
 | refine WS_nil ?_)
 | refine WC_seq ?_
 | refine WC_opsS ?_
 | refine WC_condF rfl ?_
 | refine WC_exit ?_)
    exact hQ _ rfl rfl rfl rfl rfl rfl
  | cons x post ih =>
    intro pre hpp ρ st h0 h1 h2 h3 h11 h12 h13 h15 h17 Q hQ
    have hv := hp_mid hpp
    have hlen : h.length = pre.length + (post.length + 1) := by rw [hpp]; simp
    have hz : sh = 3 := hsh.resolve_right (by rintro rfl; simp at hlen)
    subst hz
    have hpl : pre.length < (h.map Hp.e).length := by simp; omega
    have hpn : pre.length + 1 < (n.map (D.int .i64)).length := by simp; omega
    have hltl : (pre.length : Int) < h.length := by omega
    obtain ⟨k, hk⟩ : ∃ k, n[pre.length + 1]? = some k := ⟨n[pre.length + 1]'(by omega), List.getElem?_eq_getElem _⟩
    obtain ⟨u, hu, hle⟩ := hC pre.length x k hv hk
    have hAt := fun t => s_At1 k r (by omega) u hu t sr hsr
    have hadd : IntKind.i64.wrap ((pre.length : Int) + 1) = ((pre.length + 1 : Nat) : Int) := by rw [w64 (by omega)]; omega
    have hnext : ∀ (ρ' : Nat → D), ρ' 0 = v0 → ρ' 1 = v1 → ρ' 2 = v2 → ρ' 3 = v3 → ρ' 11 = .bool true → ρ' 12 = .slice tr sr (r.map Rd.e) → ρ' 13 = .slice th 3 (h.map Hp.e) → ρ' 15 = .slice tn 1 (n.map (D.int .i64)) → ρ' 17 = .int .i64 ((pre.length + 1 : Nat) : Int) → WC Γ (.loop c_feluccalaw15_EarlyLeast_l0) ρ' st Q := fun ρ' k0 k1 k2 k3 k11 k12 k13 k15 k17 =>
      ih (pre ++ [x]) (by simp [hpp]) ρ' st k0 k1 k2 k3 k11 k12 k13 k15 (by rw [List.length_append]; exact k17) Q hQ
    clear ih hQ hpp hC
    rw [← upd_self h0, ← upd_self h1, ← upd_self h2, ← upd_self h3, ← upd_self h11, ← upd_self h12, ← upd_self h13, ← upd_self h15, ← upd_self h17]
    refine WC_loop ?_
    repeat' (first
 | (refine I_WS ?_; first
 | refine W_add (s := ((pre.length + 1 : Nat) : Int)) rfl rfl rfl rfl hadd ?_
 | refine W_iaddr (j := pre.length) rfl rfl rfl rfl rfl hpl ?_
 | refine W_iaddr (j := pre.length + 1) rfl rfl rfl rfl rfl hpn ?_
 | (refine I_mov ?_; first
 | refine W_mov (v := .int _ _) rfl rfl rfl ?_
 | refine W_mov (v := .bool _) rfl rfl rfl ?_
 | refine W_mov (v := .slice _ _ _) rfl rfl rfl ?_
 | refine W_mov (v := .tuple _) rfl rfl rfl ?_)
 | (refine I_bin ?_; first
 | refine W_lssT rfl rfl rfl rfl (by omega) ?_
 | refine W_gtrF rfl rfl rfl rfl (by omega) ?_)
 | (refine I_load ?_; first
 | refine W_loadE (agg := false) (d := .int _ _) rfl rfl rfl hv rfl ?_
 | refine W_loadE (agg := false) (d := .int _ _) rfl rfl rfl hk rfl ?_)
 | (refine I_call ?_; first
 | refine W_call rfl rfl rfl (hAt _) rfl rfl ?_)
 | (refine I_pick ?_; first
 | refine W_pick (v := .bool _) rfl rfl rfl rfl ?_)
 | (refine I_extract ?_; first
 | refine W_extract (d := .int _ _) rfl rfl rfl rfl ?_
 | refine W_extract (d := .bool _) rfl rfl rfl rfl ?_)
 | refine W_not rfl rfl rfl ?_
 | refine W_lenM rfl rfl rfl ?_
 | refine W_faddrE rfl rfl rfl ?_
 | refine WS_nil ?_)
 | refine WC_seq ?_
 | refine WC_opsS ?_
 | refine WC_skip ?_
 | refine WC_condT rfl ?_
 | refine WC_condF rfl ?_
 | refine WC_block ?_)
    refine hnext _ ?_ ?_ ?_ ?_ ?_ ?_ ?_ ?_ ?_ <;> rfl
set_option maxHeartbeats 8000000 in
theorem l_L2 (l : List Eg) (hll : l.length ≤ 1000000) (sz : Int) (r : List Rd) (hrl : r.length ≤ 1000000) (hC : ∀ e ∈ l, ∀ t, atN e.fr r = some t → passC e t sz → ∃ u, atN e.to r = some u ∧ u ≤ thereE e t sz) (tr tl : Tok) (sr sl : Nat) (hsr : sr = 2 ∨ r = []) (hsl : sl = 8 ∨ l = []) (v1 v2 : D) : ∀ (post pre : List Eg), l = pre ++ post → ∀ (ρ : Nat → D) (st : Store),
    ρ 0 = .slice tl sl (l.map Eg.e) → ρ 1 = v1 → ρ 2 = v2 → ρ 3 = .int .i64 sz → ρ 11 = .bool true → ρ 12 = .slice tr sr (r.map Rd.e) → ρ 20 = .int .i64 pre.length → ∀ (Q : X → (Nat → D) → Store → Prop),
    (∀ ρ', ρ' 1 = v1 → ρ' 2 = v2 → ρ' 11 = .bool true → ρ' 12 = .slice tr sr (r.map Rd.e) → Q (.exit 2) ρ' st) → WC Γ (.loop c_feluccalaw15_EarlyLeast_l1) ρ st Q := by
  intro post
  induction post with
  | nil =>
    intro pre hpp ρ st h0 h1 h2 h3 h11 h12 h20 Q hQ
    rw [List.append_nil] at hpp
    subst hpp
    rw [← upd_self h0, ← upd_self h1, ← upd_self h2, ← upd_self h3, ← upd_self h11, ← upd_self h12, ← upd_self h20]
    refine WC_loop ?_
    repeat' (first
 | (refine I_WS ?_; first
 | (refine I_mov ?_; first
 | refine W_mov (v := .int _ _) rfl rfl rfl ?_
 | refine W_mov (v := .slice _ _ _) rfl rfl rfl ?_)
 | (refine I_bin ?_; first
 | refine W_lssF rfl rfl rfl rfl (by omega) ?_)
 | refine W_lenM rfl rfl rfl ?_
 | refine WS_nil ?_)
 | refine WC_seq ?_
 | refine WC_opsS ?_
 | refine WC_condF rfl ?_
 | refine WC_exit ?_)
    exact hQ _ rfl rfl rfl rfl
  | cons e post ih =>
    intro pre hpp ρ st h0 h1 h2 h3 h11 h12 h20 Q hQ
    have hv := eg_mid hpp
    have hlen : l.length = pre.length + (post.length + 1) := by rw [hpp]; simp
    have hz : sl = 8 := hsl.resolve_right (by rintro rfl; simp at hlen)
    subst hz
    have hpl : pre.length < (l.map Eg.e).length := by simp; omega
    have hltl : (pre.length : Int) < l.length := by omega
    have hCe := hC e (List.mem_of_getElem? hv)
    have hnext : ∀ (ρ' : Nat → D), ρ' 0 = .slice tl 8 (l.map Eg.e) → ρ' 1 = v1 → ρ' 2 = v2 → ρ' 3 = .int .i64 sz → ρ' 11 = .bool true → ρ' 12 = .slice tr sr (r.map Rd.e) → ρ' 20 = .int .i64 ((pre.length : Int) + 1) → WC Γ (.loop c_feluccalaw15_EarlyLeast_l1) ρ' st Q := fun ρ' k0 k1 k2 k3 k11 k12 k20 =>
      ih (pre ++ [e]) (by simp [hpp]) ρ' st k0 k1 k2 k3 k11 k12 (by rw [List.length_append]; exact k20) Q hQ
    clear ih hQ hpp hC
    rw [← upd_self h0, ← upd_self h1, ← upd_self h2, ← upd_self h3, ← upd_self h11, ← upd_self h12, ← upd_self h20]
    refine WC_loop ?_
    have hB := fun t => s_At e.to r (by omega) t sr hsr
    cases hf : atN e.fr r with
    | none =>
      have hA := fun t => s_At0 e.fr r (by omega) hf t sr hsr
      have hP := s_Pass e 0 sz
      unfold passT at hP
      generalize (atN e.to r).isSome = w1 at hB
      generalize (atN e.to r).getD 0 = w2 at hB
      by_cases hc : passC e 0 sz
      · rw [if_pos hc] at hP
        generalize thereE e 0 sz = p1 at hP
        generalize mx 0 e.op = p2 at hP
        repeat' (first
 | (refine I_WS ?_; first
 | refine W_iaddr (j := pre.length) rfl rfl rfl rfl rfl hpl ?_
 | (refine I_mov ?_; first
 | refine W_skip rfl ?_
 | refine W_mov (v := .int _ _) rfl rfl rfl ?_
 | refine W_mov (v := .bool _) rfl rfl rfl ?_
 | refine W_mov (v := .slice _ _ _) rfl rfl rfl ?_
 | refine W_mov (v := .tuple _) rfl rfl rfl ?_)
 | (refine I_bin ?_; first
 | refine W_skip rfl ?_
 | refine W_lssT rfl rfl rfl rfl (by omega) ?_
 | refine W_add rfl rfl rfl rfl (by first | exact w64 (by omega) | rfl) ?_)
 | (refine I_load ?_; first
 | refine W_loadE (agg := true) (d := .agg [_, _, _, _, _, _, _, _]) rfl rfl rfl hv rfl ?_
 | refine W_loadE (agg := false) (d := .int _ _) rfl rfl rfl hv rfl ?_)
 | (refine I_call ?_; first
 | refine W_call rfl rfl rfl (hA _) rfl rfl ?_
 | refine W_call rfl rfl rfl hP rfl rfl ?_
 | refine W_call rfl rfl rfl (hB _) rfl rfl ?_)
 | (refine I_pick ?_; first
 | refine W_pick (v := .bool _) rfl rfl rfl rfl ?_
 | refine W_skip rfl ?_)
 | (refine I_extract ?_; first
 | refine W_extract (d := .int _ _) rfl rfl rfl rfl ?_
 | refine W_extract (d := .bool _) rfl rfl rfl rfl ?_)
 | refine W_lenM rfl rfl rfl ?_
 | refine W_faddrE rfl rfl rfl ?_
 | refine W_skip rfl ?_
 | refine WS_nil ?_)
 | refine WC_seq ?_
 | refine WC_opsS ?_
 | refine WC_skip ?_
 | refine WC_condT rfl ?_
 | refine WC_condF rfl ?_
 | refine WC_block ?_)
        refine hnext _ ?_ ?_ ?_ ?_ ?_ ?_ ?_ <;> rfl
      · rw [if_neg hc] at hP
        repeat' (first
 | (refine I_WS ?_; first
 | refine W_iaddr (j := pre.length) rfl rfl rfl rfl rfl hpl ?_
 | (refine I_mov ?_; first
 | refine W_skip rfl ?_
 | refine W_mov (v := .int _ _) rfl rfl rfl ?_
 | refine W_mov (v := .bool _) rfl rfl rfl ?_
 | refine W_mov (v := .slice _ _ _) rfl rfl rfl ?_
 | refine W_mov (v := .tuple _) rfl rfl rfl ?_)
 | (refine I_bin ?_; first
 | refine W_skip rfl ?_
 | refine W_lssT rfl rfl rfl rfl (by omega) ?_
 | refine W_add rfl rfl rfl rfl (by first | exact w64 (by omega) | rfl) ?_)
 | (refine I_load ?_; first
 | refine W_loadE (agg := true) (d := .agg [_, _, _, _, _, _, _, _]) rfl rfl rfl hv rfl ?_
 | refine W_loadE (agg := false) (d := .int _ _) rfl rfl rfl hv rfl ?_)
 | (refine I_call ?_; first
 | refine W_call rfl rfl rfl (hA _) rfl rfl ?_
 | refine W_call rfl rfl rfl hP rfl rfl ?_
 | refine W_call rfl rfl rfl (hB _) rfl rfl ?_)
 | (refine I_pick ?_; first
 | refine W_pick (v := .bool _) rfl rfl rfl rfl ?_
 | refine W_skip rfl ?_)
 | (refine I_extract ?_; first
 | refine W_extract (d := .int _ _) rfl rfl rfl rfl ?_
 | refine W_extract (d := .bool _) rfl rfl rfl rfl ?_)
 | refine W_lenM rfl rfl rfl ?_
 | refine W_faddrE rfl rfl rfl ?_
 | refine W_skip rfl ?_
 | refine WS_nil ?_)
 | refine WC_seq ?_
 | refine WC_opsS ?_
 | refine WC_skip ?_
 | refine WC_condT rfl ?_
 | refine WC_condF rfl ?_
 | refine WC_block ?_)
        refine hnext _ ?_ ?_ ?_ ?_ ?_ ?_ ?_ <;> rfl
    | some t =>
      have hA := fun t' => s_At1 e.fr r (by omega) t hf t' sr hsr
      have hP := s_Pass e t sz
      unfold passT at hP
      by_cases hc : passC e t sz
      · obtain ⟨u, hu, hle⟩ := hCe t hf hc
        have hB1 := fun t => s_At1 e.to r (by omega) u hu t sr hsr
        rw [if_pos hc] at hP
        generalize thereE e t sz = p1 at *
        generalize mx t e.op = p2 at *
        clear hB
        repeat' (first
 | (refine I_WS ?_; first
 | refine W_iaddr (j := pre.length) rfl rfl rfl rfl rfl hpl ?_
 | (refine I_mov ?_; first
 | refine W_mov (v := .int _ _) rfl rfl rfl ?_
 | refine W_mov (v := .bool _) rfl rfl rfl ?_
 | refine W_mov (v := .slice _ _ _) rfl rfl rfl ?_
 | refine W_mov (v := .tuple _) rfl rfl rfl ?_)
 | (refine I_bin ?_; first
 | refine W_lssT rfl rfl rfl rfl (by omega) ?_
 | refine W_gtrF rfl rfl rfl rfl (by omega) ?_
 | refine W_add rfl rfl rfl rfl (by first | exact w64 (by omega) | rfl) ?_)
 | (refine I_load ?_; first
 | refine W_loadE (agg := true) (d := .agg [_, _, _, _, _, _, _, _]) rfl rfl rfl hv rfl ?_
 | refine W_loadE (agg := false) (d := .int _ _) rfl rfl rfl hv rfl ?_)
 | (refine I_call ?_; first
 | refine W_call rfl rfl rfl (hA _) rfl rfl ?_
 | refine W_call rfl rfl rfl hP rfl rfl ?_
 | refine W_call rfl rfl rfl (hB1 _) rfl rfl ?_)
 | (refine I_pick ?_; first
 | refine W_pick (v := .bool _) rfl rfl rfl rfl ?_)
 | (refine I_extract ?_; first
 | refine W_extract (d := .int _ _) rfl rfl rfl rfl ?_
 | refine W_extract (d := .bool _) rfl rfl rfl rfl ?_)
 | refine W_not rfl rfl rfl ?_
 | refine W_lenM rfl rfl rfl ?_
 | refine W_faddrE rfl rfl rfl ?_
 | refine WS_nil ?_)
 | refine WC_seq ?_
 | refine WC_opsS ?_
 | refine WC_skip ?_
 | refine WC_condT rfl ?_
 | refine WC_condF rfl ?_
 | refine WC_block ?_)
        refine hnext _ ?_ ?_ ?_ ?_ ?_ ?_ ?_ <;> rfl
      · rw [if_neg hc] at hP
        generalize (atN e.to r).isSome = w1 at hB
        generalize (atN e.to r).getD 0 = w2 at hB
        repeat' (first
 | (refine I_WS ?_; first
 | refine W_iaddr (j := pre.length) rfl rfl rfl rfl rfl hpl ?_
 | (refine I_mov ?_; first
 | refine W_skip rfl ?_
 | refine W_mov (v := .int _ _) rfl rfl rfl ?_
 | refine W_mov (v := .bool _) rfl rfl rfl ?_
 | refine W_mov (v := .slice _ _ _) rfl rfl rfl ?_
 | refine W_mov (v := .tuple _) rfl rfl rfl ?_)
 | (refine I_bin ?_; first
 | refine W_skip rfl ?_
 | refine W_lssT rfl rfl rfl rfl (by omega) ?_
 | refine W_add rfl rfl rfl rfl (by first | exact w64 (by omega) | rfl) ?_)
 | (refine I_load ?_; first
 | refine W_loadE (agg := true) (d := .agg [_, _, _, _, _, _, _, _]) rfl rfl rfl hv rfl ?_
 | refine W_loadE (agg := false) (d := .int _ _) rfl rfl rfl hv rfl ?_)
 | (refine I_call ?_; first
 | refine W_call rfl rfl rfl (hA _) rfl rfl ?_
 | refine W_call rfl rfl rfl hP rfl rfl ?_
 | refine W_call rfl rfl rfl (hB _) rfl rfl ?_)
 | (refine I_pick ?_; first
 | refine W_pick (v := .bool _) rfl rfl rfl rfl ?_
 | refine W_skip rfl ?_)
 | (refine I_extract ?_; first
 | refine W_extract (d := .int _ _) rfl rfl rfl rfl ?_
 | refine W_extract (d := .bool _) rfl rfl rfl rfl ?_)
 | refine W_lenM rfl rfl rfl ?_
 | refine W_faddrE rfl rfl rfl ?_
 | refine W_skip rfl ?_
 | refine WS_nil ?_)
 | refine WC_seq ?_
 | refine WC_opsS ?_
 | refine WC_skip ?_
 | refine WC_condT rfl ?_
 | refine WC_condF rfl ?_
 | refine WC_block ?_)
        refine hnext _ ?_ ?_ ?_ ?_ ?_ ?_ ?_ <;> rfl
set_option maxHeartbeats 8000000 in
theorem run_Least (l : List Eg) (fr now sz : Int) (ids : List Int) : EvP Γ 10 [.slice .no 8 (l.map Eg.e), .int .i64 fr, .int .i64 now, .int .i64 sz, .slice .no 1 (ids.map (D.int .i64))] (.bool true) := by
  refine EvP_code rfl rfl ?_
  by_cases hf : l.length ≤ 40 ∧ ids.length ≤ 20
  · obtain ⟨f1, f2⟩ := hf
    have hA := s_Times l (by omega) fr now sz [] (by simp) .no .isnil 8 0 (.inl rfl) (.inr rfl)
    have hal := times_len l fr now sz []
    cases hw : walkM l ids fr now sz with
    | none =>
      have hW := s_Walk0 l (by omega) ids (by omega) fr now sz hw .no 8 (.inl rfl) .no 1 (.inl rfl)
      by_cases he : ¬ AskC l fr 0 0 ∨ stepsM l ids fr = none
      · have hE := s_Ends0 l (by omega) ids (by omega) fr he .no 8 (.inl rfl) .no 1 (.inl rfl)
        generalize timesM l fr now sz [] = a at *
        repeat' (first
 | (refine I_WS ?_; first
 | refine W_lenM rfl rfl rfl ?_
 | (refine I_mov ?_; first
 | refine W_skip rfl ?_
 | refine W_mov (v := .int _ _) rfl rfl rfl ?_
 | refine W_mov (v := .bool _) rfl rfl rfl ?_
 | refine W_mov (v := .slice _ _ _) rfl rfl rfl ?_
 | refine W_mov (v := .tuple _) rfl rfl rfl ?_)
 | (refine I_bin ?_; first
 | refine W_skip rfl ?_
 | refine W_gtrF rfl rfl rfl rfl (by omega) ?_
 | refine W_eqlT rfl rfl rfl rfl (by omega) ?_)
 | (refine I_call ?_; first
 | refine W_call rfl rfl rfl s_small rfl rfl ?_
 | (refine W_callN rfl rfl rfl hA rfl ?_; intro ta sa hsa hta)
 | refine W_call rfl rfl rfl hW rfl rfl ?_
 | refine W_call rfl rfl rfl hE rfl rfl ?_)
 | (refine I_pick ?_; first
 | refine W_pick (v := .bool _) rfl rfl rfl rfl ?_)
 | (refine I_extract ?_; first
 | refine W_extract (d := .bool _) rfl rfl rfl rfl ?_
 | refine W_extract (d := .slice _ _ _) rfl rfl rfl rfl ?_)
 | refine W_not rfl rfl rfl ?_
 | refine W_lenS0 rfl rfl rfl ?_
 | refine W_skip rfl ?_
 | refine WS_nil ?_)
 | refine WC_seq ?_
 | refine WC_opsS ?_
 | refine WC_skip ?_
 | refine WC_condT rfl ?_
 | refine WC_condF rfl ?_
 | refine WC_ret ?_)
        all_goals exact fin_bool (.inr rfl) rfl rfl
      · have he1 : AskC l fr 0 0 := Classical.byContradiction fun h => he (.inl h)
        obtain ⟨m, hm⟩ : ∃ m, stepsM l ids fr = some m := by
          cases h : stepsM l ids fr with
          | none => exact absurd (.inr h) he
          | some m => exact ⟨m, rfl⟩
        have hE := s_Ends1 l (by omega) ids (by omega) fr he1 m hm .no 8 (.inl rfl) .no 1 (.inl rfl)
        generalize timesM l fr now sz [] = a at *
        generalize fr :: m.map Eg.to = ns at *
        repeat' (first
 | (refine I_WS ?_; first
 | refine W_lenM rfl rfl rfl ?_
 | (refine I_mov ?_; first
 | refine W_skip rfl ?_
 | refine W_mov (v := .int _ _) rfl rfl rfl ?_
 | refine W_mov (v := .bool _) rfl rfl rfl ?_
 | refine W_mov (v := .slice _ _ _) rfl rfl rfl ?_
 | refine W_mov (v := .tuple _) rfl rfl rfl ?_)
 | (refine I_bin ?_; first
 | refine W_skip rfl ?_
 | refine W_gtrF rfl rfl rfl rfl (by omega) ?_
 | refine W_eqlT rfl rfl rfl rfl (by omega) ?_)
 | (refine I_call ?_; first
 | refine W_call rfl rfl rfl s_small rfl rfl ?_
 | (refine W_callN rfl rfl rfl hA rfl ?_; intro ta sa hsa hta)
 | refine W_call rfl rfl rfl hW rfl rfl ?_
 | (refine W_callT rfl rfl rfl hE rfl ?_; intro tn sn hsn tk1 nt1))
 | (refine I_pick ?_; first
 | refine W_pick (v := .bool _) rfl rfl rfl rfl ?_)
 | (refine I_extract ?_; first
 | refine W_extract (d := .bool _) rfl rfl rfl rfl ?_
 | refine W_extract (d := .slice _ _ _) rfl rfl rfl rfl ?_)
 | refine W_not rfl rfl rfl ?_
 | refine W_lenS0 rfl rfl rfl ?_
 | refine W_skip rfl ?_
 | refine WS_nil ?_)
 | refine WC_seq ?_
 | refine WC_opsS ?_
 | refine WC_skip ?_
 | refine WC_condT rfl ?_
 | refine WC_condF rfl ?_
 | refine WC_ret ?_)
        all_goals exact fin_bool (.inr rfl) rfl rfl
    | some h =>
      have hW := s_Walk1 l (by omega) ids (by omega) fr now sz h hw .no 8 (.inl rfl) .no 1 (.inl rfl)
      have hask : AskC l fr now sz := by
        unfold walkM at hw
        split at hw
        · assumption
        · cases hw
      have he1 : AskC l fr 0 0 := ⟨hask.1, by omega, by omega, hask.2.2.2⟩
      obtain ⟨m, hm, hh⟩ : ∃ m, stepsM l ids fr = some m ∧ hopsM sz m now = some h := by
        unfold walkM at hw
        rw [if_pos hask] at hw
        exact Option.bind_eq_some_iff.mp hw
      have hE := s_Ends1 l (by omega) ids (by omega) fr he1 m hm .no 8 (.inl rfl) .no 1 (.inl rfl)
      have hml := steps_len l ids fr m hm
      have hT := times_isT hask []
      obtain ⟨hhl, hhr⟩ := hops_reach (fr := fr) (now := now) ids fr now m h hm hh .here
      have hC1 : ∀ (i : Nat) x k, h[i]? = some x → (fr :: m.map Eg.to)[i + 1]? = some k → ∃ u, atN k (timesM l fr now sz []) = some u ∧ u ≤ x.ar := fun i x k hx hk => by
        rw [List.getElem?_cons_succ, List.getElem?_map] at hk
        obtain ⟨e, he, rfl⟩ := Option.map_eq_some_iff.mp hk
        exact hT.at_ (hhr i e x he hx)
      have hC2 : ∀ e ∈ l, ∀ t, atN e.fr (timesM l fr now sz []) = some t → passC e t sz → ∃ u, atN e.to (timesM l fr now sz []) = some u ∧ u ≤ thereE e t sz := fun e he t ht hc =>
        hT.at_ (.go (hT.t1 _ (atN_some ht)) he rfl (psz_some.mpr ⟨hc, rfl⟩) (by simp [clS]))
      have hat : atN fr (timesM l fr now sz []) = some now := by
        obtain ⟨u, h1, h2⟩ := hT.at_ (.here)
        have h3 : now ≤ u := reach_ge (hT.t1 _ (atN_some h1))
        rw [h1, show u = now by omega]
      have hLast := fun t s hs => s_At1 fr (timesM l fr now sz []) (by omega) now hat t s hs
      have hnl : (fr :: m.map Eg.to).length = h.length + 1 := by simp [hhl]
      have hhi : h.length = ids.length := by omega
      generalize timesM l fr now sz [] = a at *
      generalize fr :: m.map Eg.to = ns at *
      have e1 : (h.length : Int) = ids.length := by omega
      have e2 : (ns.length : Int) = (ids.length : Int) + 1 := by omega
      clear hw hm hh hT hhr hask he1
      repeat' (first
 | (refine I_WS ?_; first
 | refine W_lenM rfl rfl rfl ?_
 | (refine I_mov ?_; first
 | refine W_mov (v := .int _ _) rfl rfl rfl ?_
 | refine W_mov (v := .bool _) rfl rfl rfl ?_
 | refine W_mov (v := .slice _ _ _) rfl rfl rfl ?_
 | refine W_mov (v := .tuple _) rfl rfl rfl ?_)
 | (refine I_bin ?_; first
 | refine W_gtrF rfl rfl rfl rfl (by omega) ?_
 | refine W_neqF rfl rfl rfl rfl (by omega) ?_
 | refine W_add rfl rfl rfl rfl (by first | exact w64 (by omega) | rfl) ?_)
 | (refine I_call ?_; first
 | refine W_call rfl rfl rfl s_small rfl rfl ?_
 | (refine W_callN rfl rfl rfl hA rfl ?_; intro ta sa hsa hta)
 | (refine W_callT rfl rfl rfl hW rfl ?_; intro th sh hsh tk1 nt1)
 | (refine W_callT rfl rfl rfl hE rfl ?_; intro tn sn hsn tk2 nt2))
 | (refine I_pick ?_; first
 | refine W_pick (v := .bool _) rfl rfl rfl rfl ?_)
 | (refine I_extract ?_; first
 | refine W_extract (d := .bool _) rfl rfl rfl rfl ?_
 | refine W_extract (d := .slice _ _ _) rfl rfl rfl rfl ?_)
 | refine W_not rfl rfl rfl ?_
 | refine WS_nil ?_)
 | refine WC_seq ?_
 | refine WC_opsS ?_
 | refine WC_skip ?_
 | refine WC_condF rfl ?_
 | refine WC_block ?_)
      refine l_L1 a (by omega) ns h (by omega) hnl hC1 ta tn th sa sn sh hsa hsn hsh (.slice .no 8 (l.map Eg.e)) (.int .i64 fr) (.int .i64 now) (.int .i64 sz) h [] rfl _ _ ?_ ?_ ?_ ?_ ?_ ?_ ?_ ?_ ?_ _ (fun ρ' h0 h1 h2 h3 h11 h12 => ?_)
      all_goals first | rfl | skip
      rw [← upd_self h0, ← upd_self h1, ← upd_self h2, ← upd_self h3, ← upd_self h11, ← upd_self h12]
      repeat' (first
 | (refine I_WS ?_; first
 | (refine I_mov ?_; first
 | refine W_mov (v := .int _ _) rfl rfl rfl ?_)
 | refine WS_nil ?_)
 | refine WC_seq ?_
 | refine WC_opsS ?_
 | refine WC_block ?_)
      refine l_L2 l (by omega) sz a (by omega) hC2 ta .no sa 8 hsa (.inl rfl) (.int .i64 fr) (.int .i64 now) l [] rfl _ _ ?_ ?_ ?_ ?_ ?_ ?_ ?_ _ (fun ρ' h1 h2 h11 h12 => ?_)
      all_goals first | rfl | skip
      rw [← upd_self h1, ← upd_self h2, ← upd_self h11, ← upd_self h12]
      repeat' (first
 | (refine I_WS ?_; first
 | (refine I_mov ?_; first
 | refine W_mov (v := .int _ _) rfl rfl rfl ?_
 | refine W_mov (v := .bool _) rfl rfl rfl ?_
 | refine W_mov (v := .slice _ _ _) rfl rfl rfl ?_
 | refine W_mov (v := .tuple _) rfl rfl rfl ?_)
 | (refine I_bin ?_; first
 | refine W_eqlT rfl rfl rfl rfl (by omega) ?_)
 | (refine I_call ?_; first
 | refine W_call rfl rfl rfl (hLast _ _ hsa) rfl rfl ?_)
 | (refine I_pick ?_; first
 | refine W_pick (v := .bool _) rfl rfl rfl rfl ?_)
 | (refine I_extract ?_; first
 | refine W_extract (d := .int _ _) rfl rfl rfl rfl ?_
 | refine W_extract (d := .bool _) rfl rfl rfl rfl ?_)
 | refine WS_nil ?_)
 | refine WC_seq ?_
 | refine WC_opsS ?_
 | refine WC_ret ?_)
      all_goals first | exact fin_bool (.inr rfl) rfl rfl | (exfalso; omega)
  · repeat' (first
 | (refine I_WS ?_; first
 | refine W_lenM rfl rfl rfl ?_
 | (refine I_mov ?_; first
 | refine W_skip rfl ?_
 | refine W_mov (v := .bool _) rfl rfl rfl ?_
 | refine W_mov (v := .slice _ _ _) rfl rfl rfl ?_)
 | (refine I_bin ?_; first
 | refine W_skip rfl ?_
 | refine W_gtrT rfl rfl rfl rfl (by omega) ?_
 | (refine W_gtr rfl rfl rfl rfl ?_ ?_ <;> intro _))
 | (refine I_call ?_; first
 | refine W_call rfl rfl rfl s_small rfl rfl ?_)
 | (refine I_pick ?_; first
 | refine W_pick (v := .bool _) rfl rfl rfl rfl ?_)
 | refine W_skip rfl ?_
 | refine WS_nil ?_)
 | refine WC_seq ?_
 | refine WC_opsS ?_
 | refine WC_condT rfl ?_
 | refine WC_ret ?_)
    all_goals first | exact fin_bool (.inr rfl) rfl rfl | (exfalso; omega)
end Go.Ear
