/-
  Leaving out the edges that are banned.
-/
import Derived.Test.YtjcilbnbciclpaaLeaLeaF
import Derived.Test.YtjcilbnbciclpaaEvEvX12
import Derived.Test.YtjcilbnbciclpaaLeaLeaF
import Derived.Test.YtjcilbnbciclpaaEvEvX4
import Derived.Test.YtjcilbnbciclpaaEvEvX8
set_option linter.unusedVariables false
set_option linter.unusedSimpArgs false
set_option linter.unnecessarySimpa false
namespace Go.Lea
open Go.Ev
def Eg.bn (e : Eg) (na : Int) (bans : List Int) : Bool := decide (e.fr = na) && decide (e.id ∈ bans)
def BanB (st : Store) (qa qb : Nat) (na : Int) (ti : Tok) (si : Nat) (ids : List Int) : Prop := (st.boxes qa).bind Box.cs = some [.int .i64 na] ∧ (st.boxes qb).bind Box.cs = some [.slice ti si (ids.map (D.int .i64))]
theorem BanB.of {st st' : Store} {qa qb : Nat} {na : Int} {ti : Tok} {si : Nat} {ids : List Int} (h : BanB st qa qb na ti si ids) (h1 : st'.boxes qa = st.boxes qa) (h2 : st'.boxes qb = st.boxes qb) : BanB st' qa qb na ti si ids := ⟨by rw [h1]; exact h.1, by rw [h2]; exact h.2⟩
theorem BanB.up {st : Store} {qa qb : Nat} {na : Int} {ti : Tok} {si : Nat} {ids : List Int} (h : BanB st qa qb na ti si ids) {q : Nat} {n2 : Nat} {tk : Nat → Bool} {nt l1 l2 : Nat} {x : Option Box} (hn : qa < q ∧ qb < q) : BanB ⟨upd st.boxes q x, n2, tk, nt, l1, l2⟩ qa qb na ti si ids := h.of (upd_ne _ _ (Nat.ne_of_lt hn.1)) (upd_ne _ _ (Nat.ne_of_lt hn.2))
theorem lt2 {a b n : Nat} (h : a < n ∧ b < n) : a < n + 1 ∧ b < n + 1 := ⟨Nat.lt_succ_of_lt h.1, Nat.lt_succ_of_lt h.2⟩
theorem s_ban (na : Int) (ids : List Int) (hl : ids.length ≤ 1073741824) (qa qb : Nat) (ti : Tok) (si : Nat) (hsi : si = 1 ∨ ids = []) (st : Store) (h00 : BanB st qa qb na ti si ids) (hn0 : qa < st.next ∧ qb < st.next) (e : Eg) : EvRO Γ2 52 [e.e, .ptr qa 0, .ptr qb 0] st (.bool (e.bn na ids)) := by
  have hc := fun t => (s_Contains e.id ids hl t si hsi).grow hx2
  refine EvRO_code rfl rfl rfl ?_
  unfold Eg.bn
  by_cases hf : e.fr = na
  · rw [decide_eq_true hf, Bool.true_and]
    generalize decide (e.id ∈ ids) = bb at *
    repeat' (first
 | (refine I_WS ?_; first
 | refine W_eqlT rfl rfl rfl rfl hf ?_
 | (refine I_mov ?_; first
 | refine W_mov (v := .bool _) rfl rfl rfl ?_)
 | (refine I_load ?_; first
 | refine W_loadC (agg := false) (d := .int _ _) rfl rfl rfl (bxs (Nat.ne_of_lt hn0.1) h00.1) hn0.1 rfl ?_
 | refine W_loadC (agg := false) (d := .slice _ _ _) rfl rfl rfl (bxs (Nat.ne_of_lt hn0.2) h00.2) hn0.2 rfl ?_
 | refine W_load (agg := false) (d := .int _ _) rfl rfl rfl (bxc rfl) (Nat.le_refl _) rfl ?_)
 | (refine I_call ?_; first
 | refine W_call rfl rfl rfl (hc _) rfl rfl ?_)
 | (refine I_pick ?_; first
 | refine W_pick (v := .bool _) rfl rfl rfl rfl ?_)
 | (refine I_box ?_; first
 | refine W_boxA rfl rfl rfl rfl rfl ?_)
 | refine W_faddr rfl rfl rfl ?_
 | refine WS_nil ?_)
 | refine WC_seq ?_
 | refine WC_opsS ?_
 | refine WC_ret ?_)
    exact ⟨.inr rfl, rfl⟩
  · rw [decide_eq_false hf, Bool.false_and]
    repeat' (first
 | (refine I_WS ?_; first
 | refine W_eqlF rfl rfl rfl rfl hf ?_
 | (refine I_mov ?_; first
 | refine W_mov (v := .bool _) rfl rfl rfl ?_)
 | (refine I_load ?_; first
 | refine W_skip rfl ?_
 | refine W_loadC (agg := false) (d := .int _ _) rfl rfl rfl (bxs (Nat.ne_of_lt hn0.1) h00.1) hn0.1 rfl ?_
 | refine W_load (agg := false) (d := .int _ _) rfl rfl rfl (bxc rfl) (Nat.le_refl _) rfl ?_)
 | (refine I_call ?_; first
 | refine W_skip rfl ?_)
 | (refine I_pick ?_; first
 | refine W_pick (v := .bool _) rfl rfl rfl rfl ?_)
 | (refine I_box ?_; first
 | refine W_boxA rfl rfl rfl rfl rfl ?_)
 | refine W_faddr rfl rfl rfl ?_
 | refine W_skip rfl ?_
 | refine WS_nil ?_)
 | refine WC_seq ?_
 | refine WC_opsS ?_
 | refine WC_ret ?_)
    exact ⟨.inr rfl, rfl⟩
def keepL (na : Int) (ids : List Int) (l : List Eg) : List Eg := l.filter (fun e => !e.bn na ids)
theorem es_at {l : List Eg} {i : Nat} {x : Eg} (h : l[i]? = some x) : (l.map Eg.e)[i]? = some (.agg [.int .i64 x.id, .int .i64 x.fr, .int .i64 x.to, .int .i64 x.op, .int .i64 x.en, .int .i64 x.ra, .int .i64 x.ow, .int .i64 x.ro]) := by
  rw [List.getElem?_map, h]; rfl
theorem at_mid {α : Type} {l pre post : List α} {x : α} (h : l = pre ++ x :: post) : l[pre.length]? = some x := by rw [h]; simp
theorem cells8 {l : List Eg} : ∀ d ∈ l.map Eg.e, d.cells.length = 8 := fun d hd => by
  obtain ⟨e, _, rfl⟩ := List.mem_map.1 hd
  rfl
theorem l_eidx (na : Int) (ids : List Int) (hl : ids.length ≤ 1073741824) (qa qb : Nat) (ti : Tok) (si : Nat) (hsi : si = 1 ∨ ids = []) (l : List Eg) (hll : l.length ≤ 1073741824) (st : Store) (p c : Nat) (h00 : BanB st qa qb na ti si ids) (hn0 : qa < st.next ∧ qb < st.next) (hR : RowAt st p 8 (l.map Eg.e)) : ∀ (post pre : List Eg), l = pre ++ post → (∀ b ∈ pre, b.bn na ids = false) →
    ∀ (ρ : Nat → D) (h0 : ρ 0 = .rs p 0 8 l.length c) (h1 : ρ 1 = .func 52 [.ptr qa 0, .ptr qb 0]) (h7 : ρ 7 = .int .i64 l.length) (h8 : ρ 8 = .int .i64 pre.length) (Q : X → (Nat → D) → Store → Prop),
    ((∀ b ∈ l, b.bn na ids = false) → ∀ ρ', Q (.exit 0) ρ' st) → (∀ (pre' : List Eg) (x : Eg) (post' : List Eg), l = pre' ++ x :: post' → (∀ b ∈ pre', b.bn na ids = false) → x.bn na ids = true → ∀ ρ', ρ' 4 = .int .i64 pre'.length → Q .ret ρ' st) → WC Γ2 (.loop c_slices_IndexFunc_Edge_l0) ρ st Q := by
  intro post
  induction post with
  | nil =>
    intro pre hp hn ρ h0 h1 h7 h8 Q hQ hQ2
    rw [List.append_nil] at hp
    subst hp
    rw [← upd_self h0, ← upd_self h1, ← upd_self h7, ← upd_self h8]
    refine WC_loop ?_
    repeat' (first
 | (refine I_WS ?_; first
 | (refine I_bin ?_; first
 | refine W_lssF rfl rfl rfl rfl (by omega) ?_)
 | refine WS_nil ?_)
 | refine WC_seq ?_
 | refine WC_opsS ?_
 | refine WC_condF rfl ?_
 | refine WC_exit ?_)
    exact hQ hn _
  | cons x post ih =>
    intro pre hp hn ρ h0 h1 h7 h8 Q hQ hQ2
    have hv := es_at (at_mid hp)
    have hlen : l.length = pre.length + (post.length + 1) := by rw [hp]; simp
    have hpr := s_ban na ids hl qa qb ti si hsi st h00 hn0
    rw [← upd_self h0, ← upd_self h1, ← upd_self h7, ← upd_self h8]
    refine WC_loop ?_
    repeat' (first
 | (refine I_WS ?_; first
 | (refine I_mov ?_; first
 | refine W_mov (v := .int _ _) rfl rfl rfl ?_
 | refine W_mov (v := .func _ _) rfl rfl rfl ?_
 | refine W_mov (v := .rs _ _ _ _ _) rfl rfl rfl ?_)
 | (refine I_bin ?_; first
 | refine W_lssT rfl rfl rfl rfl (by omega) ?_
 | refine W_add rfl rfl rfl rfl (by first | exact w64 (by omega) | rfl) ?_)
 | (refine I_load ?_; first
 | refine W_loadRow (j := pre.length) rfl rfl hR (Nat.zero_add _) cells8 hv rfl ?_)
 | (refine I_call ?_; first
 | (refine W_callROB rfl rfl rfl (hpr x) rfl ?_ ?_ <;> intro _))
 | refine W_iaddrR rfl rfl rfl rfl (by first | decide | omega) ?_
 | refine WS_nil ?_)
 | refine WC_seq ?_
 | refine WC_opsS ?_
 | refine WC_skip ?_
 | refine WC_condT rfl ?_
 | refine WC_condF rfl ?_
 | refine WC_block ?_
 | refine WC_ret ?_)
    · rename_i hx
      exact hQ2 pre x post hp hn hx _ rfl
    · rename_i hx
      refine ih (pre ++ [x]) (by simp [hp]) (fun b hb => ?_) _ rfl rfl rfl (by rw [List.length_append]; rfl) Q hQ hQ2
      rcases List.mem_append.mp hb with hb | hb
      · exact hn b hb
      · rw [List.mem_singleton.mp hb]
        exact hx
theorem first_eq {na : Int} {ids : List Int} : ∀ {pre pre' : List Eg} {x x' : Eg} {post post' : List Eg}, pre ++ x :: post = pre' ++ x' :: post' → (∀ b ∈ pre, b.bn na ids = false) → x.bn na ids = true → (∀ b ∈ pre', b.bn na ids = false) → x'.bn na ids = true → pre = pre'
  | [], [], _, _, _, _, _, _, _, _, _ => rfl
  | [], a :: pre', x, x', post, post', h, _, hx, h', _ => by
    simp only [List.nil_append, List.cons_append, List.cons.injEq] at h
    exact absurd hx (by rw [h.1, h' a (by simp)]; decide)
  | a :: pre, [], x, x', post, post', h, h1, _, _, hx => by
    simp only [List.nil_append, List.cons_append, List.cons.injEq] at h
    exact absurd hx (by rw [← h.1, h1 a (by simp)]; decide)
  | a :: pre, a' :: pre', x, x', post, post', h, h1, hx, h1', hx' => by
    simp only [List.cons_append, List.cons.injEq] at h
    rw [h.1, first_eq h.2 (fun b hb => h1 b (List.mem_cons_of_mem _ hb)) hx (fun b hb => h1' b (List.mem_cons_of_mem _ hb)) hx']
theorem s_IndexFunc (na : Int) (ids : List Int) (hl : ids.length ≤ 1073741824) (qa qb : Nat) (ti : Tok) (si : Nat) (hsi : si = 1 ∨ ids = []) (l : List Eg) (hll : l.length ≤ 1073741824) (st : Store) (p c : Nat) (h00 : BanB st qa qb na ti si ids) (hn0 : qa < st.next ∧ qb < st.next) (hR : RowAt st p 8 (l.map Eg.e)) :
    ((∀ b ∈ l, b.bn na ids = false) ∧ EvRO Γ2 78 [.rs p 0 8 l.length c, .func 52 [.ptr qa 0, .ptr qb 0]] st (.int .i64 (-1))) ∨
    (∃ (pre : List Eg) (x : Eg) (post : List Eg), l = pre ++ x :: post ∧ (∀ b ∈ pre, b.bn na ids = false) ∧ x.bn na ids = true ∧ EvRO Γ2 78 [.rs p 0 8 l.length c, .func 52 [.ptr qa 0, .ptr qb 0]] st (.int .i64 pre.length)) := by
  have hstart : ∀ (Q : X → (Nat → D) → Store → Prop), ((∀ b ∈ l, b.bn na ids = false) → ∀ ρ', Q (.exit 0) ρ' { st with lim := st.next, tlim := st.ntok }) → (∀ (pre' : List Eg) (x : Eg) (post' : List Eg), l = pre' ++ x :: post' → (∀ b ∈ pre', b.bn na ids = false) → x.bn na ids = true → ∀ ρ', ρ' 4 = .int .i64 pre'.length → Q .ret ρ' { st with lim := st.next, tlim := st.ntok }) →
      ∀ ρ : Nat → D, ρ 0 = .rs p 0 8 l.length c → ρ 1 = .func 52 [.ptr qa 0, .ptr qb 0] → ρ 7 = .int .i64 l.length → ρ 8 = .int .i64 (0 : Nat) → WC Γ2 (.loop c_slices_IndexFunc_Edge_l0) ρ { st with lim := st.next, tlim := st.ntok } Q :=
    fun Q a b ρ e0 e1 e7 e8 => l_eidx na ids hl qa qb ti si hsi l hll { st with lim := st.next, tlim := st.ntok } p c h00 hn0 (hR.of rfl) l [] rfl (by simp) ρ e0 e1 e7 e8 Q a b
  by_cases hall : ∀ b ∈ l, b.bn na ids = false
  · refine .inl ⟨hall, EvRO_code rfl rfl rfl ?_⟩
    repeat' (first
 | (refine I_WS ?_; first
 | (refine I_mov ?_; first
 | refine W_mov (v := .int _ _) rfl rfl rfl ?_
 | refine W_mov (v := .rs _ _ _ _ _) rfl rfl rfl ?_)
 | refine W_lenR rfl rfl rfl ?_
 | refine WS_nil ?_)
 | refine WC_seq ?_
 | refine WC_opsS ?_
 | refine WC_block ?_)
    refine hstart _ (fun _ ρ => ?_) (fun pre' x post' he _ hx => absurd hx (by rw [hall x (by rw [he]; simp)]; decide)) _ rfl rfl rfl rfl
    repeat' (first
 | (refine I_WS ?_; first
 | (refine I_mov ?_; first
 | refine W_mov (v := .int _ _) rfl rfl rfl ?_)
 | refine WS_nil ?_)
 | refine WC_seq ?_
 | refine WC_opsS ?_
 | refine WC_ret ?_)
    exact ⟨.inr rfl, rfl⟩
  · have : ∃ (pre : List Eg) (x : Eg) (post : List Eg), l = pre ++ x :: post ∧ (∀ b ∈ pre, b.bn na ids = false) ∧ x.bn na ids = true := by
      clear hstart hR hll
      induction l with
      | nil => exact absurd (by simp) hall
      | cons b l ih =>
        by_cases hb : b.bn na ids = true
        · exact ⟨[], b, l, rfl, by simp, hb⟩
        · obtain ⟨pre, x, post, h1, h2, h3⟩ := ih (fun h => hall (fun c hc => by
            rcases List.mem_cons.mp hc with rfl | hc
            · exact Bool.not_eq_true _ ▸ hb
            · exact h c hc))
          refine ⟨b :: pre, x, post, by rw [h1]; rfl, fun c hc => ?_, h3⟩
          rcases List.mem_cons.mp hc with rfl | hc
          · exact Bool.not_eq_true _ ▸ hb
          · exact h2 c hc
    obtain ⟨pre, x, post, he, h1, h2⟩ := this
    refine .inr ⟨pre, x, post, he, h1, h2, EvRO_code rfl rfl rfl ?_⟩
    repeat' (first
 | (refine I_WS ?_; first
 | (refine I_mov ?_; first
 | refine W_mov (v := .int _ _) rfl rfl rfl ?_
 | refine W_mov (v := .rs _ _ _ _ _) rfl rfl rfl ?_)
 | refine W_lenR rfl rfl rfl ?_
 | refine WS_nil ?_)
 | refine WC_seq ?_
 | refine WC_opsS ?_
 | refine WC_block ?_)
    refine hstart _ (fun h => absurd h hall) (fun pre' x' post' he' h1' h2' ρ h4 => ?_) _ rfl rfl rfl rfl
    rw [← upd_self h4]
    have : pre' = pre := first_eq (he'.symm.trans he) h1' h2' h1 h2
    subst this
    exact ⟨.inr rfl, rfl⟩
theorem keepL_snoc (na : Int) (ids : List Int) (l : List Eg) (x : Eg) : keepL na ids (l ++ [x]) = if x.bn na ids = true then keepL na ids l else keepL na ids l ++ [x] := by
  unfold keepL
  rw [List.filter_append]
  cases h : x.bn na ids <;> simp [h]
theorem l_del (na : Int) (ids : List Int) (hl : ids.length ≤ 1073741824) (qa qb : Nat) (ti : Tok) (si : Nat) (hsi : si = 1 ∨ ids = []) (l : List Eg) (hll : l.length ≤ 1073741824) (p c : Nat) (hp0 : p ≠ qa ∧ p ≠ qb) : ∀ (post pre junk : List Eg), l = pre ++ post → (keepL na ids pre).length + junk.length = pre.length → junk ≠ [] →
    ∀ (ρ : Nat → D) (st : Store) (h00 : BanB st qa qb na ti si ids) (hn0 : qa < st.next ∧ qb < st.next) (hR : RowIs st p 8 ((keepL na ids pre ++ junk ++ post).map Eg.e)) (h0 : ρ 0 = .rs p 0 8 l.length c) (h1 : ρ 1 = .func 52 [.ptr qa 0, .ptr qb 0]) (h5 : ρ 5 = .int .i64 (keepL na ids pre).length) (h6 : ρ 6 = .int .i64 pre.length) (Q : X → (Nat → D) → Store → Prop),
    (∀ ρ' st' junk', st'.lim = st.lim → RowIs st' p 8 ((keepL na ids l).map Eg.e ++ List.map Eg.e junk') → (keepL na ids l).length + junk'.length = l.length → ρ' 0 = .rs p 0 8 l.length c → ρ' 5 = .int .i64 (keepL na ids l).length → Q (.exit 0) ρ' st') → WC Γ2 (.loop c_slices_DeleteFunc_Edge_l0) ρ st Q := by
  intro post
  induction post with
  | nil =>
    intro pre junk hp hj hj0 ρ st h00 hn0 hR h0 h1 h5 h6 Q hQ
    rw [List.append_nil] at hp
    subst hp
    rw [← upd_self h0, ← upd_self h1, ← upd_self h5, ← upd_self h6]
    refine WC_loop ?_
    repeat' (first
 | (refine I_WS ?_; first
 | (refine I_mov ?_; first
 | refine W_mov (v := .int _ _) rfl rfl rfl ?_
 | refine W_mov (v := .rs _ _ _ _ _) rfl rfl rfl ?_)
 | (refine I_bin ?_; first
 | refine W_lssF rfl rfl rfl rfl (by omega) ?_)
 | refine W_lenR rfl rfl rfl ?_
 | refine WS_nil ?_)
 | refine WC_seq ?_
 | refine WC_opsS ?_
 | refine WC_condF rfl ?_
 | refine WC_exit ?_)
    exact hQ _ _ junk rfl (by simpa using hR) hj rfl rfl
  | cons x post ih =>
    intro pre junk hp hj hj0 ρ st h00 hn0 hR h0 h1 h5 h6 Q hQ
    obtain ⟨y, junk, rfl⟩ := List.exists_cons_of_ne_nil hj0
    have hlen : l.length = pre.length + (post.length + 1) := by rw [hp]; simp
    have hjl : (keepL na ids pre).length + (junk.length + 1) = pre.length := by simpa using hj
    have hv : ((keepL na ids pre ++ y :: junk ++ x :: post).map Eg.e)[pre.length]? = some (.agg [.int .i64 x.id, .int .i64 x.fr, .int .i64 x.to, .int .i64 x.op, .int .i64 x.en, .int .i64 x.ra, .int .i64 x.ow, .int .i64 x.ro]) := by
      refine es_at ?_
      rw [List.getElem?_append_right (by simp; omega)]
      rw [show pre.length - (keepL na ids pre ++ y :: junk).length = 0 by simp; omega]
      rfl
    have hset : ((keepL na ids pre ++ y :: junk ++ x :: post).map Eg.e).set (keepL na ids pre).length (.agg [.int .i64 x.id, .int .i64 x.fr, .int .i64 x.to, .int .i64 x.op, .int .i64 x.en, .int .i64 x.ra, .int .i64 x.ow, .int .i64 x.ro]) = ((keepL na ids pre ++ [x]) ++ (junk ++ [x]) ++ post).map Eg.e := by
      rw [List.append_assoc, List.map_append, List.set_append_right _ _ (by simp)]
      simp [Eg.e]
    have hkl : (keepL na ids pre).length < ((keepL na ids pre ++ y :: junk ++ x :: post).map Eg.e).length := by simp
    have hlim2 : st.lim ≤ st.next := Nat.le_trans hR.1 (Nat.le_of_lt hR.2.1)
    have hne : p ≠ st.next := Nat.ne_of_lt hR.2.1
    rw [← upd_self h0, ← upd_self h1, ← upd_self h5, ← upd_self h6]
    refine WC_loop ?_
    repeat' (first
 | (refine I_WS ?_; first
 | refine W_iaddrR (j := (keepL na ids pre).length) rfl rfl rfl rfl (by omega) ?_
 | (refine I_mov ?_; first
 | refine W_mov (v := .int _ _) rfl rfl rfl ?_
 | refine W_mov (v := .func _ _) rfl rfl rfl ?_
 | refine W_mov (v := .rs _ _ _ _ _) rfl rfl rfl ?_)
 | (refine I_bin ?_; first
 | refine W_lssT rfl rfl rfl rfl (by omega) ?_
 | refine W_add rfl rfl rfl rfl (by first | exact w64 (by omega) | rfl) ?_)
 | (refine I_load ?_; first
 | refine W_loadRow (j := pre.length) rfl rfl hR.at (Nat.zero_add _) cells8 hv rfl ?_
 | refine W_load (agg := true) (d := .agg [_, _, _, _, _, _, _, _]) rfl rfl rfl (bxc rfl) (by first | exact Nat.zero_le _ | assumption | exact Nat.le_trans hlim (Nat.zero_le _) | omega) rfl ?_)
 | (refine I_call ?_; first
 | (refine W_callROB rfl rfl rfl (s_ban na ids hl qa qb ti si hsi _ ((h00.up hn0).up hn0) (lt2 hn0) x) rfl ?_ ?_ <;> intro _))
 | (refine I_store ?_; first
 | (refine W_storeRow (j := (keepL na ids pre).length) rfl rfl rfl (RowIs.of hR hR.1 (Nat.lt_succ_of_lt hR.2.1) ((upd_ne _ _ hne).trans (upd_ne _ _ hne))) (Nat.zero_add _) cells8 hkl rfl rfl rfl ?_ <;> intro st2 e1 e2 e3 e4 e5 hR2 hoth)
 | refine W_store (cs' := [_, _, _, _, _, _, _, _]) rfl rfl (upd_same _ _ _) rfl (by first | exact Nat.zero_le _ | assumption | exact Nat.le_trans hlim (Nat.zero_le _) | omega) rfl rfl rfl ?_)
 | refine W_not rfl rfl rfl ?_
 | refine W_lenR rfl rfl rfl ?_
 | refine W_alloc rfl rfl ?_
 | refine W_iaddrR rfl rfl rfl rfl (by first | decide | omega) ?_
 | refine WS_nil ?_)
 | refine WC_seq ?_
 | refine WC_opsS ?_
 | refine WC_skip ?_
 | refine WC_condT rfl ?_
 | refine WC_condF rfl ?_
 | refine WC_block ?_)
    · rename_i hx
      refine ih (pre ++ [x]) (y :: junk ++ [x]) (by simp [hp]) (by rw [keepL_snoc, if_pos hx]; simp; omega) (by simp) _ _ ((h00.up hn0).up hn0) (lt2 hn0) ?_ rfl rfl (by rw [keepL_snoc, if_pos hx]; rfl) (by rw [List.length_append]; rfl) Q ?_
      · rw [keepL_snoc, if_pos hx]
        have hR' : RowIs st p 8 ((keepL na ids pre ++ (y :: junk ++ [x]) ++ post).map Eg.e) := by simpa using hR
        exact hR'.of hR.1 (Nat.lt_succ_of_lt hR.2.1) ((upd_ne _ _ hne).trans (upd_ne _ _ hne))
      · exact fun ρ' st' junk' a b d e f => hQ ρ' st' junk' a b d e f
    · rename_i hx
      have hx' : ¬ x.bn na ids = true := by rw [hx]; decide
      rw [hset] at hR2
      have hb0 : BanB st2 qa qb na ti si ids := ((h00.up hn0).up hn0).of (hoth qa (Ne.symm hp0.1)) (hoth qb (Ne.symm hp0.2))
      have hn2 : qa < st2.next ∧ qb < st2.next := by rw [e5]; exact lt2 hn0
      refine ih (pre ++ [x]) (junk ++ [x]) (by simp [hp]) (by rw [keepL_snoc, if_neg hx']; simp; omega) (by simp) _ st2 hb0 hn2 ?_ rfl rfl (by rw [keepL_snoc, if_neg hx', List.length_append]; rfl) (by rw [List.length_append]; rfl) Q ?_
      · rw [keepL_snoc, if_neg hx']
        exact hR2
      · exact fun ρ' st' junk' a b d e f => hQ ρ' st' junk' (a.trans e1) b d e f
theorem keepL_all {na : Int} {ids : List Int} {l : List Eg} (h : ∀ b ∈ l, b.bn na ids = false) : keepL na ids l = l := by
  unfold keepL
  rw [List.filter_eq_self]
  exact fun b hb => by rw [h b hb]; rfl
theorem keepL_le (na : Int) (ids : List Int) (l : List Eg) : (keepL na ids l).length ≤ l.length := List.length_filter_le _ _
theorem s_DeleteFunc (na : Int) (ids : List Int) (hl : ids.length ≤ 1073741824) (qa qb : Nat) (ti : Tok) (si : Nat) (hsi : si = 1 ∨ ids = []) (l : List Eg) (hll : l.length ≤ 1073741824) (st : Store) (p : Nat) (hp0 : p ≠ qa ∧ p ≠ qb) (h00 : BanB st qa qb na ti si ids) (hn0 : qa < st.next ∧ qb < st.next) (hR : RowIs st p 8 (l.map Eg.e)) :
    EvRWX Γ2 54 [.rs p 0 8 l.length l.length, .func 52 [.ptr qa 0, .ptr qb 0]] st (fun r st' => r = .rs p 0 8 (keepL na ids l).length l.length ∧ RowIs st' p 8 ((keepL na ids l).map Eg.e) ∧ st'.lim = st.lim) := by
  refine EvRWX_code rfl rfl ?_
  rcases s_IndexFunc na ids hl qa qb ti si hsi l hll st p l.length h00 hn0 hR.at with ⟨hall, hi⟩ | ⟨pre, x, post, he, h1, h2, hi⟩
  · repeat' (first
 | (refine I_WS ?_; first
 | (refine I_mov ?_; first
 | refine W_mov (v := .int _ _) rfl rfl rfl ?_
 | refine W_mov (v := .slice _ _ _) rfl rfl rfl ?_
 | refine W_mov (v := .func _ _) rfl rfl rfl ?_
 | refine W_mov (v := .rs _ _ _ _ _) rfl rfl rfl ?_)
 | (refine I_bin ?_; first
 | refine W_eqlT rfl rfl rfl rfl (by omega) ?_)
 | (refine I_call ?_; first
 | refine W_callRO rfl rfl rfl hi rfl rfl ?_)
 | refine WS_nil ?_)
 | refine WC_seq ?_
 | refine WC_opsS ?_
 | refine WC_condT rfl ?_
 | refine WC_ret ?_)
    exact ⟨.inr rfl, _, rfl, by rw [keepL_all hall]; rfl, by rw [keepL_all hall]; exact hR, rfl⟩
  · have hlen : l.length = pre.length + (post.length + 1) := by rw [he]; simp
    repeat' (first
 | (refine I_WS ?_; first
 | (refine I_mov ?_; first
 | refine W_mov (v := .int _ _) rfl rfl rfl ?_
 | refine W_mov (v := .slice _ _ _) rfl rfl rfl ?_
 | refine W_mov (v := .func _ _) rfl rfl rfl ?_
 | refine W_mov (v := .rs _ _ _ _ _) rfl rfl rfl ?_)
 | (refine I_bin ?_; first
 | refine W_eqlF rfl rfl rfl rfl (by omega) ?_
 | refine W_add rfl rfl rfl rfl (by first | exact w64 (by omega) | rfl) ?_)
 | (refine I_call ?_; first
 | refine W_callRO rfl rfl rfl hi rfl rfl ?_)
 | refine WS_nil ?_)
 | refine WC_seq ?_
 | refine WC_opsS ?_
 | refine WC_skip ?_
 | refine WC_condF rfl ?_
 | refine WC_block ?_)
    have hkp : keepL na ids (pre ++ [x]) = pre := by rw [keepL_snoc, if_pos h2, keepL_all h1]
    refine l_del na ids hl qa qb ti si hsi l hll p l.length hp0 post (pre ++ [x]) [x] (by simp [he]) (by rw [hkp]; simp) (by simp) _ st h00 hn0 (by rw [hkp]; simpa [he] using hR) rfl rfl (by rw [hkp]; rfl) (by rw [List.length_append]; rfl) _ ?_
    intro ρ' st' junk' e1 hR' e2 k0 k5
    have hkl := keepL_le na ids l
    rw [← upd_self k0, ← upd_self k5]
    repeat' (first
 | (refine I_WS ?_; first
 | refine W_sliceRLo (j := (keepL na ids l).length) rfl rfl (by simp [A.ev, upd, asNat]) hkl (Nat.le_refl _) rfl ?_
 | (refine W_clearRow (j := (keepL na ids l).length) (zs := junk'.map Eg.e) rfl rfl hR' (Nat.zero_add _) (by simp) (by simp; omega) cells8 rfl rfl rfl ?_ <;> intro st2 f1 _ _ _ _ hR2 _)
 | refine W_sliceRHi (j := (keepL na ids l).length) rfl rfl (by simp [A.ev, upd, asNat]) hkl rfl ?_
 | (refine I_mov ?_; first
 | refine W_mov (v := .int _ _) rfl rfl rfl ?_
 | refine W_mov (v := .rs _ _ _ _ _) rfl rfl rfl ?_)
 | refine WS_nil ?_)
 | refine WC_seq ?_
 | refine WC_opsS ?_
 | refine WC_ret ?_)
    exact ⟨.inr rfl, _, rfl, rfl, hR2, f1.trans e1⟩
end Go.Lea
/-
  Plain laws of the best route, for the statements.
-/
namespace Go.Lea
open Go.Ev
variable {l : List Eg} {fr to now by' sz : Int} {shut : List Int}
theorem BestR.route {es : List Eg} {a : Int} (h : BestR l fr to now sz by' shut es a) : IsRoute l fr to now sz es a := ⟨(ask_to h.at_).1, h.way, h.nd⟩
theorem cmpI_lt {a b : Int} (h : a < b) : cmpI a b = -1 := if_pos h
theorem cmpI_self (a : Int) : cmpI a a = 0 := by unfold cmpI; rw [if_neg (Int.lt_irrefl _), if_neg (Int.lt_irrefl _)]
theorem cmpR_a {h h' : List Hp} {a a' : Int} (e : a < a') : cmpR h a h' a' = -1 := by
  unfold cmpR
  rw [cmpI_lt e]
  rfl
theorem cmpR_n {h h' : List Hp} {a : Int} (e : h.length < h'.length) : cmpR h a h' a = -1 := by
  unfold cmpR
  rw [cmpI_self, cmpI_lt (by omega)]
  rfl
theorem cmpR_l {h h' : List Hp} {a : Int} (e : h.length = h'.length) : cmpR h a h' a = lexI (h.map Hp.id) (h'.map Hp.id) := by
  unfold cmpR
  rw [cmpI_self, e, cmpI_self]
  simp only [orI, if_true]
  split
  · rename_i h0; rw [h0]
  · rfl
theorem lexI_anti : ∀ a b : List Int, lexI a b = - lexI b a
  | [], [] => rfl
  | [], _ :: _ => rfl
  | _ :: _, [] => rfl
  | a :: xs, b :: ys => by
    rw [lexI, lexI]
    by_cases h : a < b
    · rw [if_pos h, if_neg (by omega), if_pos h]
    · rw [if_neg h]
      by_cases h' : b < a
      · rw [if_pos h', if_pos h']; rfl
      · rw [if_neg h', if_neg h', if_neg h, lexI_anti xs ys]
theorem BestR.same {es es' : List Eg} {a a' : Int} (h : BestR l fr to now sz by' shut es a) (h' : BestR l fr to now sz by' [] es' a') (ho : ∀ e ∈ es', e.to ∉ shut) : es = es' ∧ a = a' := by
  have h1 := h.best es' a' h'.way h'.nd ho
  have h2 := h'.best es a h.way h.nd (by simp)
  rcases h1 with h1 | ⟨h1, h3⟩
  · rcases h2 with h2 | ⟨h2, _⟩ <;> omega
  · subst h1
    rcases h2 with h2 | ⟨_, h4⟩
    · omega
    · rcases h3 with h3 | ⟨h3, h5⟩
      · rcases h4 with h4 | ⟨h4, _⟩ <;> omega
      · rcases h4 with h4 | ⟨_, h6⟩
        · omega
        · rcases h5 with h5 | h5
          · exact ⟨h5, rfl⟩
          · rcases h6 with h6 | h6
            · exact ⟨h6.symm, rfl⟩
            · rw [lexI_anti, h6] at h5
              cases h5
end Go.Lea
/-
  Plain laws of the best way on.
-/
namespace Go.Lea
open Go.Ev
def spurL (l : List Eg) (bans : List Int) (n : Int) : List Eg := l.filter (fun e => !(decide (e.fr = n) && decide (e.id ∈ bans)))
theorem mem_spurL {l : List Eg} {bans : List Int} {n : Int} {e : Eg} : e ∈ spurL l bans n ↔ e ∈ l ∧ ¬ (e.fr = n ∧ e.id ∈ bans) := by
  unfold spurL
  rw [List.mem_filter, Bool.not_eq_true', Bool.and_eq_false_iff, decide_eq_false_iff_not, decide_eq_false_iff_not]
  constructor
  · rintro ⟨h1, h2⟩
    exact ⟨h1, fun h => h2.elim (fun h3 => h3 h.1) (fun h3 => h3 h.2)⟩
  · rintro ⟨h1, h2⟩
    refine ⟨h1, ?_⟩
    by_cases h3 : e.fr = n
    · exact .inr (fun h4 => h2 ⟨h3, h4⟩)
    · exact .inl h3
theorem spurL_RL {l : List Eg} (h : RL l) (bans : List Int) (n : Int) : RL (spurL l bans n) := ⟨fun e he => h.1 e (mem_spurL.1 he).1, h.2.filter _⟩
def endW (fr : Int) (es : List Eg) : Int := ((nodesW fr es)[(nodesW fr es).length - 1]?).getD fr
def spurM (l : List Eg) (root bans : List Int) (fr to now sz by' : Int) : Option (List Eg × Int) :=
  if walkM l root fr now sz = none then none else match stepsM l root fr with
    | none => none
    | some es => if (nodesW fr es).Nodup then (bestM (spurL l bans (endW fr es)) (endW fr es) to (lastA now (hopsW sz es now)) sz by' (nodesW fr es)).map (fun p => (es ++ p.1, p.2)) else none
structure SpurIn (l : List Eg) (root bans : List Int) (fr to now sz by' : Int) (es : List Eg) (u : Int) : Prop where
  route : IsRoute l fr to now sz es u
  le : u ≤ by'
  pre : ∃ r, es.map Eg.id = root ++ r
  ban : ∀ k, (es.map Eg.id)[root.length]? = some k → k ∉ bans
variable {l : List Eg} {root bans : List Int} {fr to now sz by' : Int}
theorem nodesW_app (n : Int) (a b : List Eg) : nodesW n (a ++ b) = nodesW n a ++ b.map Eg.to := by simp [nodesW]
theorem hopsW_app {n t m u : Int} {a : List Eg} (h : Way sz l n t a m u) (b : List Eg) : hopsW sz (a ++ b) t = hopsW sz a t ++ hopsW sz b u := by
  induction h with
  | nil => rfl
  | cons he hf hp h ih =>
    rename_i n t m u e es
    show _ :: hopsW sz (es ++ b) _ = _ :: (hopsW sz es _ ++ _)
    rw [ih]
theorem way_from {n t m u : Int} {es : List Eg} (h : Way sz l n t es m u) : ∀ e ∈ es, e.fr ∈ nodesW n es := by
  induction h with
  | nil => intro e he; cases he
  | cons he hf hp h ih =>
    rename_i n t m u e es
    intro e' he'
    rcases List.mem_cons.1 he' with rfl | he'
    · rw [hf]; exact List.mem_cons_self
    · exact List.mem_cons_of_mem _ (ih e' he')
theorem way_ask (ha : AskC l fr now sz) {es : List Eg} {m u : Int} (h : Way sz l fr now es m u) : AskC l m u sz := by
  have hr := h.reach (shut := []) (by simp) (.here (fr := fr) (now := now))
  have h0 := h.ge
  exact ⟨reach_node ha.1 hr, ha.2.1, ⟨by have := ha.2.2.1.1; omega, reach_top ha.2.2.1.2 hr⟩, ha.2.2.2⟩
theorem end_of {es : List Eg} {m u : Int} (h : Way sz l fr now es m u) : endW fr es = m := by
  unfold endW
  rw [chain_end h.chain]
  rfl
theorem spur_parts {es : List Eg} {a : Int} (h : spurM l root bans fr to now sz by' = some (es, a)) : ∃ es0 m u es1, es = es0 ++ es1 ∧ es0.map Eg.id = root ∧ AskC l fr now sz ∧ stepsM l root fr = some es0 ∧ Way sz l fr now es0 m u ∧ (nodesW fr es0).Nodup ∧ bestM (spurL l bans m) m to u sz by' (nodesW fr es0) = some (es1, a) := by
  unfold spurM at h
  split at h
  · cases h
  · rename_i hw
    obtain ⟨hs, hw⟩ : ∃ x, walkM l root fr now sz = some x := by
      cases hx : walkM l root fr now sz with
      | none => exact absurd hx hw
      | some x => exact ⟨x, rfl⟩
    obtain ⟨ha, es0, m, u, h1, h2, h3, rfl⟩ := walk_way.1 hw
    rw [h1] at h
    simp only at h
    split at h
    · rename_i hnd
      obtain ⟨⟨es1, a1⟩, h4, h5⟩ := Option.map_eq_some_iff.1 h
      cases h5
      rw [end_of h3, h3.hops.2] at h4
      exact ⟨es0, m, u, es1, rfl, h2, ha, h1, h3, hnd, h4⟩
    · cases h
theorem spur_make {es0 : List Eg} {m u : Int} (hid : es0.map Eg.id = root) (ha : AskC l fr now sz) (hw : Way sz l fr now es0 m u) (hnd : (nodesW fr es0).Nodup) : spurM l root bans fr to now sz by' = (bestM (spurL l bans m) m to u sz by' (nodesW fr es0)).map (fun p => (es0 ++ p.1, p.2)) := by
  have hs : stepsM l root fr = some es0 := by rw [← hid]; exact chain_steps ha.2.2.2 hw.chain
  have hwk : walkM l root fr now sz = some (hopsW sz es0 now) := walk_way.2 ⟨ha, es0, m, u, hs, hid, hw, rfl⟩
  unfold spurM
  rw [hwk, if_neg (by simp), hs]
  simp only
  rw [if_pos hnd, end_of hw, hw.hops.2]
theorem spur_in {es : List Eg} {a : Int} (h : spurM l root bans fr to now sz by' = some (es, a)) : SpurIn l root bans fr to now sz by' es a := by
  obtain ⟨es0, m, u, es1, rfl, hid, ha, hs, hw, hnd, hb⟩ := spur_parts h
  have hB := best_some hb
  have hw1 : Way sz l m u es1 to a := hB.way.sub (fun e he => (mem_spurL.1 (hB.way.mem e he)).1)
  refine ⟨⟨ha, hw.trans hw1, ?_⟩, hB.le, ⟨es1.map Eg.id, by rw [List.map_append, hid]⟩, fun k hk => ?_⟩
  · rw [nodesW_app, List.nodup_append]
    refine ⟨hnd, (List.nodup_cons.1 hB.nd).2, fun x hx y hy e => ?_⟩
    subst e
    obtain ⟨e, he, rfl⟩ := List.mem_map.1 hy
    exact hB.op e he hx
  · have hl : root.length = es0.length := by rw [← hid, List.length_map]
    rw [List.map_append, List.getElem?_append_right (by rw [List.length_map]; omega), List.length_map, hl, Nat.sub_self] at hk
    cases es1 with
    | nil => cases hk
    | cons x r =>
      have hk : some x.id = some k := hk
      cases hk
      cases hB.way with
      | cons he hf hp h => exact fun hb => (mem_spurL.1 he).2 ⟨hf, hb⟩
theorem spur_split {es : List Eg} {u : Int} (h : SpurIn l root bans fr to now sz by' es u) : ∃ es0 m v es1, es = es0 ++ es1 ∧ es0.map Eg.id = root ∧ Way sz l fr now es0 m v ∧ (nodesW fr es0).Nodup ∧ Way sz (spurL l bans m) m v es1 to u ∧ (nodesW m es1).Nodup ∧ (∀ e ∈ es1, e.to ∉ nodesW fr es0) := by
  obtain ⟨r, hr⟩ := h.pre
  have hl : root.length ≤ es.length := by
    have := congrArg List.length hr
    rw [List.length_map, List.length_append] at this
    omega
  have hsp : es = es.take root.length ++ es.drop root.length := (List.take_append_drop _ _).symm
  have hid : (es.take root.length).map Eg.id = root := by
    rw [List.map_take, hr, List.take_left']
    rfl
  have hbn := h.ban
  have hnd := h.route.nd
  have hwy := h.route.way
  generalize hA : es.take root.length = es0 at *
  generalize hB : es.drop root.length = es1 at *
  rw [hsp] at hbn hnd hwy
  obtain ⟨m, v, hw0, hw1⟩ := hwy.split
  rw [nodesW_app, List.nodup_append] at hnd
  obtain ⟨n1, n2, n3⟩ := hnd
  have hm : m ∈ nodesW fr es0 := way_end hw0
  have hop : ∀ e ∈ es1, e.to ∉ nodesW fr es0 := fun e he hin => n3 _ hin _ (List.mem_map.2 ⟨e, he, rfl⟩) rfl
  have hnd1 : (nodesW m es1).Nodup := List.nodup_cons.2 ⟨fun hin => by
    obtain ⟨e, he, h2⟩ := List.mem_map.1 hin
    exact hop e he (by rw [h2]; exact hm), n2⟩
  refine ⟨es0, m, v, es1, hsp, hid, hw0, n1, hw1.sub (fun e he => ?_), hnd1, hop⟩
  refine mem_spurL.2 ⟨hw1.mem e he, fun ⟨hf, hb⟩ => ?_⟩
  have hl0 : root.length = es0.length := by rw [← hid, List.length_map]
  cases es1 with
  | nil => cases he
  | cons x r' =>
    rcases List.mem_cons.1 he with rfl | he
    · refine hbn e.id ?_ hb
      rw [List.map_append, List.getElem?_append_right (by rw [List.length_map]; omega), List.length_map, hl0, Nat.sub_self]
      rfl
    · cases hw1 with
      | cons he' hf' hp' h' =>
        have := way_from h' e he
        rw [hf] at this
        exact (List.nodup_cons.1 hnd1).1 this
theorem spur_ex {es : List Eg} {u : Int} (h : SpurIn l root bans fr to now sz by' es u) : ∃ es' a, spurM l root bans fr to now sz by' = some (es', a) := by
  obtain ⟨es0, m, v, es1, rfl, hid, hw0, n1, hw1, n2, hop⟩ := spur_split h
  have ha := h.route.ask
  have hm := way_ask ha hw0
  have hm' : AskC (spurL l bans m) m v sz := ⟨hm.1, hm.2.1, hm.2.2.1, spurL_RL hm.2.2.2 _ _⟩
  obtain ⟨es', a, hb⟩ := best_ex hm' hw1 hop h.le
  rw [spur_make hid ha hw0 n1, hb]
  exact ⟨_, _, rfl⟩
theorem spur_best {es : List Eg} {a : Int} (h : spurM l root bans fr to now sz by' = some (es, a)) {es' : List Eg} {u' : Int} (h' : SpurIn l root bans fr to now sz by' es' u') : cmpR (hopsW sz es now) a (hopsW sz es' now) u' = -1 ∨ (cmpR (hopsW sz es now) a (hopsW sz es' now) u' = 0 ∧ es = es' ∧ a = u') := by
  obtain ⟨es0, m, u, es1, rfl, hid, ha, hs, hw, hnd, hb⟩ := spur_parts h
  obtain ⟨es0', m', v, es1', rfl, hid', hw0, n1, hw1, n2, hop⟩ := spur_split h'
  have e0 : es0' = es0 := by
    have h1 := chain_steps ha.2.2.2 hw0.chain
    rw [hid', hs] at h1
    cases h1
    rfl
  subst e0
  obtain ⟨rfl, rfl⟩ := hw.inj hw0
  have hB := best_some hb
  have hlen : ∀ x : List Eg, (hopsW sz (es0' ++ x) now).length = es0'.length + x.length := fun x => by rw [hopsW_len, List.length_append]
  rcases hB.best es1' u' hw1 n2 hop with h1 | ⟨rfl, h1 | ⟨h1, h2 | h2⟩⟩
  · exact .inl (cmpR_a h1)
  · exact .inl (cmpR_n (by rw [hlen, hlen]; omega))
  · subst h2
    exact .inr ⟨by rw [cmpR_l rfl, lexI_refl], rfl, rfl⟩
  · refine .inl ?_
    rw [cmpR_l (by rw [hlen, hlen]; omega), hopsW_ids, hopsW_ids, List.map_append, List.map_append, lexI_app]
    exact h2
end Go.Lea
/-
  The best way on, as the code finds it: its loops.
-/
namespace Go.Lea
open Go.Ev
set_option maxHeartbeats 4000000 in
theorem s_WalkF (l : List Eg) (hll : l.length ≤ 1073741824) (ids : List Int) (hil : ids.length ≤ 1073741824) (fr now sz : Int) (h : List Hp) (hw : walkM l ids fr now sz = some h) (t : Tok) (s : Nat) (hs : s = 8 ∨ l = []) (t' : Tok) (s' : Nat) (hs' : s' = 1 ∨ ids = []) :
    EvX Γ 48 [.slice t s (l.map Eg.e), .slice t' s' (ids.map (D.int .i64)), .int .i64 fr, .int .i64 now, .int .i64 sz] (IsTF Hp.e 3 h [.bool true]) := by
  refine EvX_code rfl rfl ?_
  unfold walkM at hw
  split at hw
  · rename_i ha
    obtain ⟨m, hm, hh⟩ := Option.bind_eq_some_iff.mp hw
    have hml := steps_len l ids fr m hm
    have hS := fun t t' => s_steps1 l hll ids hil fr m hm t s hs t' s' hs'
    have hA := fun t => s_pasked l hll fr now sz t s hs
    rw [decide_eq_true ha] at hA
    repeat' (first
 | (refine I_WS ?_; first
 | refine W_lenM rfl rfl rfl ?_
 | (refine I_mov ?_; first
 | refine W_mov (v := .int _ _) rfl rfl rfl ?_
 | refine W_mov (v := .bool _) rfl rfl rfl ?_
 | refine W_mov (v := .slice _ _ _) rfl rfl rfl ?_
 | refine W_mov (v := .tuple _) rfl rfl rfl ?_)
 | (refine I_call ?_; first
 | refine W_call rfl rfl rfl (hA _) rfl rfl ?_
 | (refine W_callT rfl rfl rfl (hS _ _) rfl ?_; intro tm sm hsm tk2 nt2))
 | (refine I_pick ?_; first
 | refine W_pick (v := .bool _) rfl rfl rfl rfl ?_)
 | (refine I_extract ?_; first
 | refine W_extract (d := .bool _) rfl rfl rfl rfl ?_
 | refine W_extract (d := .slice _ _ _) rfl rfl rfl rfl ?_)
 | refine W_not rfl rfl rfl ?_
 | refine WS_nil ?_)
 | refine WC_seq ?_
 | refine WC_opsS ?_
 | refine WC_skip ?_
 | refine WC_condF rfl ?_
 | refine WC_block ?_)
    refine l_walk sz m (by omega) tm sm hsm m [] rfl _ _ now [] .isnil 0 (Nat.le_refl _) (Nat.le_refl _) (Nat.zero_le _) (.inl ⟨.inl rfl, .inr ⟨rfl, rfl⟩⟩) ?_ ?_ ?_ ?_ ?_ ?_ _ (fun h' hh' ρ' st' tk so hO h14 => ?_) (fun hh' => by rw [hh] at hh'; cases hh')
    all_goals first | rfl | skip
    rw [hh] at hh'
    cases hh'
    rw [List.nil_append] at hO h14
    rw [← upd_self h14]
    repeat' (first
 | (refine I_WS ?_; first
 | (refine I_mov ?_; first
 | refine W_mov (v := .bool _) rfl rfl rfl ?_
 | refine W_mov (v := .slice _ _ _) rfl rfl rfl ?_)
 | refine WS_nil ?_)
 | refine WC_seq ?_
 | refine WC_opsS ?_
 | refine WC_ret ?_)
    exact finX_TF (us := [.bool true]) (.inr rfl) rfl rfl hO rfl rfl
  · cases hw
set_option maxHeartbeats 8000000 in
theorem l_shad (ns : List Int) (hnl : ns.length ≤ 1000000) (t : Tok) (s : Nat) (hs : s = 1 ∨ ns = []) (p q0 : Nat) (v0 v4 v5 v6 v7 v10 v18 v20 : D) : ∀ (post pre : List Int), ns = pre ++ post → pre.Nodup → ∀ (kv : List (Int × D)), KVC kv (clS pre) → ∀ (ρ : Nat → D) (st : Store) (z : List D), st.lim ≤ 0 → p ≠ q0 → st.boxes p = some (.map kv) → st.boxes q0 = some (.cells z) → z.length = 2 →
    ρ 0 = v0 → ρ 4 = v4 → ρ 5 = v5 → ρ 6 = v6 → ρ 7 = v7 → ρ 10 = v10 → ρ 18 = v18 → ρ 20 = v20 → ρ 16 = .ptr q0 0 → ρ 22 = .map p → ρ 50 = .slice t s (ns.map (D.int .i64)) → ρ 51 = .int .i64 ns.length → ρ 52 = .int .i64 pre.length → ∀ (Q : X → (Nat → D) → Store → Prop),
    (ns.Nodup → ∀ ρ' st', st'.lim = st.lim → st'.next = st.next → st'.tlim = st.tlim → st'.toks = st.toks → st'.ntok = st.ntok → (∀ q, q ≠ p → st'.boxes q = st.boxes q) → ρ' 0 = v0 → ρ' 4 = v4 → ρ' 5 = v5 → ρ' 6 = v6 → ρ' 7 = v7 → ρ' 10 = v10 → ρ' 18 = v18 → ρ' 20 = v20 → ρ' 16 = .ptr q0 0 → Q (.exit 0) ρ' st') → (¬ ns.Nodup → ∀ ρ' st', st'.lim = st.lim → st'.boxes q0 = some (.cells [.slice .isnil 0 [], .int .i64 0]) → ρ' 16 = .ptr q0 0 → ρ' 17 = .bool false → Q .ret ρ' st') → WC Γ2 (.loop c_spur_Route_l0) ρ st Q := by
  intro post
  induction post with
  | nil =>
    intro pre hpp hpn kv hk ρ st z hlim hpq hb hb0 hz2 h0 h4 h5 h6 h7 h10 h18 h20 h16 h22 h50 h51 h52 Q hQ hQ2
    rw [List.append_nil] at hpp
    subst hpp
    rw [← upd_self h0, ← upd_self h4, ← upd_self h5, ← upd_self h6, ← upd_self h7, ← upd_self h10, ← upd_self h18, ← upd_self h20, ← upd_self h16, ← upd_self h22, ← upd_self h50, ← upd_self h51, ← upd_self h52]
    refine WC_loop ?_
    repeat' (first
 | (refine I_WS ?_; first
 | (refine I_bin ?_; first
 | refine W_lssF rfl rfl rfl rfl (by omega) ?_)
 | refine WS_nil ?_)
 | refine WC_seq ?_
 | refine WC_opsS ?_
 | refine WC_condF rfl ?_
 | refine WC_exit ?_)
    exact hQ hpn _ _ rfl rfl rfl rfl rfl (fun _ _ => rfl) rfl rfl rfl rfl rfl rfl rfl rfl rfl
  | cons x post ih =>
    intro pre hpp hpn kv hk ρ st z hlim hpq hb hb0 hz2 h0 h4 h5 h6 h7 h10 h18 h20 h16 h22 h50 h51 h52 Q hQ hQ2
    have hv := in_mid hpp
    have hlen : ns.length = pre.length + (post.length + 1) := by rw [hpp]; simp
    have hz : s = 1 := hs.resolve_right (by rintro rfl; simp at hlen)
    subst hz
    have hpl : pre.length < (ns.map (D.int .i64)).length := by simp; omega
    have hltl : (pre.length : Int) < ns.length := by omega
    have hl0 : st.lim ≤ q0 := by omega
    have hlp : st.lim ≤ p := by omega
    obtain ⟨z0, z1, rfl⟩ : ∃ a b, z = [a, b] := by
      match z, hz2 with
      | [a, b], _ => exact ⟨a, b, rfl⟩
    by_cases hx : x ∈ pre
    · have hg : (kvGet x kv).getD (.bool false) = .bool true := by rw [hk x]; simp [clS, hx]
      have hbad : ¬ ns.Nodup := fun h => by
        rw [hpp] at h
        exact (List.nodup_append.1 h).2.2 x hx x List.mem_cons_self rfl
      have hQ2 := hQ2 hbad
      clear ih hQ hpp hbad
      rw [← upd_self h0, ← upd_self h4, ← upd_self h5, ← upd_self h6, ← upd_self h7, ← upd_self h10, ← upd_self h18, ← upd_self h20, ← upd_self h16, ← upd_self h22, ← upd_self h50, ← upd_self h51, ← upd_self h52]
      refine WC_loop ?_
      repeat' (first
 | (refine I_WS ?_; first
 | refine W_iaddr (j := pre.length) rfl rfl rfl rfl rfl hpl ?_
 | refine W_lookup rfl rfl rfl hb hg rfl ?_
 | refine W_store (cs' := [_, _]) rfl rfl hb0 rfl hl0 rfl rfl rfl ?_
 | (refine I_mov ?_; first
 | refine W_mov (v := .int _ _) rfl rfl rfl ?_
 | refine W_mov (v := .bool _) rfl rfl rfl ?_
 | refine W_mov (v := .map _) rfl rfl rfl ?_)
 | (refine I_bin ?_; first
 | refine W_lssT rfl rfl rfl rfl (by omega) ?_)
 | (refine I_load ?_; first
 | refine W_loadE (agg := false) (d := .int _ _) rfl rfl rfl hv rfl ?_)
 | (refine I_build ?_; first
 | refine W_build (cs := [_, _]) rfl rfl rfl ?_)
 | refine WS_nil ?_)
 | refine WC_seq ?_
 | refine WC_opsS ?_
 | refine WC_skip ?_
 | refine WC_condT rfl ?_
 | refine WC_block ?_
 | refine WC_ret ?_)
      refine hQ2 _ _ ?_ ?_ ?_ ?_
      · rfl
      · exact upd_same _ _ _
      all_goals rfl
    · have hg : (kvGet x kv).getD (.bool false) = .bool false := by rw [hk x]; simp [clS, hx]
      have hpn2 : (pre ++ [x]).Nodup := by
        rw [List.nodup_append]
        exact ⟨hpn, by simp, fun a ha b hb e => hx (by rw [List.mem_singleton.1 hb] at e; rw [← e]; exact ha)⟩
      have hnext : ∀ (ρ' : Nat → D) (st' : Store), st'.lim = st.lim → st'.next = st.next → st'.tlim = st.tlim → st'.toks = st.toks → st'.ntok = st.ntok → (∀ q, q ≠ p → st'.boxes q = st.boxes q) → st'.boxes p = some (.map (kvSet x (.bool true) kv)) → ρ' 0 = v0 → ρ' 4 = v4 → ρ' 5 = v5 → ρ' 6 = v6 → ρ' 7 = v7 → ρ' 10 = v10 → ρ' 18 = v18 → ρ' 20 = v20 → ρ' 16 = .ptr q0 0 → ρ' 22 = .map p → ρ' 50 = .slice t 1 (ns.map (D.int .i64)) → ρ' 51 = .int .i64 ns.length → ρ' 52 = .int .i64 ((pre.length : Int) + 1) → WC Γ2 (.loop c_spur_Route_l0) ρ' st' Q := fun ρ' st' e1 e2 e3 e4 e5 e7 e6 k0 k4 k5 k6 k7 k10 k18 k20 k16 k22 k50 k51 k52 =>
        ih (pre ++ [x]) (by simp [hpp]) hpn2 _ (hk.set x) ρ' st' [z0, z1] (by omega) hpq e6 ((e7 q0 (Ne.symm hpq)).trans hb0) rfl k0 k4 k5 k6 k7 k10 k18 k20 k16 k22 k50 k51 (by rw [List.length_append]; exact k52) Q
          (fun h ρ'' st'' f1 f2 f3 f4 f5 f6 => hQ h ρ'' st'' (f1.trans e1) (f2.trans e2) (f3.trans e3) (f4.trans e4) (f5.trans e5) (fun q hq => (f6 q hq).trans (e7 q hq))) (fun h ρ'' st'' f1 => hQ2 h ρ'' st'' (f1.trans e1))
      clear ih hQ hQ2 hpp
      rw [← upd_self h0, ← upd_self h4, ← upd_self h5, ← upd_self h6, ← upd_self h7, ← upd_self h10, ← upd_self h18, ← upd_self h20, ← upd_self h16, ← upd_self h22, ← upd_self h50, ← upd_self h51, ← upd_self h52]
      refine WC_loop ?_
      repeat' (first
 | (refine I_WS ?_; first
 | refine W_iaddr (j := pre.length) rfl rfl rfl rfl rfl hpl ?_
 | refine W_lookup rfl rfl rfl hb hg rfl ?_
 | refine W_mapset (v := .bool true) rfl rfl rfl hb hlp rfl rfl ?_
 | (refine I_mov ?_; first
 | refine W_mov (v := .int _ _) rfl rfl rfl ?_
 | refine W_mov (v := .map _) rfl rfl rfl ?_)
 | (refine I_bin ?_; first
 | refine W_lssT rfl rfl rfl rfl (by omega) ?_
 | refine W_add rfl rfl rfl rfl (by first | exact w64 (by omega) | rfl) ?_)
 | (refine I_load ?_; first
 | refine W_loadE (agg := false) (d := .int _ _) rfl rfl rfl hv rfl ?_)
 | refine WS_nil ?_)
 | refine WC_seq ?_
 | refine WC_opsS ?_
 | refine WC_skip ?_
 | refine WC_condT rfl ?_
 | refine WC_condF rfl ?_
 | refine WC_block ?_)
      refine hnext _ _ rfl rfl rfl rfl rfl (fun q hq => upd_ne _ _ hq) (upd_same _ _ _) ?_ ?_ ?_ ?_ ?_ ?_ ?_ ?_ ?_ ?_ ?_ ?_ ?_ <;> rfl
set_option maxHeartbeats 8000000 in
theorem l_sarr (hs : List Hp) (hll : hs.length ≤ 1000000) (now : Int) (t : Tok) (s : Nat) (hsz : s = 3 ∨ hs = []) (v0 v4 v6 v7 v10 v16 v18 v20 v25 : D) : ∀ (post pre : List Hp), hs = pre ++ post → ∀ (ρ : Nat → D) (st : Store), st.lim ≤ 0 →
    ρ 0 = v0 → ρ 4 = v4 → ρ 6 = v6 → ρ 7 = v7 → ρ 10 = v10 → ρ 16 = v16 → ρ 18 = v18 → ρ 20 = v20 → ρ 25 = v25 → ρ 5 = .int .i64 (lastA now pre) → ρ 69 = .slice t s (hs.map Hp.e) → ρ 70 = .int .i64 hs.length → ρ 71 = .int .i64 pre.length → ∀ (Q : X → (Nat → D) → Store → Prop),
    (∀ ρ' st', st'.lim = st.lim → st.next ≤ st'.next → st'.tlim = st.tlim → st'.toks = st.toks → st'.ntok = st.ntok → (∀ q, q < st.next → st'.boxes q = st.boxes q) → ρ' 0 = v0 → ρ' 4 = v4 → ρ' 6 = v6 → ρ' 7 = v7 → ρ' 10 = v10 → ρ' 16 = v16 → ρ' 18 = v18 → ρ' 20 = v20 → ρ' 25 = v25 → ρ' 5 = .int .i64 (lastA now hs) → Q (.exit 2) ρ' st') → WC Γ2 (.loop c_spur_Route_l1) ρ st Q := by
  intro post
  induction post with
  | nil =>
    intro pre hpp ρ st hlim h0 h4 h6 h7 h10 h16 h18 h20 h25 h5 h69 h70 h71 Q hQ
    rw [List.append_nil] at hpp
    subst hpp
    rw [← upd_self h0, ← upd_self h4, ← upd_self h6, ← upd_self h7, ← upd_self h10, ← upd_self h16, ← upd_self h18, ← upd_self h20, ← upd_self h25, ← upd_self h5, ← upd_self h69, ← upd_self h70, ← upd_self h71]
    refine WC_loop ?_
    repeat' (first
 | (refine I_WS ?_; first
 | (refine I_bin ?_; first
 | refine W_lssF rfl rfl rfl rfl (by omega) ?_)
 | refine WS_nil ?_)
 | refine WC_seq ?_
 | refine WC_opsS ?_
 | refine WC_condF rfl ?_
 | refine WC_exit ?_)
    refine hQ _ _ rfl (Nat.le_refl _) rfl rfl rfl (fun _ _ => rfl) ?_ ?_ ?_ ?_ ?_ ?_ ?_ ?_ ?_ ?_ <;> rfl
  | cons x post ih =>
    intro pre hpp ρ st hlim h0 h4 h6 h7 h10 h16 h18 h20 h25 h5 h69 h70 h71 Q hQ
    have hv := hp_mid hpp
    have hlen : hs.length = pre.length + (post.length + 1) := by rw [hpp]; simp
    have hz : s = 3 := hsz.resolve_right (by rintro rfl; simp at hlen)
    subst hz
    have hpl : pre.length < (hs.map Hp.e).length := by simp; omega
    have hltl : (pre.length : Int) < hs.length := by omega
    have hlim2 : st.lim ≤ st.next := by omega
    have hla : lastA now (pre ++ [x]) = x.ar := by simp [lastA]
    have hnext : ∀ (ρ' : Nat → D) (st' : Store), st'.lim = st.lim → st.next ≤ st'.next → st'.tlim = st.tlim → st'.toks = st.toks → st'.ntok = st.ntok → (∀ q, q < st.next → st'.boxes q = st.boxes q) → ρ' 0 = v0 → ρ' 4 = v4 → ρ' 6 = v6 → ρ' 7 = v7 → ρ' 10 = v10 → ρ' 16 = v16 → ρ' 18 = v18 → ρ' 20 = v20 → ρ' 25 = v25 → ρ' 5 = .int .i64 x.ar → ρ' 69 = .slice t 3 (hs.map Hp.e) → ρ' 70 = .int .i64 hs.length → ρ' 71 = .int .i64 ((pre.length : Int) + 1) → WC Γ2 (.loop c_spur_Route_l1) ρ' st' Q := fun ρ' st' e1 e2 e3 e4 e5 e6 k0 k4 k6 k7 k10 k16 k18 k20 k25 k5 k69 k70 k71 =>
      ih (pre ++ [x]) (by simp [hpp]) ρ' st' (by omega) k0 k4 k6 k7 k10 k16 k18 k20 k25 (by rw [hla]; exact k5) k69 k70 (by rw [List.length_append]; exact k71) Q
        (fun ρ'' st'' f1 f2 f3 f4 f5 f6 => hQ ρ'' st'' (f1.trans e1) (Nat.le_trans e2 f2) (f3.trans e3) (f4.trans e4) (f5.trans e5) (fun q hq => (f6 q (Nat.lt_of_lt_of_le hq e2)).trans (e6 q hq)))
    clear ih hQ hpp
    rw [← upd_self h0, ← upd_self h4, ← upd_self h6, ← upd_self h7, ← upd_self h10, ← upd_self h16, ← upd_self h18, ← upd_self h20, ← upd_self h25, ← upd_self h5, ← upd_self h69, ← upd_self h70, ← upd_self h71]
    refine WC_loop ?_
    repeat' (first
 | (refine I_WS ?_; first
 | refine W_iaddr (j := pre.length) rfl rfl rfl rfl rfl hpl ?_
 | refine W_store (cs' := [_, _, _]) rfl rfl (upd_same _ _ _) rfl hlim2 rfl rfl rfl ?_
 | (refine I_mov ?_; first
 | refine W_mov (v := .int _ _) rfl rfl rfl ?_)
 | (refine I_bin ?_; first
 | refine W_lssT rfl rfl rfl rfl (by omega) ?_
 | refine W_add rfl rfl rfl rfl (by first | exact w64 (by omega) | rfl) ?_)
 | (refine I_load ?_; first
 | refine W_loadE (agg := true) (d := .agg [_, _, _]) rfl rfl rfl hv rfl ?_
 | refine W_load (agg := false) (d := .int _ _) rfl rfl rfl (bxc rfl) hlim2 rfl ?_)
 | refine W_faddr rfl rfl rfl ?_
 | refine W_alloc rfl rfl ?_
 | refine WS_nil ?_)
 | refine WC_seq ?_
 | refine WC_opsS ?_
 | refine WC_skip ?_
 | refine WC_condT rfl ?_
 | refine WC_block ?_)
    refine hnext _ _ rfl (Nat.le_succ _) rfl rfl rfl (fun q hq => (upd_ne _ _ (Nat.ne_of_lt hq)).trans (upd_ne _ _ (Nat.ne_of_lt hq))) ?_ ?_ ?_ ?_ ?_ ?_ ?_ ?_ ?_ ?_ ?_ ?_ ?_ <;> rfl
theorem s_IndexFunc0 (st : Store) (qa qb : Nat) (t : Tok) (s : Nat) : EvRO Γ2 78 [.slice t s [], .func 52 [.ptr qa 0, .ptr qb 0]] st (.int .i64 (-1)) := by
  have hz0 : ([] : List D).length = 0 := rfl
  refine EvRO_code rfl rfl rfl ?_
  repeat' (first
 | (refine I_WS ?_; first
 | (refine I_mov ?_; first
 | refine W_mov (v := .int _ _) rfl rfl rfl ?_
 | refine W_mov (v := .slice _ _ _) rfl rfl rfl ?_)
 | (refine I_bin ?_; first
 | refine W_lssF rfl rfl rfl rfl (by omega) ?_)
 | refine W_lenS0 rfl rfl rfl ?_
 | refine WS_nil ?_)
 | refine WC_loop ?_
 | refine WC_seq ?_
 | refine WC_opsS ?_
 | refine WC_condF rfl ?_
 | refine WC_block ?_
 | refine WC_exit ?_
 | refine WC_ret ?_)
  exact ⟨.inr rfl, rfl⟩
theorem s_DeleteFunc0 (st : Store) (qa qb : Nat) : EvRWX Γ2 54 [.slice .no 8 [], .func 52 [.ptr qa 0, .ptr qb 0]] st (fun r _ => okRes0 r = true ∧ r = .slice .no 8 []) := by
  refine EvRWX_code rfl rfl ?_
  repeat' (first
 | (refine I_WS ?_; first
 | (refine I_mov ?_; first
 | refine W_mov (v := .int _ _) rfl rfl rfl ?_
 | refine W_mov (v := .slice _ _ _) rfl rfl rfl ?_
 | refine W_mov (v := .func _ _) rfl rfl rfl ?_)
 | (refine I_bin ?_; first
 | refine W_eqlT rfl rfl rfl rfl (by omega) ?_)
 | (refine I_call ?_; first
 | refine W_callRO rfl rfl rfl (s_IndexFunc0 _ _ _ _ _) rfl rfl ?_)
 | refine WS_nil ?_)
 | refine WC_seq ?_
 | refine WC_opsS ?_
 | refine WC_condT rfl ?_
 | refine WC_ret ?_)
  exact ⟨.inr rfl, _, rfl, rfl, rfl⟩
end Go.Lea
/-
  The best way on, as the code finds it.
-/
namespace Go.Lea
open Go.Ev
set_option maxHeartbeats 16000000 in
theorem s_SpurW (l : List Eg) (hll : l.length ≤ 900) (root bans : List Int) (hrl : root.length ≤ 1000) (hbl : bans.length ≤ 1000000) (fr to now sz by' : Int) (es0 : List Eg) (m u : Int) (ha : AskC l fr now sz) (hid : es0.map Eg.id = root) (hw : Way sz l fr now es0 m u) (hnd : (nodesW fr es0).Nodup) (hs1 : List Hp) (hl1 : hs1.length ≤ 1000) (a : Int) (ok : Bool)
    (hB : ∀ t s t' s', (s = 8 ∨ spurL l bans m = []) → s' = 1 → EvX Γ2 13 [.slice t s ((spurL l bans m).map Eg.e), .int .i64 m, .int .i64 to, .int .i64 u, .int .i64 sz, .int .i64 by', .slice t' s' ((nodesW fr es0).map (D.int .i64))] (fun r => ∃ t5 s5, (s5 = 3 ∨ hs1 = []) ∧ r = .tuple [.agg [.slice t5 s5 (hs1.map Hp.e), .int .i64 a], .bool ok]))
    (t t' tb : Tok) (s s' sb : Nat) (hs : s = 8 ∨ l = []) (hs' : s' = 1 ∨ root = []) (hsb : sb = 1 ∨ bans = []) :
    EvX Γ2 25 [.slice t s (l.map Eg.e), .slice t' s' (root.map (D.int .i64)), .slice tb sb (bans.map (D.int .i64)), .int .i64 fr, .int .i64 to, .int .i64 now, .int .i64 sz, .int .i64 by'] (fun r => if ok = true then IsA Hp.e 3 (hopsW sz es0 now ++ hs1) [.int .i64 a] [.bool true] r else r = .tuple [.agg [.slice .isnil 0 [], .int .i64 0], .bool false]) := by
  have hst : stepsM l root fr = some es0 := by rw [← hid]; exact chain_steps ha.2.2.2 hw.chain
  have hW := fun t t' => (s_WalkF l (by omega) root (by omega) fr now sz (hopsW sz es0 now) (walk_way.2 ⟨ha, es0, m, u, hst, hid, hw, rfl⟩) t s hs t' s' hs').grow hx2
  have ha0 : AskC l fr 0 0 := ⟨ha.1, by omega, by omega, ha.2.2.2⟩
  have hE := fun t t' => (s_Ends1 l (by omega) root (by omega) fr ha0 es0 hst t s hs t' s' hs').grow hx2
  have hend := chain_end hw.chain
  have hla : lastA now (hopsW sz es0 now) = u := hw.hops.2
  have hhl := hopsW_len sz es0 now
  have hel : es0.length = root.length := by rw [← hid]; simp
  have hnn : nodesW fr es0 = fr :: es0.map Eg.to := rfl
  rw [← hnn] at hE
  have hnl2 : (nodesW fr es0).length = es0.length + 1 := by simp [nodesW]
  have hne : nodesW fr es0 ≠ [] := by simp [nodesW]
  refine EvX_code rfl rfl ?_
  clear hnn
  generalize nodesW fr es0 = ns at *
  generalize hopsW sz es0 now = hs0 at *
  have hj : ns.length - 1 < (ns.map (D.int .i64)).length := by rw [List.length_map]; exact last_ne hne
  have hsub : IntKind.i64.wrap ((ns.length : Int) - 1) = ((ns.length - 1 : Nat) : Int) := by rw [w64 (by omega)]; omega
  clear hst hid ha0 hw ha
  repeat' (first
 | (refine I_WS ?_; first
 | (refine I_mov ?_; first
 | refine W_mov (v := .int _ _) rfl rfl rfl ?_
 | refine W_mov (v := .bool _) rfl rfl rfl ?_
 | refine W_mov (v := .slice _ _ _) rfl rfl rfl ?_
 | refine W_mov (v := .tuple _) rfl rfl rfl ?_)
 | (refine I_call ?_; first
 | (refine W_callTF rfl rfl rfl (hW _ _) (Nat.le_refl _) rfl ?_; intro tm sm st1 c1 c2 c3 c4 c5 c6 hO))
 | (refine I_extract ?_; first
 | refine W_extract (d := .bool _) rfl rfl rfl rfl ?_
 | refine W_extract (d := .slice _ _ _) rfl rfl rfl rfl ?_)
 | (refine I_box ?_; first
 | refine W_box1 (v := .slice _ _ _) rfl rfl rfl rfl rfl ?_)
 | refine W_alloc rfl rfl ?_
 | refine WS_nil ?_)
 | refine WC_seq ?_
 | refine WC_opsS ?_)
  repeat' (first
 | (refine I_WS ?_; first
 | (refine I_mov ?_; first
 | refine W_mov (v := .int _ _) rfl rfl rfl ?_
 | refine W_mov (v := .bool _) rfl rfl rfl ?_
 | refine W_mov (v := .slice _ _ _) rfl rfl rfl ?_
 | refine W_mov (v := .tuple _) rfl rfl rfl ?_
 | refine W_mov (v := .map _) rfl rfl rfl ?_)
 | (refine I_call ?_; first
 | (refine W_callTk rfl rfl rfl (hE _ _) rfl ?_; intro tn sn st2 hsn d1 d2 d3 d4 d5 d6))
 | (refine I_extract ?_; first
 | refine W_extract (d := .bool _) rfl rfl rfl rfl ?_
 | refine W_extract (d := .slice _ _ _) rfl rfl rfl rfl ?_)
 | refine W_not rfl rfl rfl ?_
 | refine W_lenM rfl rfl rfl ?_
 | refine W_mkmap rfl rfl ?_
 | refine WS_nil ?_)
 | refine WC_seq ?_
 | refine WC_opsS ?_
 | refine WC_skip ?_
 | refine WC_condF rfl ?_
 | refine WC_block ?_)
  have hO2 := hO.of d6 d5 d4
  have b0 : st2.boxes 0 = some (.cells [.slice tb sb (bans.map (D.int .i64))]) := by rw [d1, c1]; rfl
  have b1 : st2.boxes 1 = some (.cells [.slice .isnil 0 [], .int .i64 0]) := by rw [d1, c1]; rfl
  have n2 : st2.next = 2 := d2.trans c2
  have l2 : st2.lim = 0 := d3.trans c3
  have tl2 : st2.tlim ≤ st2.ntok := Nat.le_trans (by rw [d4, c4]; exact Nat.zero_le _) (Nat.le_refl _)
  clear hO c1 c2 c3 c4 c5 c6 d1 d2 d3 d4 d5 d6 hW hE
  have hsn1 : sn = 1 := sz_of hsn (by omega)
  subst hsn1
  have hhad := fun ρ st => l_shad ns (by omega) tn 1 (.inl rfl) st2.next 1 (.slice t s (l.map Eg.e)) (.int .i64 to) (.int .i64 now) (.int .i64 sz) (.int .i64 by') (.ptr 0 0) (.slice tm sm (hs0.map Hp.e)) (.slice tn 1 (ns.map (D.int .i64))) ns [] rfl List.nodup_nil [] (fun n => rfl) ρ st [.slice .isnil 0 [], .int .i64 0]
  skip
  refine hhad _ _ ?_ (by omega) (upd_same _ _ _) ((upd_ne _ _ (by omega)).trans b1) rfl rfl rfl rfl rfl rfl rfl rfl rfl rfl rfl rfl rfl rfl _ (fun _ ρ3 st3 e1 e2 e3 e4 e5 e6 k0 k4 k5 k6 k7 k10 k18 k20 k16 => ?_) (fun h => absurd hnd h)
  · show st2.lim ≤ 0
    omega
  have b30 : st3.boxes 0 = some (.cells [.slice tb sb (bans.map (D.int .i64))]) := (e6 0 (by omega)).trans ((upd_ne _ _ (by omega)).trans b0)
  have b31 : st3.boxes 1 = some (.cells [.slice .isnil 0 [], .int .i64 0]) := (e6 1 (by omega)).trans ((upd_ne _ _ (by omega)).trans b1)
  have n3 : st3.next = 3 := e2.trans (by show st2.next + 1 = 3; omega)
  have l3 : st3.lim = 0 := e1.trans l2
  have e3' : st3.tlim = st2.tlim := e3
  have e4' : st3.toks = st2.toks := e4
  have e5' : st3.ntok = st2.ntok := e5
  have hO3 : AppK st3 3 tm sm (hs0.map Hp.e) := hO2.of (fun k _ => by rw [e4']) (by rw [e5']; exact Nat.le_refl _) e3'
  have tl3 : st3.tlim ≤ st3.ntok := by rw [e3', e5']; exact tl2
  have hll3 : st3.lim ≤ st3.next := by omega
  clear e1 e2 e3 e4 e5 e6 e3' e4' e5' b0 b1 hO2 n2 l2 tl2 hhad
  rw [← upd_self k0, ← upd_self k4, ← upd_self k5, ← upd_self k6, ← upd_self k7, ← upd_self k10, ← upd_self k18, ← upd_self k20, ← upd_self k16]
  repeat' (first
 | (refine I_WS ?_; first
 | refine W_lenM rfl rfl rfl ?_
 | refine W_sub (s := ((ns.length - 1 : Nat) : Int)) rfl rfl rfl rfl hsub ?_
 | refine W_iaddr (j := ns.length - 1) rfl rfl rfl rfl rfl hj ?_
 | refine W_store (cs' := [_]) rfl rfl (upd_same _ _ _) rfl hll3 rfl rfl rfl ?_
 | (refine I_mov ?_; first
 | refine W_mov (v := .int _ _) rfl rfl rfl ?_
 | refine W_mov (v := .slice _ _ _) rfl rfl rfl ?_)
 | (refine I_load ?_; first
 | refine W_loadE (agg := false) (d := .int _ _) rfl rfl rfl hend rfl ?_)
 | refine W_alloc rfl rfl ?_
 | refine WS_nil ?_)
 | refine WC_seq ?_
 | refine WC_opsS ?_
 | refine WC_block ?_)
  refine l_sarr hs0 (by omega) now tm sm hO3.sz (.slice t s (l.map Eg.e)) (.int .i64 to) (.int .i64 sz) (.int .i64 by') (.ptr 0 0) (.ptr 1 0) (.slice tm sm (hs0.map Hp.e)) (.slice tn 1 (ns.map (D.int .i64))) (.ptr st3.next 0) hs0 [] rfl _ _ (by show st3.lim ≤ 0; omega) rfl rfl rfl rfl rfl rfl rfl rfl rfl rfl rfl rfl rfl _ (fun ρ4 st4 e1 e2 e3 e4 e5 e6 k0 k4 k6 k7 k10 k16 k18 k20 k25 k5 => ?_)
  have e2' : st3.next + 1 ≤ st4.next := e2
  have b4a : st4.boxes st3.next = some (.cells [.int .i64 m]) := (e6 _ (Nat.lt_succ_self _)).trans (upd_same _ _ _)
  have b40 : st4.boxes 0 = some (.cells [.slice tb sb (bans.map (D.int .i64))]) := (e6 0 (Nat.succ_pos _)).trans ((upd_ne _ _ (by omega)).trans ((upd_ne _ _ (by omega)).trans b30))
  have b41 : st4.boxes 1 = some (.cells [.slice .isnil 0 [], .int .i64 0]) := (e6 1 (by show 1 < st3.next + 1; omega)).trans ((upd_ne _ _ (by omega)).trans ((upd_ne _ _ (by omega)).trans b31))
  have l4 : st4.lim = 0 := e1.trans l3
  have e3' : st4.tlim = st3.tlim := e3
  have e4' : st4.toks = st3.toks := e4
  have e5' : st4.ntok = st3.ntok := e5
  have hO4 : AppK st4 3 tm sm (hs0.map Hp.e) := hO3.of (fun k _ => by rw [e4']) (by rw [e5']; exact Nat.le_refl _) e3'
  have tl4 : st4.tlim ≤ st4.ntok := by rw [e3', e5']; exact tl3
  rw [hla] at k5
  have n4 : 4 ≤ st4.next := by omega
  rw [n3] at b4a k25
  clear e1 e2 e3 e4 e5 e6 e2' e3' e4' e5' b30 b31 hO3 n3 l3 tl3 hll3 hj hend hsub
  rw [← upd_self k0, ← upd_self k4, ← upd_self k5, ← upd_self k6, ← upd_self k7, ← upd_self k10, ← upd_self k16, ← upd_self k18, ← upd_self k20, ← upd_self k25]
  repeat' (first
 | (refine I_WS ?_; first
 | refine W_mov (v := .func 52 [.ptr 3 0, .ptr 0 0]) rfl rfl rfl ?_
 | refine W_mkfunc rfl rfl rfl ?_
 | refine WS_nil ?_)
 | refine WC_seq ?_
 | refine WC_opsS ?_)
  have hB1 := fun t s h => hB t s tn.strip 1 h rfl
  refine WC_mono (Q' := fun x ρ' st' => x = .normal ∧ ∃ t5 s5 q9, (s5 = 3 ∨ hs1 = []) ∧ q9 ≠ 1 ∧ ρ' 16 = .ptr 1 0 ∧ ρ' 18 = .slice tm sm (hs0.map Hp.e) ∧ ρ' 29 = .ptr q9 0 ∧ ρ' 19 = .bool ok ∧ st'.boxes 1 = some (.cells [.slice .isnil 0 [], .int .i64 0]) ∧ st'.boxes q9 = some (.cells [.slice t5 s5 (hs1.map Hp.e), .int .i64 a]) ∧ st'.lim = 0 ∧ AppK st' 3 tm sm (hs0.map Hp.e) ∧ st'.tlim ≤ st'.ntok) ?_ ?_
  · refine WC_drawAS ?_
    simp only [o3, o4, o5, m3, hoist, hoist1, Store.ahead, withB, withB1, Nat.add_assoc, Nat.reduceAdd, List.length_cons, List.length_nil]
    generalize hN : st4.next = N at *
    have hlimN : st4.lim ≤ N + 17 := by omega
    have hlim0 : st4.lim ≤ 3 := by omega
    have hlim14 : st4.lim ≤ N + 14 := by omega
    have hN4 : 4 ≤ N := n4
    have c3 : ∀ {x : Option Box}, upd st4.boxes (N + 14) x 3 = some (.cells [.int .i64 m]) := fun {x} => (upd_ne _ _ (by omega)).trans b4a
    have c0 : ∀ {x : Option Box}, upd st4.boxes (N + 14) x 0 = some (.cells [.slice tb sb (bans.map (D.int .i64))]) := fun {x} => (upd_ne _ _ (by omega)).trans b40
    have c1 : ∀ {x : Option Box}, upd st4.boxes (N + 14) x 1 = some (.cells [.slice .isnil 0 [], .int .i64 0]) := fun {x} => (upd_ne _ _ (by omega)).trans b41
    have c3b : ∀ {x : Option Box}, (upd st4.boxes (N + 14) x 3).bind Box.cs = some [.int .i64 m] := fun {x} => by rw [c3]; rfl
    have f1 : (N + 17 == 3) = false := by simp
    have f2 : (3 == N + 17) = false := by simp
    have f3 : (N + 14 == 3) = false := by simp
    have f4 : (3 == N + 14) = false := by simp
    have f5 : (0 == N + 14) = false := by simp
    have f6 : (N + 14 == 0) = false := by simp
    have f7 : (decide (3 < N)) = true := by simp; omega
    have f8 : (decide (0 < N)) = true := by simp; omega
    by_cases hl0 : l = []
    · subst hl0
      have hcl : ∀ t, EvP Γ2 55 [.slice t s []] (.slice .no 8 []) := fun t => EvP_prim (F := cloneF 8 64) rfl rfl
      have hD := s_DeleteFunc0 (cutR { st4 with boxes := upd st4.boxes (N + 14) (some (.cells [.slice .isnil 0 [], .int .i64 0])), next := N + 17 } 0 [3, 0]) 3 0
      have hB6 : EvX Γ2 13 [.slice .no 8 [], .int .i64 m, .int .i64 to, .int .i64 u, .int .i64 sz, .int .i64 by', .slice tn.strip 1 (ns.map (D.int .i64))] (fun r => (r.free = true ∧ isRow r = false) ∧ (fun r => ∃ t5 s5, (s5 = 3 ∨ hs1 = []) ∧ r = .tuple [.agg [.slice t5 s5 (hs1.map Hp.e), .int .i64 a], .bool ok]) (if hasFresh r then r.strip else r)) := (hB1 .no 8 (.inl rfl)).mono (fun r h => by
        obtain ⟨t5, s5, h5, rfl⟩ := h
        refine ⟨⟨rfl, rfl⟩, ?_⟩
        split
        · exact ⟨t5.strip, s5, h5, rfl⟩
        · exact ⟨t5, s5, h5, rfl⟩)
      repeat' (first
 | (refine I_WS ?_; first
 | refine W_store (cs' := [_, _]) rfl rfl (upd_same _ _ _) rfl hlim14 rfl rfl rfl ?_
 | (refine I_mov ?_; first
 | refine W_mov (v := .int _ _) rfl rfl rfl ?_
 | refine W_mov (v := .bool _) rfl rfl rfl ?_
 | refine W_mov (v := .slice _ _ _) rfl rfl rfl ?_
 | refine W_mov (v := .ptr _ _) rfl rfl rfl ?_
 | refine W_mov (v := .func _ _) rfl rfl rfl ?_
 | refine W_mov (v := .tuple _) rfl rfl rfl ?_)
 | (refine I_load ?_; first
 | refine W_load (agg := false) (d := .int _ _) rfl rfl rfl (c3b (x := some (.cells [.slice .isnil 0 [], .int .i64 0]))) hlim0 rfl ?_)
 | (refine I_call ?_; first
 | refine W_callMD0 rfl rfl rfl (hcl _) rfl rfl rfl ?_
 | (refine W_callNo (p := 0) (ps := [3, 0]) rfl rfl rfl rfl rfl rfl hD ?_ <;> intro r6 hp6 <;> subst hp6)
 | (refine W_callFd (P := fun r => ∃ t5 s5, (s5 = 3 ∨ hs1 = []) ∧ r = .tuple [.agg [.slice t5 s5 (hs1.map Hp.e), .int .i64 a], .bool ok]) rfl rfl rfl rfl hB6 ?_ <;> intro r7 hp7 <;> obtain ⟨t5, s5, hs5, rfl⟩ := hp7))
 | (refine I_extract ?_; first
 | refine W_extract (d := .bool _) rfl rfl rfl rfl ?_
 | refine W_extract (d := .agg _) rfl rfl rfl rfl ?_)
 | refine WS_nil ?_))
      have hq9 : N + 14 ≠ 1 := by clear hB hB1 hB6; omega
      refine ⟨?_, by first | trivial | rfl, t5, s5, N + 14, hs5, hq9, ?_, ?_, ?_, ?_, ?_, ?_, l4, hO4, tl4⟩
      rotate_left
      · rfl
      · rfl
      · rfl
      · rfl
      · have e : ∀ x y : Option Box, upd (upd st4.boxes (N + 14) x) (N + 14) y 1 = some (.cells [.slice .isnil 0 [], .int .i64 0]) := fun x y => by rw [upd_ne _ _ (Ne.symm hq9), upd_ne _ _ (Ne.symm hq9)]; exact b41
        exact e (some (.cells [.slice .isnil 0 [], .int .i64 0])) (some (.cells [.slice t5 s5 (hs1.map Hp.e), .int .i64 a]))
      · exact upd_same _ _ _
      rw [Bool.and_eq_true]
      constructor
      · simp [okFlags, List.range, List.range.loop, Fl.clash, f3, f4, f5, f6]
      · simp [okTouch, okAt, List.range, List.range.loop, f7, f8]
    · have hs8 : s = 8 := hs.resolve_right hl0
      have hel : ∀ a : Eg, Elem 8 a.e ∧ (match a.e.cells with | [c] => (match a.e with | .agg _ => false | _ => true) | _ => (match a.e with | .agg _ => true | _ => false)) = true := fun a => ⟨⟨rfl, rfl⟩, rfl⟩
      have hel1 : ∀ a : Eg, Elem 8 a.e := fun a => (hel a).1
      have hmk : ∀ a : Eg, a.e.cells.length = 8 ∧ mkD a.e.cells = a.e := fun a => ⟨rfl, rfl⟩
      have hcl : ∀ t, EvX Γ2 55 [.slice t s (l.map Eg.e)] (fun r => r = .slice .row 8 (l.map Eg.e)) := fun t => (clone_R (Γ := Γ2) (f := 55) (bytes := 64) rfl l (.inl hs8) (by omega) hel).mono (fun r h => by
        rcases h with ⟨h, _⟩ | h
        · exact absurd h hl0
        · exact h)
      repeat' (first
 | (refine I_WS ?_; first
 | (refine I_mov ?_; first
 | refine W_mov (v := .slice _ _ _) rfl rfl rfl ?_
 | refine W_mov (v := .func _ _) rfl rfl rfl ?_)
 | (refine I_call ?_; first
 | (refine W_callRw rfl rfl rfl (hcl _) rfl hel1 hlimN ?_ <;> intro st5 p1 p2 p3 p4 hR5 p5 p6))))
      have l5 : st5.lim = 0 := p1.trans l4
      have n5 : st5.next = N + 17 + 1 := p6
      have b53 : st5.boxes 3 = some (.cells [.int .i64 m]) := (p5 3 (by show 3 ≠ N + 17; omega)).trans (c3 (x := some (.cells [.slice .isnil 0 [], .int .i64 0])))
      have b50 : st5.boxes 0 = some (.cells [.slice tb sb (bans.map (D.int .i64))]) := (p5 0 (by show 0 ≠ N + 17; omega)).trans (c0 (x := some (.cells [.slice .isnil 0 [], .int .i64 0])))
      have b51 : st5.boxes 1 = some (.cells [.slice .isnil 0 [], .int .i64 0]) := (p5 1 (by show 1 ≠ N + 17; omega)).trans (c1 (x := some (.cells [.slice .isnil 0 [], .int .i64 0])))
      have b59 : st5.boxes (N + 14) = some (.cells [.slice .isnil 0 [], .int .i64 0]) := (p5 (N + 14) (by show N + 14 ≠ N + 17; omega)).trans (upd_same _ _ _)
      have hR5 : RowIs st5 (N + 17) 8 (l.map Eg.e) := hR5
      have hO5 : AppK st5 3 tm sm (hs0.map Hp.e) := hO4.of (fun k _ => by rw [p3]) (by rw [p4]; exact Nat.le_refl _) p2
      have tl5 : st5.tlim ≤ st5.ntok := by rw [p2, p4]; exact tl4
      clear p1 p2 p3 p4 p5 p6 hcl hO4 tl4
      obtain ⟨cs5, hb5⟩ : ∃ cs5, st5.boxes (N + 17) = some (.row cs5) := by
        obtain ⟨_, _, cs, h, _⟩ := hR5
        exact ⟨cs, h⟩
      have hok : okCut st5 (N + 17) [3, 0] = true := okCut_of (cs := cs5) (by omega) (by omega) hb5 (fun p hp => by
        simp only [List.mem_cons, List.not_mem_nil, or_false] at hp
        rcases hp with rfl | rfl
        · exact ⟨by omega, _, b53⟩
        · exact ⟨by omega, _, b50⟩)
      have hRc : RowIs (cutS st5 (N + 17) [3, 0]) (N + 17) 8 (l.map Eg.e) := by
        obtain ⟨h1, h2, cs, h3, h4⟩ := hR5
        exact ⟨Nat.le_refl _, h2, cs, (cutS_in (.inl rfl)).trans h3, h4⟩
      have hBan : BanB (cutS st5 (N + 17) [3, 0]) 3 0 m tb sb bans := ⟨by rw [cutS_in (.inr (by simp)), b53]; rfl, by rw [cutS_in (.inr (by simp)), b50]; rfl⟩
      have hD := (s_DeleteFunc m bans (by omega) 3 0 tb sb hsb l (by omega) (cutS st5 (N + 17) [3, 0]) (N + 17) ⟨by omega, by omega⟩ hBan ⟨by show 3 < st5.next; omega, by show 0 < st5.next; omega⟩ hRc).mono (P' := fun r C1 => okRes r (N + 17) = true ∧ (r = .rs (N + 17) 0 8 (keepL m bans l).length l.length ∧ RowIs C1 (N + 17) 8 ((keepL m bans l).map Eg.e))) (fun r s h => ⟨by rw [h.1]; simp [okRes], h.1, h.2.1⟩)
      clear hRc hBan
      repeat' (first
 | (refine I_WS ?_; first
 | (refine I_call ?_; first
 | (refine W_callCut (p := N + 17) (ps := [3, 0]) rfl rfl rfl rfl rfl rfl hok hD ?_ <;> intro r6 C1 hp6))))
      obtain ⟨rfl, hRC⟩ := hp6
      have hR6 : RowIs { st5 with boxes := upd st5.boxes (N + 17) (gRow (C1.boxes (N + 17))) } (N + 17) 8 ((keepL m bans l).map Eg.e) := hRC.gRow (fun d hd => by
        obtain ⟨e, _, rfl⟩ := List.mem_map.1 hd
        refine ⟨rfl, fun c hc => ?_⟩
        simp only [Eg.e, D.cells, List.mem_cons, List.not_mem_nil, or_false] at hc
        rcases hc with rfl | rfl | rfl | rfl | rfl | rfl | rfl | rfl <;> rfl) (upd_same _ _ _) (by show st5.lim ≤ N + 17; omega) (by show N + 17 < st5.next; omega)
      have b63 : (upd st5.boxes (N + 17) (gRow (C1.boxes (N + 17))) 3).bind Box.cs = some [.int .i64 m] := by rw [upd_ne _ _ (by omega), b53]; rfl
      have b69 : upd (upd st5.boxes (N + 17) (gRow (C1.boxes (N + 17)))) (N + 17) none (N + 14) = some (.cells [.slice .isnil 0 [], .int .i64 0]) := (upd_ne _ _ (by omega)).trans ((upd_ne _ _ (by omega)).trans b59)
      have b61 : ∀ z : Option Box, upd (upd (upd st5.boxes (N + 17) (gRow (C1.boxes (N + 17)))) (N + 17) none) (N + 14) z 1 = some (.cells [.slice .isnil 0 [], .int .i64 0]) := fun z => (upd_ne _ _ (by omega)).trans ((upd_ne _ _ (by omega)).trans ((upd_ne _ _ (by omega)).trans b51))
      have l53 : st5.lim ≤ 3 := by omega
      have l514 : st5.lim ≤ N + 14 := by omega
      have hB6 : EvX Γ2 13 [.slice .no 8 ((keepL m bans l).map Eg.e), .int .i64 m, .int .i64 to, .int .i64 u, .int .i64 sz, .int .i64 by', .slice tn.strip 1 (ns.map (D.int .i64))] (fun r => (r.free = true ∧ isRow r = false) ∧ (fun r => ∃ t5 s5, (s5 = 3 ∨ hs1 = []) ∧ r = .tuple [.agg [.slice t5 s5 (hs1.map Hp.e), .int .i64 a], .bool ok]) r.strip) := (hB1 .no 8 (.inl rfl)).mono (fun r h => by
        obtain ⟨t5, s5, h5, rfl⟩ := h
        exact ⟨⟨rfl, rfl⟩, t5.strip, s5, h5, rfl⟩)
      repeat' (first
 | (refine I_WS ?_; first
 | refine W_store (cs' := [_, _]) rfl rfl b69 rfl l514 rfl rfl rfl ?_
 | (refine I_mov ?_; first
 | refine W_mov (v := .int _ _) rfl rfl rfl ?_
 | refine W_mov (v := .bool _) rfl rfl rfl ?_
 | refine W_mov (v := .slice _ _ _) rfl rfl rfl ?_
 | refine W_mov (v := .ptr _ _) rfl rfl rfl ?_
 | refine W_mov (v := .tuple _) rfl rfl rfl ?_)
 | (refine I_load ?_; first
 | refine W_load (agg := false) (d := .int _ _) rfl rfl rfl b63 l53 rfl ?_)
 | (refine I_call ?_; first
 | (refine W_callFw (P := fun r => ∃ t5 s5, (s5 = 3 ∨ hs1 = []) ∧ r = .tuple [.agg [.slice t5 s5 (hs1.map Hp.e), .int .i64 a], .bool ok]) (xs := keepL m bans l) (e := Eg.e) rfl rfl rfl hR6 rfl (by decide) hmk rfl rfl rfl rfl rfl rfl hB6 ?_ <;> intro r7 hp7 <;> obtain ⟨t5, s5, hs5, rfl⟩ := hp7))
 | (refine I_extract ?_; first
 | refine W_extract (d := .bool _) rfl rfl rfl rfl ?_
 | refine W_extract (d := .agg _) rfl rfl rfl rfl ?_)
 | refine WS_nil ?_))
      have hq9 : N + 14 ≠ 1 := by clear hB hB1 hB6; omega
      refine ⟨?_, by first | trivial | rfl, t5, s5, N + 14, hs5, hq9, rfl, rfl, rfl, rfl, b61 (some (.cells [.slice t5 s5 (hs1.map Hp.e), .int .i64 a])), upd_same _ _ _, l5, hO5, tl5⟩
      rw [Bool.and_eq_true]
      constructor
      · simp [okFlags, List.range, List.range.loop, Fl.clash, f1, f2, f3, f4, f5, f6]
      · simp [okTouch, okAt, List.range, List.range.loop, f7, f8]
  · rintro x ρ5 st5 ⟨rfl, t5, s5, q9, hs5, hq9, k16, k18, k29, k19, b51, b59, l5, hO5, tl5⟩
    have hbd : ((hs0.map Hp.e).length + (hs1.map Hp.e).length) * 24 ≤ 140737488355328 := by rw [List.length_map, List.length_map]; omega
    have hs5' : s5 = 3 ∨ hs1.map Hp.e = [] := hs5.imp id (fun h => by rw [h]; rfl)
    have hmap : hs0.map Hp.e ++ hs1.map Hp.e = (hs0 ++ hs1).map Hp.e := List.map_append.symm
    have l50 : st5.lim ≤ 1 := by omega
    have l59 : st5.lim ≤ q9 := by omega
    have b59c : (st5.boxes q9).bind Box.cs = some [.slice t5 s5 (hs1.map Hp.e), .int .i64 a] := by rw [b59]; rfl
    rw [← upd_self k16, ← upd_self k18, ← upd_self k29, ← upd_self k19]
    cases ok with
    | false =>
      repeat' (first
 | (refine I_WS ?_; first
 | refine W_store (cs' := [_, _]) rfl rfl b51 rfl l50 rfl rfl rfl ?_
 | (refine I_mov ?_; first
 | refine W_mov (v := .bool _) rfl rfl rfl ?_)
 | (refine I_build ?_; first
 | refine W_build (cs := [_, _]) rfl rfl rfl ?_)
 | refine W_not rfl rfl rfl ?_
 | refine WS_nil ?_)
 | refine WC_seq ?_
 | refine WC_opsS ?_
 | refine WC_condT rfl ?_
 | refine WC_ret ?_)
      refine ⟨.inr rfl, _, (fin_A0 (i := 16) (j := 17) (q := 1) ?_ ?_ ?_ ?_).2, rfl⟩
      · rfl
      · rfl
      · exact l50
      · rfl
    | true =>
      repeat' (first
 | (refine I_WS ?_; first
 | (refine W_app rfl rfl rfl hO5.ok hs5' hbd tl5 rfl ?_ <;> intro k6 st6 g1 g2 g3 g4 g5 g6 g7 <;> rw [hmap])
 | (refine I_mov ?_; first
 | refine W_mov (v := .bool _) rfl rfl rfl ?_
 | refine W_mov (v := .slice _ _ _) rfl rfl rfl ?_)
 | (refine I_load ?_; first
 | refine W_load (agg := false) (d := .slice _ _ _) rfl rfl rfl b59c l59 rfl ?_)
 | refine W_not rfl rfl rfl ?_
 | refine W_faddr rfl rfl rfl ?_
 | refine WS_nil ?_)
 | refine WC_seq ?_
 | refine WC_opsS ?_
 | refine WC_drawS ?_
 | refine WC_skip ?_
 | refine WC_condF rfl ?_)
      have b69c : (st6.boxes q9).bind Box.cs = some [.slice t5 s5 (hs1.map Hp.e), .int .i64 a] := by rw [g1]; exact b59c
      have b61 : st6.boxes 1 = some (.cells [.slice .isnil 0 [], .int .i64 0]) := by rw [g1]; exact b51
      have l69 : st6.lim ≤ q9 := by rw [g3]; exact l59
      have l61 : st6.lim ≤ 1 := by rw [g3]; exact l50
      repeat' (first
 | (refine I_WS ?_; first
 | refine W_store (cs' := [_, _]) rfl rfl b61 rfl l61 rfl rfl rfl ?_
 | (refine I_mov ?_; first
 | refine W_mov (v := .bool _) rfl rfl rfl ?_)
 | (refine I_load ?_; first
 | refine W_load (agg := false) (d := .int _ _) rfl rfl rfl b69c l69 rfl ?_)
 | (refine I_build ?_; first
 | refine W_build (cs := [_, _]) rfl rfl rfl ?_)
 | refine WS_nil ?_)
 | refine WC_ret ?_
 | refine okF_intro rfl ?_)
      have hfin := fun ρ st h => finX_A (ρ := ρ) (st := st) (e := Hp.e) (sz := 3) (xs := hs0 ++ hs1) (t := .own k6) (s := 3) (cs := [.int .i64 a]) (vs := [.bool true]) (rs := [.cell 16 true 2, .tmp 17]) (.inr rfl : X.ret = .normal ∨ X.ret = .ret) h rfl rfl (.inl rfl) rfl rfl rfl
      refine ⟨.inr rfl, ?_⟩
      refine (hfin _ _ ?_).2
      refine res_A (q := 1) ?_ ?_ ?_ ?_
      · rfl
      · rfl
      · exact l61
      · rfl
end Go.Lea
/-
  The best way on: what the code finds.
-/
namespace Go.Lea
open Go.Ev
def zeroA : D := .tuple [.agg [.slice .isnil 0 [], .int .i64 0], .bool false]
set_option maxHeartbeats 16000000 in
theorem s_SpurD (l : List Eg) (hll : l.length ≤ 900) (root bans : List Int) (hrl : root.length ≤ 1000) (fr to now sz by' : Int) (es0 : List Eg) (m u : Int) (ha : AskC l fr now sz) (hid : es0.map Eg.id = root) (hw : Way sz l fr now es0 m u) (hnd : ¬ (nodesW fr es0).Nodup)
    (t t' tb : Tok) (s s' sb : Nat) (hs : s = 8 ∨ l = []) (hs' : s' = 1 ∨ root = []) (hsb : sb = 1 ∨ bans = []) :
    EvX Γ2 25 [.slice t s (l.map Eg.e), .slice t' s' (root.map (D.int .i64)), .slice tb sb (bans.map (D.int .i64)), .int .i64 fr, .int .i64 to, .int .i64 now, .int .i64 sz, .int .i64 by'] (fun r => r = zeroA) := by
  have hst : stepsM l root fr = some es0 := by rw [← hid]; exact chain_steps ha.2.2.2 hw.chain
  have hW := fun t t' => (s_WalkF l (by omega) root (by omega) fr now sz (hopsW sz es0 now) (walk_way.2 ⟨ha, es0, m, u, hst, hid, hw, rfl⟩) t s hs t' s' hs').grow hx2
  have ha0 : AskC l fr 0 0 := ⟨ha.1, by omega, by omega, ha.2.2.2⟩
  have hE := fun t t' => (s_Ends1 l (by omega) root (by omega) fr ha0 es0 hst t s hs t' s' hs').grow hx2
  have hend := chain_end hw.chain
  have hla : lastA now (hopsW sz es0 now) = u := hw.hops.2
  have hhl := hopsW_len sz es0 now
  have hel : es0.length = root.length := by rw [← hid]; simp
  have hnn : nodesW fr es0 = fr :: es0.map Eg.to := rfl
  rw [← hnn] at hE
  have hnl2 : (nodesW fr es0).length = es0.length + 1 := by simp [nodesW]
  have hne : nodesW fr es0 ≠ [] := by simp [nodesW]
  refine EvX_code rfl rfl ?_
  clear hnn
  generalize nodesW fr es0 = ns at *
  generalize hopsW sz es0 now = hs0 at *
  clear hst hid ha0 hw ha
  repeat' (first
 | (refine I_WS ?_; first
 | (refine I_mov ?_; first
 | refine W_mov (v := .int _ _) rfl rfl rfl ?_
 | refine W_mov (v := .bool _) rfl rfl rfl ?_
 | refine W_mov (v := .slice _ _ _) rfl rfl rfl ?_
 | refine W_mov (v := .tuple _) rfl rfl rfl ?_)
 | (refine I_call ?_; first
 | (refine W_callTF rfl rfl rfl (hW _ _) (Nat.le_refl _) rfl ?_; intro tm sm st1 c1 c2 c3 c4 c5 c6 hO))
 | (refine I_extract ?_; first
 | refine W_extract (d := .bool _) rfl rfl rfl rfl ?_
 | refine W_extract (d := .slice _ _ _) rfl rfl rfl rfl ?_)
 | (refine I_box ?_; first
 | refine W_box1 (v := .slice _ _ _) rfl rfl rfl rfl rfl ?_)
 | refine W_alloc rfl rfl ?_
 | refine WS_nil ?_)
 | refine WC_seq ?_
 | refine WC_opsS ?_)
  repeat' (first
 | (refine I_WS ?_; first
 | (refine I_mov ?_; first
 | refine W_mov (v := .int _ _) rfl rfl rfl ?_
 | refine W_mov (v := .bool _) rfl rfl rfl ?_
 | refine W_mov (v := .slice _ _ _) rfl rfl rfl ?_
 | refine W_mov (v := .tuple _) rfl rfl rfl ?_
 | refine W_mov (v := .map _) rfl rfl rfl ?_)
 | (refine I_call ?_; first
 | (refine W_callTk rfl rfl rfl (hE _ _) rfl ?_; intro tn sn st2 hsn d1 d2 d3 d4 d5 d6))
 | (refine I_extract ?_; first
 | refine W_extract (d := .bool _) rfl rfl rfl rfl ?_
 | refine W_extract (d := .slice _ _ _) rfl rfl rfl rfl ?_)
 | refine W_not rfl rfl rfl ?_
 | refine W_lenM rfl rfl rfl ?_
 | refine W_mkmap rfl rfl ?_
 | refine WS_nil ?_)
 | refine WC_seq ?_
 | refine WC_opsS ?_
 | refine WC_skip ?_
 | refine WC_condF rfl ?_
 | refine WC_block ?_)
  have hO2 := hO.of d6 d5 d4
  have b0 : st2.boxes 0 = some (.cells [.slice tb sb (bans.map (D.int .i64))]) := by rw [d1, c1]; rfl
  have b1 : st2.boxes 1 = some (.cells [.slice .isnil 0 [], .int .i64 0]) := by rw [d1, c1]; rfl
  have n2 : st2.next = 2 := d2.trans c2
  have l2 : st2.lim = 0 := d3.trans c3
  have tl2 : st2.tlim ≤ st2.ntok := Nat.le_trans (by rw [d4, c4]; exact Nat.zero_le _) (Nat.le_refl _)
  clear hO c1 c2 c3 c4 c5 c6 d1 d2 d3 d4 d5 d6 hW hE
  have hsn1 : sn = 1 := sz_of hsn (by omega)
  subst hsn1
  have hhad := fun ρ st => l_shad ns (by omega) tn 1 (.inl rfl) st2.next 1 (.slice t s (l.map Eg.e)) (.int .i64 to) (.int .i64 now) (.int .i64 sz) (.int .i64 by') (.ptr 0 0) (.slice tm sm (hs0.map Hp.e)) (.slice tn 1 (ns.map (D.int .i64))) ns [] rfl List.nodup_nil [] (fun n => rfl) ρ st [.slice .isnil 0 [], .int .i64 0]
  skip
  refine hhad _ _ ?_ (by omega) (upd_same _ _ _) ((upd_ne _ _ (by omega)).trans b1) rfl rfl rfl rfl rfl rfl rfl rfl rfl rfl rfl rfl rfl rfl _ (fun h => absurd h hnd) (fun _ ρ3 st3 e1 e2 k16 k17 => ?_)
  · show st2.lim ≤ 0
    omega
  have l3 : st3.lim ≤ 1 := by rw [e1]; show st2.lim ≤ 1; omega
  exact ⟨.inr rfl, _, (fin_A0 (i := 16) (j := 17) (q := 1) k16 e2 l3 k17).2, rfl⟩
set_option maxHeartbeats 16000000 in
theorem s_SpurN (l : List Eg) (hll : l.length ≤ 900) (root bans : List Int) (hrl : root.length ≤ 1000) (fr to now sz by' : Int) (hw : walkM l root fr now sz = none)
    (t t' tb : Tok) (s s' sb : Nat) (hs : s = 8 ∨ l = []) (hs' : s' = 1 ∨ root = []) (hsb : sb = 1 ∨ bans = []) :
    EvX Γ2 25 [.slice t s (l.map Eg.e), .slice t' s' (root.map (D.int .i64)), .slice tb sb (bans.map (D.int .i64)), .int .i64 fr, .int .i64 to, .int .i64 now, .int .i64 sz, .int .i64 by'] (fun r => r = zeroA) := by
  refine EvX_code rfl rfl ?_
  have hW := fun t t' => (s_Walk0 l (by omega) root (by omega) fr now sz hw t s hs t' s' hs').grow hx2
  by_cases hE : AskC l fr 0 0 ∧ ∃ es, stepsM l root fr = some es
  · obtain ⟨ha0, es, hes⟩ := hE
    have hE := fun t t' => (s_Ends1 l (by omega) root (by omega) fr ha0 es hes t s hs t' s' hs').grow hx2
    repeat' (first
 | (refine I_WS ?_; first
 | (refine I_mov ?_; first
 | refine W_mov (v := .int _ _) rfl rfl rfl ?_
 | refine W_mov (v := .bool _) rfl rfl rfl ?_
 | refine W_mov (v := .slice _ _ _) rfl rfl rfl ?_
 | refine W_mov (v := .tuple _) rfl rfl rfl ?_)
 | (refine I_call ?_; first
 | refine W_call rfl rfl rfl (hW _ _) rfl rfl ?_
 | (refine W_callTk rfl rfl rfl (hE _ _) rfl ?_; intro tn sn st2 hsn d1 d2 d3 d4 d5 d6))
 | (refine I_extract ?_; first
 | refine W_extract (d := .bool _) rfl rfl rfl rfl ?_
 | refine W_extract (d := .slice _ _ _) rfl rfl rfl rfl ?_)
 | (refine I_build ?_; first
 | refine W_build (cs := [_, _]) rfl rfl rfl ?_)
 | (refine I_box ?_; first
 | refine W_box1 (v := .slice _ _ _) rfl rfl rfl rfl rfl ?_)
 | refine W_not rfl rfl rfl ?_
 | refine W_alloc rfl rfl ?_
 | refine WS_nil ?_)
 | refine WC_seq ?_
 | refine WC_opsS ?_
 | refine WC_condT rfl ?_)
    have b1 : st2.boxes 1 = some (.cells [.slice .isnil 0 [], .int .i64 0]) := by rw [d1]; rfl
    have l2 : st2.lim ≤ 1 := by rw [d3]; exact Nat.zero_le _
    repeat' (first
 | (refine I_WS ?_; first
 | refine W_store (cs' := [_, _]) rfl rfl b1 rfl l2 rfl rfl rfl ?_
 | (refine I_mov ?_; first
 | refine W_mov (v := .bool _) rfl rfl rfl ?_)
 | refine WS_nil ?_)
 | refine WC_ret ?_)
    refine ⟨.inr rfl, _, (fin_A0 (i := 16) (j := 17) (q := 1) ?_ ?_ ?_ ?_).2, rfl⟩
    · rfl
    · rfl
    · exact l2
    · rfl
  · have hE0 : ¬ AskC l fr 0 0 ∨ stepsM l root fr = none := by
      by_cases h : AskC l fr 0 0
      · right
        cases h' : stepsM l root fr with
        | none => rfl
        | some es => exact absurd ⟨h, es, h'⟩ hE
      · exact .inl h
    have hE := fun t t' => (s_Ends0 l (by omega) root (by omega) fr hE0 t s hs t' s' hs').grow hx2
    repeat' (first
 | (refine I_WS ?_; first
 | (refine I_mov ?_; first
 | refine W_mov (v := .int _ _) rfl rfl rfl ?_
 | refine W_mov (v := .bool _) rfl rfl rfl ?_
 | refine W_mov (v := .slice _ _ _) rfl rfl rfl ?_
 | refine W_mov (v := .tuple _) rfl rfl rfl ?_)
 | (refine I_call ?_; first
 | refine W_call rfl rfl rfl (hW _ _) rfl rfl ?_
 | refine W_call rfl rfl rfl (hE _ _) rfl rfl ?_)
 | (refine I_extract ?_; first
 | refine W_extract (d := .bool _) rfl rfl rfl rfl ?_
 | refine W_extract (d := .slice _ _ _) rfl rfl rfl rfl ?_)
 | (refine I_build ?_; first
 | refine W_build (cs := [_, _]) rfl rfl rfl ?_)
 | (refine I_box ?_; first
 | refine W_box1 (v := .slice _ _ _) rfl rfl rfl rfl rfl ?_)
 | (refine I_store ?_; first
 | refine W_store (cs' := [_, _]) rfl rfl rfl rfl (by first | exact Nat.zero_le _ | omega) rfl rfl rfl ?_)
 | refine W_not rfl rfl rfl ?_
 | refine W_alloc rfl rfl ?_
 | refine WS_nil ?_)
 | refine WC_seq ?_
 | refine WC_opsS ?_
 | refine WC_condT rfl ?_
 | refine WC_ret ?_)
    exact ⟨.inr rfl, _, rfl, rfl⟩
def SpurD (sz now : Int) (o : Option (List Eg × Int)) (r : D) : Prop := match o with
  | some (es, a) => IsA Hp.e 3 (hopsW sz es now) [.int .i64 a] [.bool true] r
  | none => r = zeroA
theorem s_Spur (l : List Eg) (hll : l.length ≤ 900) (root bans : List Int) (hrl : root.length ≤ 1000) (hbl : bans.length ≤ 1000000) (fr to now sz by' : Int) (t t' tb : Tok) (s s' sb : Nat) (hs : s = 8 ∨ l = []) (hs' : s' = 1 ∨ root = []) (hsb : sb = 1 ∨ bans = []) :
    EvX Γ2 25 [.slice t s (l.map Eg.e), .slice t' s' (root.map (D.int .i64)), .slice tb sb (bans.map (D.int .i64)), .int .i64 fr, .int .i64 to, .int .i64 now, .int .i64 sz, .int .i64 by'] (SpurD sz now (spurM l root bans fr to now sz by')) := by
  cases hw : walkM l root fr now sz with
  | none =>
    have e : spurM l root bans fr to now sz by' = none := by unfold spurM; rw [if_pos hw]
    rw [e]
    exact s_SpurN l hll root bans hrl fr to now sz by' hw t t' tb s s' sb hs hs' hsb
  | some h =>
    obtain ⟨ha, es0, m, u, h1, hid, hwy, rfl⟩ := walk_way.1 hw
    by_cases hnd : (nodesW fr es0).Nodup
    · rw [spur_make hid ha hwy hnd]
      have hel : es0.length = root.length := by rw [← hid]; simp
      have hnl : (nodesW fr es0).length ≤ 1000000 := by simp [nodesW]; omega
      have hsl : (spurL l bans m).length ≤ l.length := List.length_filter_le _ _
      cases hb : bestM (spurL l bans m) m to u sz by' (nodesW fr es0) with
      | none =>
        have hB := fun t s t' s' h1 h2 => s_Best0 (spurL l bans m) (by omega) m to u sz by' (nodesW fr es0) hnl t t' s s' h1 h2 hb
        exact (s_SpurW l hll root bans hrl hbl fr to now sz by' es0 m u ha hid hwy hnd [] (by simp) 0 false (fun t s t' s' h1 h2 => ⟨_, ⟨.isnil, 0, .inr rfl, rfl⟩, hB t s t' s' h1 (.inl h2)⟩) t t' tb s s' sb hs hs' hsb).mono (fun r h => h)
      | some p =>
        obtain ⟨es1, a⟩ := p
        have hB := fun t s t' s' h1 h2 => s_Best (spurL l bans m) (by omega) m to u sz by' (nodesW fr es0) hnl t t' s s' h1 h2 es1 a hb
        have hl1 : (hopsW sz es1 u).length ≤ 1000 := by
          rw [hopsW_len]
          have := (best_some hb).few
          have := few_len this
          omega
        refine (s_SpurW l hll root bans hrl hbl fr to now sz by' es0 m u ha hid hwy hnd (hopsW sz es1 u) hl1 a true (fun t s t' s' h1 h2 => ?_) t t' tb s s' sb hs hs' hsb).mono (fun r h => ?_)
        · exact (hB t s t' s' h1 (.inl h2)).mono (fun r ⟨t5, s5, e, h⟩ => ⟨t5, s5, h, e⟩)
        · show IsA Hp.e 3 (hopsW sz (es0 ++ es1) now) [.int .i64 a] [.bool true] r
          rw [hopsW_app hwy]
          exact h
    · have e : spurM l root bans fr to now sz by' = none := by
        unfold spurM
        rw [if_neg (by rw [hw]; simp), h1]
        simp only
        rw [if_neg hnd]
      rw [e]
      exact s_SpurD l hll root bans hrl fr to now sz by' es0 m u ha hid hwy hnd t t' tb s s' sb hs hs' hsb
end Go.Lea
/-
  SpurBeats, as the evaluator runs it.
-/
namespace Go.Lea
open Go.Ev
set_option maxRecDepth 100000 in
theorem small18_run : isT (callP Γ2 400 24 []) = true := by decide +kernel
theorem s_small18 : EvP Γ2 24 [] (.bool true) := EvP_of_run (isT_eq small18_run)
end Go.Lea
/-
  SpurBans, as the evaluator runs it.
-/
namespace Go.Lea
open Go.Ev
theorem orI2 (x y : Int) : orI [x, y] = if x = 0 then y else x := by
  simp only [orI]
  split
  · split
    · rename_i h; exact h.symm
    · rfl
  · rfl
theorem cmpI_eq (a b : Int) : cmpI a b = if a < b then -1 else if b < a then 1 else 0 := rfl
theorem cmpR_eq (h : List Hp) (a : Int) (h' : List Hp) (a' : Int) : cmpR h a h' a' = if a < a' then -1 else if a' < a then 1 else if h.length < h'.length then -1 else if h'.length < h.length then 1 else lexI (h.map Hp.id) (h'.map Hp.id) := by
  unfold cmpR
  rw [orI2, orI2, cmpI_eq, cmpI_eq]
  by_cases h1 : a < a'
  · simp [h1]
  · by_cases h2 : a' < a
    · simp [h1, h2]
    · by_cases h3 : h.length < h'.length
      · simp [h1, h2, h3]
      · by_cases h4 : h'.length < h.length
        · simp [h1, h2, h3, h4]
        · simp [h1, h2, h3, h4]
theorem cmpR_anti (h : List Hp) (a : Int) (h' : List Hp) (a' : Int) : cmpR h a h' a' = - cmpR h' a' h a := by
  rw [cmpR_eq, cmpR_eq]
  have := lexI_anti (h.map Hp.id) (h'.map Hp.id)
  repeat' split
  all_goals omega
theorem s_LessR (h : List Hp) (a : Int) (h' : List Hp) (a' : Int) (hl : h.length ≤ 1000000) (hl' : h'.length ≤ 1000000) (t t' : Tok) (s s' : Nat) (hs : s = 3 ∨ h = []) (hs' : s' = 3 ∨ h' = []) : EvP Γ 27 [.agg [.slice t s (h.map Hp.e), .int .i64 a], .agg [.slice t' s' (h'.map Hp.e), .int .i64 a']] (.bool (decide (cmpR h a h' a' < 0))) := by
  refine EvP_code rfl rfl ?_
  have hC := fun t t' => s_CompareR h a h' a' hl hl' t t' s s' hs hs'
  by_cases hc : cmpR h a h' a' < 0
  · rw [decide_eq_true hc]
    repeat' (first
 | (refine I_WS ?_; first
 | refine W_lssT rfl rfl rfl rfl hc ?_
 | (refine I_mov ?_; first
 | refine W_mov (v := .bool _) rfl rfl rfl ?_)
 | (refine I_load ?_; first
 | refine W_load (agg := true) (d := .agg [_, _]) rfl rfl rfl rfl (by first | exact Nat.zero_le _ | omega) rfl ?_)
 | (refine I_call ?_; first
 | refine W_call rfl rfl rfl (hC _ _) rfl rfl ?_)
 | (refine I_box ?_; first
 | refine W_boxA rfl rfl rfl rfl rfl ?_)
 | refine WS_nil ?_)
 | refine WC_seq ?_
 | refine WC_opsS ?_
 | refine WC_ret ?_)
    exact fin_bool (.inr rfl) rfl rfl
  · rw [decide_eq_false hc]
    have hc' : 0 ≤ cmpR h a h' a' := by omega
    repeat' (first
 | (refine I_WS ?_; first
 | refine W_lssF rfl rfl rfl rfl hc' ?_
 | (refine I_mov ?_; first
 | refine W_mov (v := .bool _) rfl rfl rfl ?_)
 | (refine I_load ?_; first
 | refine W_load (agg := true) (d := .agg [_, _]) rfl rfl rfl rfl (by first | exact Nat.zero_le _ | omega) rfl ?_)
 | (refine I_call ?_; first
 | refine W_call rfl rfl rfl (hC _ _) rfl rfl ?_)
 | (refine I_box ?_; first
 | refine W_boxA rfl rfl rfl rfl rfl ?_)
 | refine WS_nil ?_)
 | refine WC_seq ?_
 | refine WC_opsS ?_
 | refine WC_ret ?_)
    exact fin_bool (.inr rfl) rfl rfl
def hsO (sz now : Int) : Option (List Eg × Int) → List Hp
  | some (es, _) => hopsW sz es now
  | none => []
def aO : Option (List Eg × Int) → Int
  | some (_, a) => a
  | none => 0
theorem SpurD.isA {sz now : Int} {o : Option (List Eg × Int)} {r : D} (h : SpurD sz now o r) : IsA Hp.e 3 (hsO sz now o) [.int .i64 (aO o)] [.bool o.isSome] r := by
  cases o with
  | none => exact ⟨.isnil, 0, h, .inr rfl⟩
  | some p => exact h
variable {l : List Eg} {root bans more : List Int} {fr to now sz by' : Int}
theorem SpurIn.less {es : List Eg} {u : Int} (h : SpurIn l root (bans ++ more) fr to now sz by' es u) : SpurIn l root bans fr to now sz by' es u :=
  ⟨h.route, h.le, h.pre, fun k hk hb => h.ban k hk (List.mem_append_left _ hb)⟩
theorem bans_none (h : spurM l root bans fr to now sz by' = none) : spurM l root (bans ++ more) fr to now sz by' = none := by
  cases h' : spurM l root (bans ++ more) fr to now sz by' with
  | none => rfl
  | some p =>
    obtain ⟨es, a⟩ := p
    obtain ⟨es', a', h2⟩ := spur_ex (spur_in h').less
    rw [h] at h2
    cases h2
theorem bans_less {es es' : List Eg} {a a' : Int} (h : spurM l root bans fr to now sz by' = some (es, a)) (h' : spurM l root (bans ++ more) fr to now sz by' = some (es', a')) (hm : ∃ m ∈ more, (es.map Eg.id)[root.length]? = some m) : cmpR (hopsW sz es now) a (hopsW sz es' now) a' < 0 := by
  have hin := spur_in h'
  rcases spur_best h hin.less with h1 | ⟨_, rfl, _⟩
  · rw [h1]; decide
  · obtain ⟨m, hm1, hm2⟩ := hm
    exact absurd (List.mem_append_right _ hm1) (hin.ban m hm2)
theorem bans_same {es : List Eg} {a : Int} (h : spurM l root bans fr to now sz by' = some (es, a)) (hm : ∀ m ∈ more, (es.map Eg.id)[root.length]? ≠ some m) : spurM l root (bans ++ more) fr to now sz by' = some (es, a) := by
  have hin := spur_in h
  have hin' : SpurIn l root (bans ++ more) fr to now sz by' es a := ⟨hin.route, hin.le, hin.pre, fun k hk hb => by
    rcases List.mem_append.1 hb with hb | hb
    · exact hin.ban k hk hb
    · exact hm k hb hk⟩
  obtain ⟨es', a', h'⟩ := spur_ex hin'
  have h1 := spur_best h' hin'
  have h2 := spur_best h (spur_in h').less
  rw [h']
  rcases h2 with h2 | ⟨_, rfl, rfl⟩
  · rcases h1 with h1 | ⟨h1, _, _⟩
    · have := cmpR_anti (hopsW sz es now) a (hopsW sz es' now) a'
      omega
    · have := cmpR_anti (hopsW sz es now) a (hopsW sz es' now) a'
      omega
  · rfl
set_option maxHeartbeats 4000000 in
theorem l_sbn (xs more : List Int) (hxl : xs.length ≤ 1000000) (hml : more.length ≤ 1000000) (root : List Int) (hkl : root.length ≤ 1000000) (okY : Bool) (q : Nat) (x y : List Hp) (a b : Int) (ta tb td : Tok) (sa sb sd : Nat) (hsd : sd = 1 ∨ xs = [])
    (hL : (∃ m ∈ more, xs[root.length]? = some m) → okY = true → ∀ t t', EvP Γ2 27 [.agg [.slice t sa (x.map Hp.e), .int .i64 a], .agg [.slice t' sb (y.map Hp.e), .int .i64 b]] (.bool true)) : ∀ (T A0 : List Int), more = A0 ++ T → (∀ m ∈ A0, xs[root.length]? ≠ some m) → ∀ (ρ : Nat → D) (st : Store), st.lim ≤ 0 → st.boxes 0 = some (.cells [.slice ta sa (x.map Hp.e), .int .i64 a]) → st.boxes q = some (.cells [.slice tb sb (y.map Hp.e), .int .i64 b]) →
    ρ 1 = .slice .no 1 (root.map (D.int .i64)) → ρ 3 = .slice .no 1 (more.map (D.int .i64)) → ρ 20 = .ptr 0 0 → ρ 22 = .ptr q 0 → ρ 23 = .bool okY → ρ 19 = .bool true → ρ 24 = .slice td sd (xs.map (D.int .i64)) → ρ 25 = .int .i64 A0.length → ∀ (Q : X → (Nat → D) → Store → Prop),
    ((∀ m ∈ more, xs[root.length]? ≠ some m) → ∀ ρ', ρ' 20 = .ptr 0 0 → ρ' 22 = .ptr q 0 → ρ' 23 = .bool okY → ρ' 19 = .bool true → Q (.exit 0) ρ' st) → (∀ ρ', ρ' 18 = .bool true → Q .ret ρ' st) → WC Γ2 (.loop c_feluccalaw18_SpurBans_l0) ρ st Q := by
  intro T
  induction T with
  | nil =>
    intro A0 hL0 hA ρ st hlim b0 bq h1 h3 h20 h22 h23 h19 h24 h25 Q hQ hR
    rw [List.append_nil] at hL0
    subst hL0
    rw [← upd_self h1, ← upd_self h3, ← upd_self h20, ← upd_self h22, ← upd_self h23, ← upd_self h19, ← upd_self h24, ← upd_self h25]
    refine WC_loop ?_
    repeat' (first
 | (refine I_WS ?_; first
 | refine W_lenM rfl rfl rfl ?_
 | (refine I_mov ?_; first
 | refine W_mov (v := .int _ _) rfl rfl rfl ?_
 | refine W_mov (v := .slice _ _ _) rfl rfl rfl ?_)
 | (refine I_bin ?_; first
 | refine W_lssF rfl rfl rfl rfl (by omega) ?_)
 | refine WS_nil ?_)
 | refine WC_seq ?_
 | refine WC_opsS ?_
 | refine WC_condF rfl ?_
 | refine WC_exit ?_)
    all_goals first | (exfalso; omega) | (refine hQ hA _ ?_ ?_ ?_ ?_ <;> rfl)
  | cons m T ih =>
    intro A0 hL0 hA ρ st hlim b0 bq h1 h3 h20 h22 h23 h19 h24 h25 Q hQ hR
    have hi : A0.length < more.length := by rw [hL0]; simp
    have hlt : (A0.length : Int) < ((more.length : Nat) : Int) := by omega
    have hb : more[A0.length]? = some m := by rw [hL0]; simp
    have hl0 : A0.length < (more.map (D.int .i64)).length := by rw [List.length_map]; omega
    have hadd : IntKind.i64.wrap ((A0.length : Int) + 1) = ((A0 ++ [m]).length : Nat) := by rw [w64 (by omega)]; simp
    have l0 : st.lim ≤ 0 := hlim
    have lq : st.lim ≤ q := by omega
    have b0c : (st.boxes 0).bind Box.cs = some [.slice ta sa (x.map Hp.e), .int .i64 a] := by rw [b0]; rfl
    have bqc : (st.boxes q).bind Box.cs = some [.slice tb sb (y.map Hp.e), .int .i64 b] := by rw [bq]; rfl
    by_cases hkx : root.length < xs.length
    · obtain ⟨z, hz⟩ : ∃ z, xs[root.length]? = some z := ⟨_, List.getElem?_eq_getElem hkx⟩
      have hkx' : ((root.length : Nat) : Int) < ((xs.length : Nat) : Int) := by omega
      have hl1 : root.length < (xs.map (D.int .i64)).length := by rw [List.length_map]; omega
      have hsd1 : sd = 1 := sz_of hsd (by omega)
      by_cases hzm : z = m
      · have hL1 := hL ⟨m, by rw [hL0]; simp, by rw [hz, hzm]⟩
        clear ih hL
        cases okY with
        | false =>
          rw [← upd_self h1, ← upd_self h3, ← upd_self h20, ← upd_self h22, ← upd_self h23, ← upd_self h19, ← upd_self h24, ← upd_self h25]
          refine WC_loop ?_
          repeat' (first
 | (refine I_WS ?_; first
 | refine W_lenM rfl rfl rfl ?_
 | refine W_lssT rfl rfl rfl rfl hlt ?_
 | refine W_gtrT rfl rfl rfl rfl hkx' ?_
 | refine W_eqlT rfl rfl rfl rfl hzm ?_
 | refine W_iaddr (j := root.length) rfl rfl rfl rfl hsd1 hl1 ?_
 | refine W_iaddr (j := A0.length) rfl rfl rfl rfl rfl hl0 ?_
 | (refine I_mov ?_; first
 | refine W_mov (v := .int _ _) rfl rfl rfl ?_
 | refine W_mov (v := .bool _) rfl rfl rfl ?_
 | refine W_mov (v := .slice _ _ _) rfl rfl rfl ?_)
 | (refine I_load ?_; first
 | refine W_skip rfl ?_
 | refine W_loadE (agg := false) (d := .int _ _) rfl rfl rfl hz rfl ?_
 | refine W_loadE (agg := false) (d := .int _ _) rfl rfl rfl hb rfl ?_)
 | (refine I_call ?_; first
 | refine W_skip rfl ?_)
 | (refine I_pick ?_; first
 | refine W_pick (v := .bool _) rfl rfl rfl rfl ?_)
 | refine W_not rfl rfl rfl ?_
 | refine WS_nil ?_)
 | refine okF_intro (okFlags_onlyR rfl) ?_
 | refine WC_seq ?_
 | refine WC_opsS ?_
 | refine WC_drawS ?_
 | refine WC_skip ?_
 | refine WC_condT rfl ?_
 | refine WC_block ?_
 | refine WC_ret ?_)
          all_goals first | (exfalso; omega) | (exact hR _ rfl)
        | true =>
          have hL2 := hL1 rfl
          rw [← upd_self h1, ← upd_self h3, ← upd_self h20, ← upd_self h22, ← upd_self h23, ← upd_self h19, ← upd_self h24, ← upd_self h25]
          refine WC_loop ?_
          repeat' (first
 | (refine I_WS ?_; first
 | refine W_lenM rfl rfl rfl ?_
 | refine W_lssT rfl rfl rfl rfl hlt ?_
 | refine W_gtrT rfl rfl rfl rfl hkx' ?_
 | refine W_eqlT rfl rfl rfl rfl hzm ?_
 | refine W_iaddr (j := root.length) rfl rfl rfl rfl hsd1 hl1 ?_
 | refine W_iaddr (j := A0.length) rfl rfl rfl rfl rfl hl0 ?_
 | (refine I_mov ?_; first
 | refine W_mov (v := .int _ _) rfl rfl rfl ?_
 | refine W_mov (v := .bool _) rfl rfl rfl ?_
 | refine W_mov (v := .slice _ _ _) rfl rfl rfl ?_)
 | (refine I_load ?_; first
 | refine W_loadE (agg := false) (d := .int _ _) rfl rfl rfl hz rfl ?_
 | refine W_loadE (agg := false) (d := .int _ _) rfl rfl rfl hb rfl ?_
 | refine W_load (agg := true) (d := .agg [_, _]) rfl rfl rfl b0c l0 rfl ?_
 | refine W_load (agg := true) (d := .agg [_, _]) rfl rfl rfl bqc lq rfl ?_)
 | (refine I_call ?_; first
 | refine W_call rfl rfl rfl (hL2 _ _) rfl rfl ?_)
 | (refine I_pick ?_; first
 | refine W_pick (v := .bool _) rfl rfl rfl rfl ?_)
 | refine W_not rfl rfl rfl ?_
 | refine WS_nil ?_)
 | refine okF_intro (okFlags_onlyR rfl) ?_
 | refine WC_seq ?_
 | refine WC_opsS ?_
 | refine WC_drawS ?_
 | refine WC_skip ?_
 | refine WC_condT rfl ?_
 | refine WC_block ?_
 | refine WC_ret ?_)
          all_goals first | (exfalso; omega) | (exact hR _ rfl)
      · have hnx := ih (A0 ++ [m]) (by rw [hL0]; simp) (fun c hc => by
          rcases List.mem_append.1 hc with h | h
          · exact hA c h
          · rw [List.mem_singleton.1 h, hz]
            intro e
            cases e
            exact hzm rfl)
        clear ih hL
        rw [← upd_self h1, ← upd_self h3, ← upd_self h20, ← upd_self h22, ← upd_self h23, ← upd_self h19, ← upd_self h24, ← upd_self h25]
        refine WC_loop ?_
        repeat' (first
 | (refine I_WS ?_; first
 | refine W_lenM rfl rfl rfl ?_
 | refine W_lssT rfl rfl rfl rfl hlt ?_
 | refine W_gtrT rfl rfl rfl rfl hkx' ?_
 | refine W_eqlF rfl rfl rfl rfl hzm ?_
 | refine W_add (s := (((A0 ++ [m]).length : Nat) : Int)) rfl rfl rfl rfl hadd ?_
 | refine W_iaddr (j := root.length) rfl rfl rfl rfl hsd1 hl1 ?_
 | refine W_iaddr (j := A0.length) rfl rfl rfl rfl rfl hl0 ?_
 | (refine I_mov ?_; first
 | refine W_mov (v := .int _ _) rfl rfl rfl ?_
 | refine W_mov (v := .bool _) rfl rfl rfl ?_
 | refine W_mov (v := .slice _ _ _) rfl rfl rfl ?_)
 | (refine I_load ?_; first
 | refine W_loadE (agg := false) (d := .int _ _) rfl rfl rfl hz rfl ?_
 | refine W_loadE (agg := false) (d := .int _ _) rfl rfl rfl hb rfl ?_)
 | (refine I_pick ?_; first
 | refine W_pick (v := .bool _) rfl rfl rfl rfl ?_)
 | refine WS_nil ?_)
 | refine okF_intro (okFlags_onlyR rfl) ?_
 | refine WC_seq ?_
 | refine WC_opsS ?_
 | refine WC_drawS ?_
 | refine WC_skip ?_
 | refine WC_condT rfl ?_
 | refine WC_condF rfl ?_
 | refine WC_block ?_)
        all_goals first | (exfalso; omega) | (refine hnx _ _ hlim b0 bq ?_ ?_ ?_ ?_ ?_ ?_ ?_ ?_ Q hQ hR <;> rfl)
    · have hkx' : ((xs.length : Nat) : Int) ≤ ((root.length : Nat) : Int) := by omega
      have hnone : xs[root.length]? = none := List.getElem?_eq_none (by omega)
      have hnx := ih (A0 ++ [m]) (by rw [hL0]; simp) (fun c hc => by rw [hnone]; simp)
      clear ih hL
      rw [← upd_self h1, ← upd_self h3, ← upd_self h20, ← upd_self h22, ← upd_self h23, ← upd_self h19, ← upd_self h24, ← upd_self h25]
      refine WC_loop ?_
      repeat' (first
 | (refine I_WS ?_; first
 | refine W_lenM rfl rfl rfl ?_
 | refine W_lssT rfl rfl rfl rfl hlt ?_
 | refine W_gtrF rfl rfl rfl rfl hkx' ?_
 | refine W_add (s := (((A0 ++ [m]).length : Nat) : Int)) rfl rfl rfl rfl hadd ?_
 | (refine I_mov ?_; first
 | refine W_skip rfl ?_
 | refine W_mov (v := .int _ _) rfl rfl rfl ?_
 | refine W_mov (v := .bool _) rfl rfl rfl ?_
 | refine W_mov (v := .slice _ _ _) rfl rfl rfl ?_)
 | (refine I_bin ?_; first
 | refine W_skip rfl ?_)
 | (refine I_load ?_; first
 | refine W_skip rfl ?_)
 | (refine I_pick ?_; first
 | refine W_pick (v := .bool _) rfl rfl rfl rfl ?_)
 | refine W_skip rfl ?_
 | refine WS_nil ?_)
 | refine okF_intro (okFlags_onlyR rfl) ?_
 | refine WC_seq ?_
 | refine WC_opsS ?_
 | refine WC_drawS ?_
 | refine WC_skip ?_
 | refine WC_condT rfl ?_
 | refine WC_condF rfl ?_
 | refine WC_block ?_)
      all_goals first | (exfalso; omega) | (refine hnx _ _ hlim b0 bq ?_ ?_ ?_ ?_ ?_ ?_ ?_ ?_ Q hQ hR <;> rfl)
set_option maxHeartbeats 16000000 in
theorem run_SBans (l : List Eg) (root bans more : List Int) (fr to now sz by' : Int) : EvP Γ2 9 [.slice .no 8 (l.map Eg.e), .slice .no 1 (root.map (D.int .i64)), .slice .no 1 (bans.map (D.int .i64)), .slice .no 1 (more.map (D.int .i64)), .int .i64 fr, .int .i64 to, .int .i64 now, .int .i64 sz, .int .i64 by'] (.bool true) := by
  refine EvP_code rfl rfl ?_
  by_cases hf : l.length ≤ 20 ∧ root.length ≤ 20 ∧ bans.length ≤ 20 ∧ more.length ≤ 20
  · obtain ⟨f1, f2, f3, f4⟩ := hf
    have hX := (s_Spur l (by omega) root bans (by omega) (by omega) fr to now sz by' .no .no .no 8 1 1 (.inl rfl) (.inl rfl) (.inl rfl)).mono (fun r h => h.isA)
    have hY := (s_Spur l (by omega) root (bans ++ more) (by omega) (by rw [List.length_append]; omega) fr to now sz by' .no .no .no 8 1 1 (.inl rfl) (.inl rfl) (.inl rfl)).mono (fun r h => h.isA)
    have hno := bans_none (l := l) (root := root) (bans := bans) (more := more) (fr := fr) (to := to) (now := now) (sz := sz) (by' := by')
    have hlt := fun es es' a a' => bans_less (l := l) (root := root) (bans := bans) (more := more) (fr := fr) (to := to) (now := now) (sz := sz) (by' := by') (es := es) (es' := es') (a := a) (a' := a')
    have hsm := fun es a => bans_same (l := l) (root := root) (bans := bans) (more := more) (fr := fr) (to := to) (now := now) (sz := sz) (by' := by') (es := es) (a := a)
    have hin := fun bs es a => spur_in (l := l) (root := root) (bans := bs) (fr := fr) (to := to) (now := now) (sz := sz) (by' := by') (es := es) (a := a)
    have hbl : ∀ ys : List D, ys.length ≤ 40 → ys.length * 8 ≤ 140737488355328 := fun ys h => by omega
    have hb1 : (([] : List D).length + (bans.map (D.int .i64)).length) * 8 ≤ 140737488355328 := by simp; omega
    have hb2 : (([] ++ bans.map (D.int .i64)).length + (more.map (D.int .i64)).length) * 8 ≤ 140737488355328 := by simp; omega
    have hmap : [] ++ bans.map (D.int .i64) ++ more.map (D.int .i64) = (bans ++ more).map (D.int .i64) := by simp
    cases hoX : spurM l root bans fr to now sz by' with
    | none =>
      rw [hno hoX] at hY
      rw [hoX] at hX
      repeat' (first
 | (refine I_WS ?_; first
 | refine W_lenM rfl rfl rfl ?_
 | refine W_store (cs' := [_, _]) rfl rfl rfl rfl (Nat.zero_le _) rfl rfl rfl ?_
 | (refine W_app (xs := []) rfl rfl rfl (.inl ⟨.inr rfl, .inl rfl⟩) (.inl rfl) hb1 (Nat.zero_le _) rfl ?_ <;> intro k1 st1 c1 c2 c3 c4 c5 c6 c7)
 | (refine I_mov ?_; first
 | refine W_mov (v := .int _ _) rfl rfl rfl ?_
 | refine W_mov (v := .bool _) rfl rfl rfl ?_
 | refine W_mov (v := .slice _ _ _) rfl rfl rfl ?_
 | refine W_mov (v := .tuple _) rfl rfl rfl ?_)
 | (refine I_bin ?_; first
 | refine W_gtrF rfl rfl rfl rfl (by omega) ?_)
 | (refine I_call ?_; first
 | refine W_call rfl rfl rfl s_small18 rfl rfl ?_
 | (refine W_callA rfl rfl rfl hX rfl ?_; intro ta sa hsa tk1 nt1))
 | (refine I_pick ?_; first
 | refine W_pick (v := .bool _) rfl rfl rfl rfl ?_)
 | (refine I_extract ?_; first
 | refine W_extract (d := .bool _) rfl rfl rfl rfl ?_
 | refine W_extract (d := .agg _) rfl rfl rfl rfl ?_)
 | refine W_alloc rfl rfl ?_
 | refine W_bslice (ys := []) rfl rfl rfl (by decide) rfl ?_
 | refine WS_nil ?_)
 | refine WC_seq ?_
 | refine WC_opsS ?_
 | refine WC_skip ?_
 | refine WC_condF rfl ?_)
      all_goals first | (exfalso; omega) | skip
      repeat' (first
 | (refine I_WS ?_; first
 | (refine W_app rfl rfl rfl (.inr ⟨k1, rfl, c6, c7, rfl⟩) (.inl rfl) hb2 c5 rfl ?_ <;> intro k2 st2 d1 d2 d3 d4 d5 d6 d7 <;> rw [hmap])
 | (refine I_mov ?_; first
 | refine W_mov (v := .int _ _) rfl rfl rfl ?_)))
      have b20 : st2.boxes 0 = some (.cells [.slice ta sa ((hsO sz now none).map Hp.e), .int .i64 (aO none)]) := by rw [d1, c1]; rfl
      have n2 : st2.next = 1 := d2.trans c2
      have l2 : st2.lim = 0 := d3.trans c3
      clear c1 c2 c3 c4 c5 c6 c7 d1 d2 d3 d4 d5 d6 d7 hb1 hb2
      have hln : st2.lim ≤ st2.next := by omega
      have l20 : st2.lim ≤ 0 := by omega
      have h0n : (0 : Nat) ≠ st2.next := by omega
      have b0u : ∀ {x y : Option Box}, ((upd (upd st2.boxes st2.next x) st2.next y) 0).bind Box.cs = some [.slice ta sa ((hsO sz now none).map Hp.e), .int .i64 (aO none)] := fun {x y} => by rw [upd_ne _ _ h0n, upd_ne _ _ h0n, b20]; rfl
      have b0v : ∀ (x y : Option Box), (upd (upd st2.boxes st2.next x) st2.next y) 0 = some (.cells [.slice ta sa ((hsO sz now none).map Hp.e), .int .i64 (aO none)]) := fun x y => by rw [upd_ne _ _ h0n, upd_ne _ _ h0n, b20]
      repeat' (first
 | (refine I_WS ?_; first
 | refine W_store (cs' := [_, _]) rfl rfl (upd_same _ _ _) rfl hln rfl rfl rfl ?_
 | (refine I_mov ?_; first
 | refine W_mov (v := .bool _) rfl rfl rfl ?_
 | refine W_mov (v := .tuple _) rfl rfl rfl ?_)
 | (refine I_call ?_; first
 | (refine W_callA rfl rfl rfl hY rfl ?_; intro tb sb hsb tk2 nt2))
 | (refine I_pick ?_; first
 | refine W_pick (v := .bool _) rfl rfl rfl rfl ?_)
 | (refine I_extract ?_; first
 | refine W_extract (d := .bool _) rfl rfl rfl rfl ?_
 | refine W_extract (d := .agg _) rfl rfl rfl rfl ?_)
 | refine W_not rfl rfl rfl ?_
 | refine W_alloc rfl rfl ?_
 | refine WS_nil ?_)
 | refine WC_seq ?_
 | refine WC_opsS ?_
 | refine WC_condT rfl ?_
 | refine WC_ret ?_)
      all_goals first | exact fin_bool (.inr rfl) rfl rfl | (exfalso; omega)
    | some p =>
      obtain ⟨es, a⟩ := p
      have hiX := hin bans es a hoX
      have hnX := nd_len hiX.route
      have hhX := hopsW_len sz es now
      have hidX := hopsW_ids sz es now
      have hI := fun t s h => (s_IDs (hopsW sz es now) (by omega) a t s h).grow hx2
      rw [hidX] at hI
      rw [hoX] at hX
      have hxl : (es.map Eg.id).length ≤ 1000000 := by rw [List.length_map]; omega
      cases hoY : spurM l root (bans ++ more) fr to now sz by' with
      | none =>
        rw [hoY] at hY
        have hex : ¬ (∀ m ∈ more, (es.map Eg.id)[root.length]? ≠ some m) := fun h => by
          have := hsm es a hoX h
          rw [hoY] at this
          cases this
        clear hin hsm hlt hno hiX hhX hidX
        repeat' (first
 | (refine I_WS ?_; first
 | refine W_lenM rfl rfl rfl ?_
 | refine W_store (cs' := [_, _]) rfl rfl rfl rfl (Nat.zero_le _) rfl rfl rfl ?_
 | (refine W_app (xs := []) rfl rfl rfl (.inl ⟨.inr rfl, .inl rfl⟩) (.inl rfl) hb1 (Nat.zero_le _) rfl ?_ <;> intro k1 st1 c1 c2 c3 c4 c5 c6 c7)
 | (refine I_mov ?_; first
 | refine W_mov (v := .int _ _) rfl rfl rfl ?_
 | refine W_mov (v := .bool _) rfl rfl rfl ?_
 | refine W_mov (v := .slice _ _ _) rfl rfl rfl ?_
 | refine W_mov (v := .tuple _) rfl rfl rfl ?_)
 | (refine I_bin ?_; first
 | refine W_gtrF rfl rfl rfl rfl (by omega) ?_)
 | (refine I_call ?_; first
 | refine W_call rfl rfl rfl s_small18 rfl rfl ?_
 | (refine W_callA rfl rfl rfl hX rfl ?_; intro ta sa hsa tk1 nt1))
 | (refine I_pick ?_; first
 | refine W_pick (v := .bool _) rfl rfl rfl rfl ?_)
 | (refine I_extract ?_; first
 | refine W_extract (d := .bool _) rfl rfl rfl rfl ?_
 | refine W_extract (d := .agg _) rfl rfl rfl rfl ?_)
 | refine W_alloc rfl rfl ?_
 | refine W_bslice (ys := []) rfl rfl rfl (by decide) rfl ?_
 | refine WS_nil ?_)
 | refine WC_seq ?_
 | refine WC_opsS ?_
 | refine WC_skip ?_
 | refine WC_condF rfl ?_)
        all_goals first | (exfalso; omega) | skip
        repeat' (first
 | (refine I_WS ?_; first
 | (refine W_app rfl rfl rfl (.inr ⟨k1, rfl, c6, c7, rfl⟩) (.inl rfl) hb2 c5 rfl ?_ <;> intro k2 st2 d1 d2 d3 d4 d5 d6 d7 <;> rw [hmap])
 | (refine I_mov ?_; first
 | refine W_mov (v := .int _ _) rfl rfl rfl ?_)))
        have b20 : st2.boxes 0 = some (.cells [.slice ta sa ((hsO sz now (some (es, a))).map Hp.e), .int .i64 (aO (some (es, a)))]) := by rw [d1, c1]; rfl
        have n2 : st2.next = 1 := d2.trans c2
        have l2 : st2.lim = 0 := d3.trans c3
        clear c1 c2 c3 c4 c5 c6 c7 d1 d2 d3 d4 d5 d6 d7 hb1 hb2
        have hln : st2.lim ≤ st2.next := by omega
        have l20 : st2.lim ≤ 0 := by omega
        have h0n : (0 : Nat) ≠ st2.next := by omega
        have b0u : ∀ {x y : Option Box}, ((upd (upd st2.boxes st2.next x) st2.next y) 0).bind Box.cs = some [.slice ta sa ((hsO sz now (some (es, a))).map Hp.e), .int .i64 (aO (some (es, a)))] := fun {x y} => by rw [upd_ne _ _ h0n, upd_ne _ _ h0n, b20]; rfl
        have b0v : ∀ (x y : Option Box), (upd (upd st2.boxes st2.next x) st2.next y) 0 = some (.cells [.slice ta sa ((hsO sz now (some (es, a))).map Hp.e), .int .i64 (aO (some (es, a)))]) := fun x y => by rw [upd_ne _ _ h0n, upd_ne _ _ h0n, b20]
        repeat' (first
 | (refine I_WS ?_; first
 | refine W_store (cs' := [_, _]) rfl rfl (upd_same _ _ _) rfl hln rfl rfl rfl ?_
 | (refine I_mov ?_; first
 | refine W_mov (v := .int _ _) rfl rfl rfl ?_
 | refine W_mov (v := .bool _) rfl rfl rfl ?_
 | refine W_mov (v := .slice _ _ _) rfl rfl rfl ?_
 | refine W_mov (v := .tuple _) rfl rfl rfl ?_)
 | (refine I_load ?_; first
 | refine W_load (agg := true) (d := .agg [_, _]) rfl rfl rfl b0u l20 rfl ?_)
 | (refine I_call ?_; first
 | (refine W_callA rfl rfl rfl hY rfl ?_; intro tb sb hsb tk2 nt2)
 | (refine W_callN rfl rfl rfl (hI _ _ hsa) rfl ?_; intro td sd hsd htd))
 | (refine I_extract ?_; first
 | refine W_extract (d := .bool _) rfl rfl rfl rfl ?_
 | refine W_extract (d := .agg _) rfl rfl rfl rfl ?_)
 | refine W_not rfl rfl rfl ?_
 | refine W_alloc rfl rfl ?_
 | refine WS_nil ?_)
 | refine WC_seq ?_
 | refine WC_opsS ?_
 | refine WC_skip ?_
 | refine WC_condF rfl ?_
 | refine WC_block ?_)
        all_goals first | (exfalso; omega) | skip
        refine l_sbn (es.map Eg.id) more hxl (by omega) root (by omega) false st2.next (hopsW sz es now) [] a 0 ta tb td sa sb sd hsd (fun _ h => by cases h) more [] rfl (fun m hm => absurd hm List.not_mem_nil) _ _ ?_ ?_ ?_ rfl rfl rfl rfl rfl rfl rfl rfl _ (fun h => absurd h hex) (fun ρ2 k18 => ?_)
        · exact l20
        · exact b0v _ _
        · exact upd_same _ _ _
        · rw [← upd_self k18]
          exact fin_bool (.inr rfl) rfl rfl
      | some q =>
        obtain ⟨es', a'⟩ := q
        have hiY := hin (bans ++ more) es' a' hoY
        have hnY := nd_len hiY.route
        have hhY := hopsW_len sz es' now
        rw [hoY] at hY
        have hss : (∀ m ∈ more, (es.map Eg.id)[root.length]? ≠ some m) → es' = es ∧ a' = a := fun h => by
          have := hsm es a hoX h
          rw [hoY] at this
          cases this
          exact ⟨rfl, rfl⟩
        clear hin hsm hno hiX hiY hidX
        repeat' (first
 | (refine I_WS ?_; first
 | refine W_lenM rfl rfl rfl ?_
 | refine W_store (cs' := [_, _]) rfl rfl rfl rfl (Nat.zero_le _) rfl rfl rfl ?_
 | (refine W_app (xs := []) rfl rfl rfl (.inl ⟨.inr rfl, .inl rfl⟩) (.inl rfl) hb1 (Nat.zero_le _) rfl ?_ <;> intro k1 st1 c1 c2 c3 c4 c5 c6 c7)
 | (refine I_mov ?_; first
 | refine W_mov (v := .int _ _) rfl rfl rfl ?_
 | refine W_mov (v := .bool _) rfl rfl rfl ?_
 | refine W_mov (v := .slice _ _ _) rfl rfl rfl ?_
 | refine W_mov (v := .tuple _) rfl rfl rfl ?_)
 | (refine I_bin ?_; first
 | refine W_gtrF rfl rfl rfl rfl (by omega) ?_)
 | (refine I_call ?_; first
 | refine W_call rfl rfl rfl s_small18 rfl rfl ?_
 | (refine W_callA rfl rfl rfl hX rfl ?_; intro ta sa hsa tk1 nt1))
 | (refine I_pick ?_; first
 | refine W_pick (v := .bool _) rfl rfl rfl rfl ?_)
 | (refine I_extract ?_; first
 | refine W_extract (d := .bool _) rfl rfl rfl rfl ?_
 | refine W_extract (d := .agg _) rfl rfl rfl rfl ?_)
 | refine W_alloc rfl rfl ?_
 | refine W_bslice (ys := []) rfl rfl rfl (by decide) rfl ?_
 | refine WS_nil ?_)
 | refine WC_seq ?_
 | refine WC_opsS ?_
 | refine WC_skip ?_
 | refine WC_condF rfl ?_)
        all_goals first | (exfalso; omega) | skip
        repeat' (first
 | (refine I_WS ?_; first
 | (refine W_app rfl rfl rfl (.inr ⟨k1, rfl, c6, c7, rfl⟩) (.inl rfl) hb2 c5 rfl ?_ <;> intro k2 st2 d1 d2 d3 d4 d5 d6 d7 <;> rw [hmap])
 | (refine I_mov ?_; first
 | refine W_mov (v := .int _ _) rfl rfl rfl ?_)))
        have b20 : st2.boxes 0 = some (.cells [.slice ta sa ((hsO sz now (some (es, a))).map Hp.e), .int .i64 (aO (some (es, a)))]) := by rw [d1, c1]; rfl
        have n2 : st2.next = 1 := d2.trans c2
        have l2 : st2.lim = 0 := d3.trans c3
        clear c1 c2 c3 c4 c5 c6 c7 d1 d2 d3 d4 d5 d6 d7 hb1 hb2
        have hln : st2.lim ≤ st2.next := by omega
        have l20 : st2.lim ≤ 0 := by omega
        have h0n : (0 : Nat) ≠ st2.next := by omega
        have b0u : ∀ {x y : Option Box}, ((upd (upd st2.boxes st2.next x) st2.next y) 0).bind Box.cs = some [.slice ta sa ((hsO sz now (some (es, a))).map Hp.e), .int .i64 (aO (some (es, a)))] := fun {x y} => by rw [upd_ne _ _ h0n, upd_ne _ _ h0n, b20]; rfl
        have b0v : ∀ (x y : Option Box), (upd (upd st2.boxes st2.next x) st2.next y) 0 = some (.cells [.slice ta sa ((hsO sz now (some (es, a))).map Hp.e), .int .i64 (aO (some (es, a)))]) := fun x y => by rw [upd_ne _ _ h0n, upd_ne _ _ h0n, b20]
        repeat' (first
 | (refine I_WS ?_; first
 | refine W_store (cs' := [_, _]) rfl rfl (upd_same _ _ _) rfl hln rfl rfl rfl ?_
 | (refine I_mov ?_; first
 | refine W_mov (v := .int _ _) rfl rfl rfl ?_
 | refine W_mov (v := .bool _) rfl rfl rfl ?_
 | refine W_mov (v := .slice _ _ _) rfl rfl rfl ?_
 | refine W_mov (v := .tuple _) rfl rfl rfl ?_)
 | (refine I_load ?_; first
 | refine W_load (agg := true) (d := .agg [_, _]) rfl rfl rfl b0u l20 rfl ?_)
 | (refine I_call ?_; first
 | (refine W_callA rfl rfl rfl hY rfl ?_; intro tb sb hsb tk2 nt2)
 | (refine W_callN rfl rfl rfl (hI _ _ hsa) rfl ?_; intro td sd hsd htd))
 | (refine I_extract ?_; first
 | refine W_extract (d := .bool _) rfl rfl rfl rfl ?_
 | refine W_extract (d := .agg _) rfl rfl rfl rfl ?_)
 | refine W_not rfl rfl rfl ?_
 | refine W_alloc rfl rfl ?_
 | refine WS_nil ?_)
 | refine WC_seq ?_
 | refine WC_opsS ?_
 | refine WC_skip ?_
 | refine WC_condF rfl ?_
 | refine WC_block ?_)
        all_goals first | (exfalso; omega) | skip
        refine l_sbn (es.map Eg.id) more hxl (by omega) root (by omega) true st2.next (hopsW sz es now) (hopsW sz es' now) a a' ta tb td sa sb sd hsd (fun hm _ t t' => ?_) more [] rfl (fun m hm => absurd hm List.not_mem_nil) _ _ ?_ ?_ ?_ rfl rfl rfl rfl rfl rfl rfl rfl _ (fun h ρ2 k20 k22 k23 k19 => ?_) (fun ρ2 k18 => ?_)
        · have hc := hlt es es' a a' hoX hoY hm
          have := (s_LessR (hopsW sz es now) a (hopsW sz es' now) a' (by omega) (by omega) t t' sa sb hsa hsb).grow hx2
          rw [decide_eq_true hc] at this
          exact this
        · exact l20
        · exact b0v _ _
        · exact upd_same _ _ _
        · obtain ⟨rfl, rfl⟩ := hss h
          have hSm := fun t t' => (s_SameR (hopsW sz es' now) (hopsW sz es' now) a' a' (by omega) t t' sa sb hsa hsb).grow hx2
          rw [decide_eq_true (⟨rfl, rfl⟩ : a' = a' ∧ hopsW sz es' now = hopsW sz es' now)] at hSm
          rw [← upd_self k20, ← upd_self k22, ← upd_self k23, ← upd_self k19]
          repeat' (first
 | (refine I_WS ?_; first
 | (refine I_mov ?_; first
 | refine W_mov (v := .bool _) rfl rfl rfl ?_)
 | (refine I_load ?_; first
 | refine W_load (agg := true) (d := .agg [_, _]) rfl rfl rfl b0u l20 rfl ?_
 | refine W_load (agg := true) (d := .agg [_, _]) rfl rfl rfl (bxc rfl) hln rfl ?_)
 | (refine I_call ?_; first
 | refine W_call rfl rfl rfl (hSm _ _) rfl rfl ?_)
 | (refine I_pick ?_; first
 | refine W_pick (v := .bool _) rfl rfl rfl rfl ?_)
 | refine WS_nil ?_)
 | refine WC_seq ?_
 | refine WC_opsS ?_
 | refine WC_ret ?_)
          exact fin_bool (.inr rfl) rfl rfl
        · rw [← upd_self k18]
          exact fin_bool (.inr rfl) rfl rfl
  · repeat' (first
 | (refine I_WS ?_; first
 | refine W_lenM rfl rfl rfl ?_
 | (refine I_mov ?_; first
 | refine W_skip rfl ?_
 | refine W_mov (v := .bool _) rfl rfl rfl ?_
 | refine W_mov (v := .slice _ _ _) rfl rfl rfl ?_)
 | (refine I_bin ?_; first
 | refine W_skip rfl ?_
 | refine W_gtrT rfl rfl rfl rfl (by omega) ?_
 | (refine W_gtr rfl rfl rfl rfl ?_ ?_ <;> intro _))
 | (refine I_call ?_; first
 | refine W_call rfl rfl rfl s_small18 rfl rfl ?_)
 | (refine I_pick ?_; first
 | refine W_pick (v := .bool _) rfl rfl rfl rfl ?_)
 | refine W_skip rfl ?_
 | refine WS_nil ?_)
 | refine WC_seq ?_
 | refine WC_opsS ?_
 | refine WC_condT rfl ?_
 | refine WC_ret ?_)
    all_goals first | exact fin_bool (.inr rfl) rfl rfl | (exfalso; omega)
end Go.Lea
