/-
  What the reference's heap comes to.
-/
import Derived.Test.YtbmhgigljbikhaaHeaHeaY
set_option linter.unusedVariables false
set_option linter.unusedSimpArgs false
set_option linter.unnecessarySimpa false
namespace Go.Hea
open Go.Ev
set_option linter.unusedVariables false
set_option linter.unusedSimpArgs false
/-- The reference's heap: a row in order. -/
structure RHp (st : Store) (g : Nat) (s : List Rd) : Prop where
  lim : st.lim ≤ g
  nx : g < st.next
  tk : st.tlim ≤ st.ntok
  sl : ∃ t sz, st.boxes g = some (.cells [.slice t sz (s.map Rd.e)]) ∧ (sz = 2 ∨ s = [])
theorem RHp.of {st st' : Store} {g : Nat} {s : List Rd} (H : RHp st g s) (hl : st'.lim = st.lim) (hn : st.next ≤ st'.next) (ht : st'.tlim ≤ st'.ntok) (hb : st'.boxes g = st.boxes g) : RHp st' g s := by
  obtain ⟨h1, h2, h3, h4⟩ := H
  exact ⟨by rw [hl]; exact h1, Nat.lt_of_lt_of_le h2 hn, ht, by rw [hb]; exact h4⟩
/-- All but one box is as it was. -/
structure Fg (st st' : Store) (g : Nat) : Prop where
  lim : st'.lim = st.lim
  tlim : st'.tlim = st.tlim
  next : st.next ≤ st'.next
  box : ∀ q, q < st.next → q ≠ g → st'.boxes q = st.boxes q
theorem s_Less (a b : Rd) : EvP Γ 46 [a.e, b.e] (.bool (decide (a.lt b))) := by
  refine EvP_code rfl rfl ?_
  unfold Rd.lt
  repeat' (first
    | (refine I_WS ?_; first
      | (refine I_mov ?_; first
          | refine W_skip rfl ?_
          | refine W_mov (v := .int _ _) rfl rfl rfl ?_
          | refine W_mov (v := .bool _) rfl rfl rfl ?_
          | refine W_mov (v := .slice _ _ _) rfl rfl rfl ?_
          | refine W_mov (v := .agg _) rfl rfl rfl ?_
          | refine W_mov (v := .ptr _ _) rfl rfl rfl ?_
          | refine W_mov (v := .func _ _) rfl rfl rfl ?_
          | refine W_mov (v := .eptr _ _ _ _) rfl rfl rfl ?_
          | refine W_mov (v := .rs _ _ _ _ _) rfl rfl rfl ?_
          | refine W_mov (v := .tuple _) rfl rfl rfl ?_
          | refine W_mov (v := .map _) rfl rfl rfl ?_
          | refine W_mov (v := .str _) rfl rfl rfl ?_
          | refine W_mov (v := .nilptr) rfl rfl rfl ?_)
      | (refine I_bin ?_; first
          | refine W_skip rfl ?_
          | refine W_lssT rfl rfl rfl rfl (by omega) ?_
          | refine W_lssF rfl rfl rfl rfl (by omega) ?_
          | (refine W_lss rfl rfl rfl rfl ?_ ?_ <;> intro _)
          | refine W_eqlT rfl rfl rfl rfl (by omega) ?_
          | refine W_eqlF rfl rfl rfl rfl (by omega) ?_
          | (refine W_eql rfl rfl rfl rfl ?_ ?_ <;> intro _))
      | (refine I_load ?_; first
          | refine W_skip rfl ?_
          | refine W_load (agg := false) (d := .int _ _) rfl rfl rfl rfl (by first | exact Nat.zero_le _ | omega) rfl ?_
          | refine W_load (agg := false) (d := .bool _) rfl rfl rfl rfl (by first | exact Nat.zero_le _ | omega) rfl ?_
          | refine W_load (agg := false) (d := .slice _ _ _) rfl rfl rfl rfl (by first | exact Nat.zero_le _ | omega) rfl ?_
          | refine W_load (agg := false) (d := .ptr _ _) rfl rfl rfl rfl (by first | exact Nat.zero_le _ | omega) rfl ?_
          | refine W_load (agg := false) (d := .func _ _) rfl rfl rfl rfl (by first | exact Nat.zero_le _ | omega) rfl ?_
          | refine W_load (agg := true) (d := .agg [_, _]) rfl rfl rfl rfl (by first | exact Nat.zero_le _ | omega) rfl ?_)
      | (refine I_pick ?_; first
          | refine W_pick (v := .int _ _) rfl rfl rfl rfl ?_
          | refine W_pick (v := .bool _) rfl rfl rfl rfl ?_
          | refine W_pick (v := .slice _ _ _) rfl rfl rfl rfl ?_
          | refine W_pick (v := .agg _) rfl rfl rfl rfl ?_
          | refine W_skip rfl ?_)
      | (refine I_box ?_; first
          | refine W_boxA rfl rfl rfl rfl rfl ?_
          | refine W_box1 (v := .slice _ _ _) rfl rfl rfl rfl rfl ?_
          | refine W_box1 (v := .int _ _) rfl rfl rfl rfl rfl ?_
          | refine W_box1 (v := .bool _) rfl rfl rfl rfl rfl ?_
          | refine W_box1 (v := .ptr _ _) rfl rfl rfl rfl rfl ?_
          | refine W_skip rfl ?_)
      | refine W_faddr rfl rfl rfl ?_
      | refine W_faddrE rfl rfl rfl ?_
      | refine W_faddrM rfl rfl ?_
      | refine W_skip rfl ?_
      | refine WS_nil ?_)
    | refine WC_seq ?_
    | refine WC_opsS ?_
    | refine WC_skip ?_
    | refine WC_ret ?_)
  all_goals (refine fin_bool (by simp) rfl ?_; first | (simp_all; done) | (simp_all; omega) | (simp only [eq_comm (a := true), eq_comm (a := false), decide_eq_true_eq, decide_eq_false_iff_not] at *; omega) | grind)
theorem rs_sl {st : Store} {g : Nat} {s : List Rd} (H : RHp st g s) : ∃ t sz, (st.boxes g).bind Box.cs = some [.slice t sz (s.map Rd.e)] ∧ (sz = 2 ∨ s = []) := by
  obtain ⟨_, _, _, t, sz, h1, h2⟩ := H
  exact ⟨t, sz, by rw [h1]; rfl, h2⟩
theorem g_Len {st : Store} {g : Nat} {s : List Rd} (H : RHp st g s) : EvRO Γ 23 [.ptr g 0] st (.int .i64 s.length) := by
  have hh := H.nx
  obtain ⟨t, sz, hb, hsz⟩ := rs_sl H
  refine EvRO_code rfl rfl rfl ?_
  repeat' (first
    | (refine I_WS ?_; first
      | refine W_lenM rfl rfl rfl ?_
      | (refine I_mov ?_; first
          | refine W_skip rfl ?_
          | refine W_mov (v := .int _ _) rfl rfl rfl ?_
          | refine W_mov (v := .bool _) rfl rfl rfl ?_
          | refine W_mov (v := .slice _ _ _) rfl rfl rfl ?_
          | refine W_mov (v := .agg _) rfl rfl rfl ?_
          | refine W_mov (v := .ptr _ _) rfl rfl rfl ?_
          | refine W_mov (v := .func _ _) rfl rfl rfl ?_
          | refine W_mov (v := .eptr _ _ _ _) rfl rfl rfl ?_
          | refine W_mov (v := .rs _ _ _ _ _) rfl rfl rfl ?_
          | refine W_mov (v := .tuple _) rfl rfl rfl ?_
          | refine W_mov (v := .map _) rfl rfl rfl ?_
          | refine W_mov (v := .str _) rfl rfl rfl ?_
          | refine W_mov (v := .nilptr) rfl rfl rfl ?_)
      | (refine I_load ?_; first
          | refine W_skip rfl ?_
          | refine W_loadC (agg := false) (d := .slice _ sz (s.map Rd.e)) rfl rfl rfl hb hh rfl ?_
          | refine W_load (agg := false) (d := .int _ _) rfl rfl rfl rfl (by first | exact Nat.zero_le _ | omega) rfl ?_
          | refine W_load (agg := false) (d := .bool _) rfl rfl rfl rfl (by first | exact Nat.zero_le _ | omega) rfl ?_
          | refine W_load (agg := false) (d := .slice _ _ _) rfl rfl rfl rfl (by first | exact Nat.zero_le _ | omega) rfl ?_
          | refine W_load (agg := false) (d := .ptr _ _) rfl rfl rfl rfl (by first | exact Nat.zero_le _ | omega) rfl ?_
          | refine W_load (agg := false) (d := .func _ _) rfl rfl rfl rfl (by first | exact Nat.zero_le _ | omega) rfl ?_)
      | refine W_lenS0 rfl rfl rfl ?_
      | refine W_lenM rfl rfl rfl ?_
      | refine W_lenS rfl rfl rfl ?_
      | refine W_lenR rfl rfl rfl ?_
      | refine W_faddr rfl rfl rfl ?_
      | refine W_faddrE rfl rfl rfl ?_
      | refine W_nilCheckM rfl rfl ?_
      | refine W_nilCheckE rfl rfl rfl ?_
      | refine W_nilCheckF rfl rfl rfl ?_
      | refine W_faddrM rfl rfl ?_
      | refine W_skip rfl ?_
      | refine WS_nil ?_)
    | refine WC_seq ?_
    | refine WC_opsS ?_
    | refine WC_skip ?_
    | refine WC_ret ?_)
  exact ⟨.inr rfl, rfl⟩
theorem g_Peek {st : Store} {g : Nat} {s : List Rd} (H : RHp st g s) (hs : s.length ≤ 1073741823) : EvRO Γ 21 [.ptr g 0] st (.tuple [(hdR s).e, .bool (decide (0 < s.length))]) := by
  have hh := H.nx
  have hne : g ≠ st.next := Nat.ne_of_lt hh
  obtain ⟨t, sz, hb, hsz⟩ := rs_sl H
  cases s with
  | nil =>
    refine EvRO_code rfl rfl rfl ?_
    repeat' (first
    | (refine I_WS ?_; first
      | refine W_store (cs' := [_, _]) rfl rfl (upd_same _ _ _) rfl (Nat.le_refl _) rfl rfl rfl ?_
      | (refine I_mov ?_; first
          | refine W_skip rfl ?_
          | refine W_mov (v := .int _ _) rfl rfl rfl ?_
          | refine W_mov (v := .bool _) rfl rfl rfl ?_
          | refine W_mov (v := .slice _ _ _) rfl rfl rfl ?_
          | refine W_mov (v := .agg _) rfl rfl rfl ?_
          | refine W_mov (v := .ptr _ _) rfl rfl rfl ?_
          | refine W_mov (v := .func _ _) rfl rfl rfl ?_
          | refine W_mov (v := .eptr _ _ _ _) rfl rfl rfl ?_
          | refine W_mov (v := .rs _ _ _ _ _) rfl rfl rfl ?_
          | refine W_mov (v := .tuple _) rfl rfl rfl ?_
          | refine W_mov (v := .map _) rfl rfl rfl ?_
          | refine W_mov (v := .str _) rfl rfl rfl ?_
          | refine W_mov (v := .nilptr) rfl rfl rfl ?_)
      | (refine I_bin ?_; first
          | refine W_skip rfl ?_
          | refine W_eqlT rfl rfl rfl rfl (by omega) ?_
          | refine W_eqlF rfl rfl rfl rfl (by omega) ?_
          | (refine W_eql rfl rfl rfl rfl ?_ ?_ <;> intro _))
      | (refine I_load ?_; first
          | refine W_skip rfl ?_
          | refine W_loadC (agg := false) (d := .slice _ sz []) rfl rfl rfl (bxs hne hb) hh rfl ?_
          | refine W_load (agg := true) (d := .agg [_, _]) rfl rfl rfl (bxc rfl) (Nat.le_refl _) rfl ?_
          | refine W_load (agg := false) (d := .int _ _) rfl rfl rfl rfl (by first | exact Nat.zero_le _ | omega) rfl ?_
          | refine W_load (agg := false) (d := .bool _) rfl rfl rfl rfl (by first | exact Nat.zero_le _ | omega) rfl ?_
          | refine W_load (agg := false) (d := .slice _ _ _) rfl rfl rfl rfl (by first | exact Nat.zero_le _ | omega) rfl ?_
          | refine W_load (agg := false) (d := .ptr _ _) rfl rfl rfl rfl (by first | exact Nat.zero_le _ | omega) rfl ?_
          | refine W_load (agg := false) (d := .func _ _) rfl rfl rfl rfl (by first | exact Nat.zero_le _ | omega) rfl ?_
          | refine W_load (agg := true) (d := .agg [_, _]) rfl rfl rfl rfl (by first | exact Nat.zero_le _ | omega) rfl ?_)
      | (refine I_build ?_; first
          | refine W_build (cs := [_, _]) rfl rfl rfl ?_
          | refine W_skip rfl ?_)
      | (refine I_store ?_; first
          | refine W_store (cs' := [_, _]) rfl rfl rfl rfl (by first | exact Nat.zero_le _ | omega) rfl rfl rfl ?_
          | refine W_skip0 rfl ?_)
      | refine W_lenS0 rfl rfl rfl ?_
      | refine W_lenM rfl rfl rfl ?_
      | refine W_lenS rfl rfl rfl ?_
      | refine W_lenR rfl rfl rfl ?_
      | refine W_faddr rfl rfl rfl ?_
      | refine W_faddrE rfl rfl rfl ?_
      | refine W_nilCheckM rfl rfl ?_
      | refine W_nilCheckE rfl rfl rfl ?_
      | refine W_nilCheckF rfl rfl rfl ?_
      | refine W_faddrM rfl rfl ?_
      | refine W_alloc rfl rfl ?_
      | refine W_skip rfl ?_
      | refine W_iaddr rfl rfl rfl rfl (by first | rfl | exact sz_of (by assumption) (by omega)) (by first | decide | (simp only [List.length_map]; omega)) ?_
      | refine W_iaddrRN rfl rfl rfl rfl rfl (by decide) ?_
      | refine W_iaddrR rfl rfl rfl rfl (by first | decide | omega) ?_
      | refine W_skip rfl ?_
      | refine WS_nil ?_)
    | refine WC_seq ?_
    | refine WC_opsS ?_
    | refine WC_skip ?_
    | refine WC_condT rfl ?_
    | refine WC_condF rfl ?_
    | refine WC_ret ?_)
    refine ⟨.inr rfl, ?_⟩
    simp [resAll, resD, c_feluccaref14_Heap_Peek, upd, Store.cellsAt, Box.cs, cut, finD, D.free, D.free1, retD, retFirst, freshen, D.strip, D.strip1, hdR, Rd.e, Box.set]
  | cons x s =>
    have hsz : sz = 2 := by rcases hsz with h | h; exact h; cases h
    subst hsz
    have hv : (x :: s)[0]? = some x := rfl
    have hl0 : ¬ (((x :: s).length : Nat) : Int) = 0 := by simp; omega
    refine EvRO_code rfl rfl rfl ?_
    repeat' (first
    | (refine I_WS ?_; first
      | refine W_store (cs' := [_, _]) rfl rfl (upd_same _ _ _) rfl (Nat.le_refl _) rfl rfl rfl ?_
      | (refine I_mov ?_; first
          | refine W_skip rfl ?_
          | refine W_mov (v := .int _ _) rfl rfl rfl ?_
          | refine W_mov (v := .bool _) rfl rfl rfl ?_
          | refine W_mov (v := .slice _ _ _) rfl rfl rfl ?_
          | refine W_mov (v := .agg _) rfl rfl rfl ?_
          | refine W_mov (v := .ptr _ _) rfl rfl rfl ?_
          | refine W_mov (v := .func _ _) rfl rfl rfl ?_
          | refine W_mov (v := .eptr _ _ _ _) rfl rfl rfl ?_
          | refine W_mov (v := .rs _ _ _ _ _) rfl rfl rfl ?_
          | refine W_mov (v := .tuple _) rfl rfl rfl ?_
          | refine W_mov (v := .map _) rfl rfl rfl ?_
          | refine W_mov (v := .str _) rfl rfl rfl ?_
          | refine W_mov (v := .nilptr) rfl rfl rfl ?_)
      | (refine I_bin ?_; first
          | refine W_skip rfl ?_
          | refine W_eqlT rfl rfl rfl rfl (by omega) ?_
          | refine W_eqlF rfl rfl rfl rfl (by omega) ?_
          | (refine W_eql rfl rfl rfl rfl ?_ ?_ <;> intro _))
      | (refine I_load ?_; first
          | refine W_skip rfl ?_
          | refine W_loadC (agg := false) (d := .slice _ 2 ((x :: s).map Rd.e)) rfl rfl rfl (bxs hne hb) hh rfl ?_
          | refine W_loadE (agg := true) (d := .agg [_, _]) rfl rfl rfl hv rfl ?_
          | refine W_load (agg := true) (d := .agg [_, _]) rfl rfl rfl (bxc rfl) (Nat.le_refl _) rfl ?_
          | refine W_load (agg := false) (d := .int _ _) rfl rfl rfl rfl (by first | exact Nat.zero_le _ | omega) rfl ?_
          | refine W_load (agg := false) (d := .bool _) rfl rfl rfl rfl (by first | exact Nat.zero_le _ | omega) rfl ?_
          | refine W_load (agg := false) (d := .slice _ _ _) rfl rfl rfl rfl (by first | exact Nat.zero_le _ | omega) rfl ?_
          | refine W_load (agg := false) (d := .ptr _ _) rfl rfl rfl rfl (by first | exact Nat.zero_le _ | omega) rfl ?_
          | refine W_load (agg := false) (d := .func _ _) rfl rfl rfl rfl (by first | exact Nat.zero_le _ | omega) rfl ?_
          | refine W_load (agg := true) (d := .agg [_, _]) rfl rfl rfl rfl (by first | exact Nat.zero_le _ | omega) rfl ?_)
      | (refine I_build ?_; first
          | refine W_build (cs := [_, _]) rfl rfl rfl ?_
          | refine W_skip rfl ?_)
      | (refine I_store ?_; first
          | refine W_store (cs' := [_, _]) rfl rfl rfl rfl (by first | exact Nat.zero_le _ | omega) rfl rfl rfl ?_
          | refine W_skip0 rfl ?_)
      | refine W_lenS0 rfl rfl rfl ?_
      | refine W_lenM rfl rfl rfl ?_
      | refine W_lenS rfl rfl rfl ?_
      | refine W_lenR rfl rfl rfl ?_
      | refine W_faddr rfl rfl rfl ?_
      | refine W_faddrE rfl rfl rfl ?_
      | refine W_nilCheckM rfl rfl ?_
      | refine W_nilCheckE rfl rfl rfl ?_
      | refine W_nilCheckF rfl rfl rfl ?_
      | refine W_faddrM rfl rfl ?_
      | refine W_alloc rfl rfl ?_
      | refine W_skip rfl ?_
      | refine W_iaddr rfl rfl rfl rfl (by first | rfl | exact sz_of (by assumption) (by omega)) (by first | decide | (simp only [List.length_map]; omega)) ?_
      | refine W_iaddrRN rfl rfl rfl rfl rfl (by decide) ?_
      | refine W_iaddrR rfl rfl rfl rfl (by first | decide | omega) ?_
      | refine W_skip rfl ?_
      | refine WS_nil ?_)
    | refine WC_seq ?_
    | refine WC_opsS ?_
    | refine WC_skip ?_
    | refine WC_condT rfl ?_
    | refine WC_condF rfl ?_
    | refine WC_ret ?_)
    refine ⟨.inr rfl, ?_⟩
    simp [resAll, resD, c_feluccaref14_Heap_Peek, upd, Store.cellsAt, Box.cs, cut, finD, D.free, D.free1, retD, retFirst, freshen, D.strip, D.strip1, hdR, Rd.e, Box.set]
theorem resPop2 {ρ : Nat → D} {st : Store} {p : Nat} {a b : D} {t : Bool} (h2 : ρ 2 = .ptr p 0) (h3 : ρ 3 = .bool t) (hb : (st.boxes p).bind Box.cs = some [a, b]) (hl : st.lim ≤ p) : resAll ρ st c_feluccaref14_Heap_Pop.res = some (.tuple [.agg [a, b], .bool t]) := by
  simp [resAll, resD, c_feluccaref14_Heap_Pop, h2, h3, Store.cellsAt, hb, Nat.not_lt.mpr hl, cut]
theorem g_Pop {st : Store} {g : Nat} {s : List Rd} (H : RHp st g s) (hs : s.length ≤ 1073741823) :
    EvRWX Γ 19 [.ptr g 0] st (fun r st' => r = .tuple [(hdR s).e, .bool (decide (0 < s.length))] ∧ RHp st' g s.tail ∧ Fg st st' g) := by
  have hlim := H.lim
  have hnx := H.nx
  have htk := H.tk
  have hl2 : st.lim ≤ st.next := Nat.le_trans hlim (Nat.le_of_lt hnx)
  have hne : g ≠ st.next := Nat.ne_of_lt hnx
  have hne1 : st.next ≠ st.next + 1 := by omega
  have hg1 : g ≠ st.next + 1 := by omega
  have H1 : ∀ {x : Option Box}, RHp { st with boxes := upd st.boxes st.next x, next := st.next + 1 } g s := fun {x} => H.of rfl (Nat.le_succ _) htk (upd_ne _ _ hne)
  have hpk := fun {x} => g_Peek (H1 (x := x)) hs
  obtain ⟨t, sz, hb, hsz⟩ := rs_sl H
  obtain ⟨_, _, _, _, _, hb', _⟩ := id H
  cases s with
  | nil =>
    refine EvRWX_code rfl rfl ?_
    repeat' (first
    | (refine I_WS ?_; first
      | refine W_store (cs' := [_, _]) rfl rfl (upd_same _ _ _) rfl (Nat.le_succ_of_le hl2) rfl rfl rfl ?_
      | refine W_store (cs' := [_, _]) rfl rfl ((upd_ne _ _ hne1).trans ((upd_ne _ _ hne1).trans (upd_same _ _ _))) rfl hl2 rfl rfl rfl ?_
      | (refine I_mov ?_; first
          | refine W_skip rfl ?_
          | refine W_mov (v := .int _ _) rfl rfl rfl ?_
          | refine W_mov (v := .bool _) rfl rfl rfl ?_
          | refine W_mov (v := .slice _ _ _) rfl rfl rfl ?_
          | refine W_mov (v := .agg _) rfl rfl rfl ?_
          | refine W_mov (v := .ptr _ _) rfl rfl rfl ?_
          | refine W_mov (v := .func _ _) rfl rfl rfl ?_
          | refine W_mov (v := .eptr _ _ _ _) rfl rfl rfl ?_
          | refine W_mov (v := .rs _ _ _ _ _) rfl rfl rfl ?_
          | refine W_mov (v := .tuple _) rfl rfl rfl ?_
          | refine W_mov (v := .map _) rfl rfl rfl ?_
          | refine W_mov (v := .str _) rfl rfl rfl ?_
          | refine W_mov (v := .nilptr) rfl rfl rfl ?_)
      | (refine I_load ?_; first
          | refine W_skip rfl ?_
          | refine W_load (agg := true) (d := .agg [_, _]) rfl rfl rfl (bxc rfl) (Nat.le_succ_of_le hl2) rfl ?_
          | refine W_load (agg := false) (d := .int _ _) rfl rfl rfl rfl (by first | exact Nat.zero_le _ | omega) rfl ?_
          | refine W_load (agg := false) (d := .bool _) rfl rfl rfl rfl (by first | exact Nat.zero_le _ | omega) rfl ?_
          | refine W_load (agg := false) (d := .slice _ _ _) rfl rfl rfl rfl (by first | exact Nat.zero_le _ | omega) rfl ?_
          | refine W_load (agg := false) (d := .ptr _ _) rfl rfl rfl rfl (by first | exact Nat.zero_le _ | omega) rfl ?_
          | refine W_load (agg := false) (d := .func _ _) rfl rfl rfl rfl (by first | exact Nat.zero_le _ | omega) rfl ?_
          | refine W_load (agg := true) (d := .agg [_, _]) rfl rfl rfl rfl (by first | exact Nat.zero_le _ | omega) rfl ?_)
      | (refine I_call ?_; first
          | refine W_skip rfl ?_
          | refine W_callRO rfl rfl rfl hpk rfl rfl ?_)
      | (refine I_extract ?_; first
          | refine W_extract (d := .int _ _) rfl rfl rfl rfl ?_
          | refine W_extract (d := .bool _) rfl rfl rfl rfl ?_
          | refine W_extract (d := .slice _ _ _) rfl rfl rfl rfl ?_
          | refine W_extract (d := .agg _) rfl rfl rfl rfl ?_
          | refine W_extract (d := .ptr _ _) rfl rfl rfl rfl ?_
          | refine W_extract (d := .func _ _) rfl rfl rfl rfl ?_
          | refine W_skip rfl ?_)
      | (refine I_store ?_; first
          | refine W_store (cs' := [_, _]) rfl rfl rfl rfl (by first | exact Nat.zero_le _ | omega) rfl rfl rfl ?_
          | refine W_skip0 rfl ?_)
      | refine W_faddr rfl rfl rfl ?_
      | refine W_faddrE rfl rfl rfl ?_
      | refine W_nilCheckM rfl rfl ?_
      | refine W_nilCheckE rfl rfl rfl ?_
      | refine W_nilCheckF rfl rfl rfl ?_
      | refine W_faddrM rfl rfl ?_
      | refine W_alloc rfl rfl ?_
      | (refine W_sliceLoN rfl rfl (by first | exact .inl rfl | assumption) rfl (by first | omega | (simp; omega)) rfl ?_ <;> intro _)
      | (refine W_sliceHiN rfl rfl (by first | exact .inl rfl | assumption) rfl (by first | omega | (simp; omega)) rfl ?_ <;> intro _)
      | (refine W_sliceLo rfl rfl (by first | exact .inl rfl | assumption) rfl (by first | omega | (simp; omega)) rfl ?_ <;> intro _)
      | (refine W_sliceHi rfl rfl (by first | exact .inl rfl | assumption) rfl (by first | omega | (simp; omega)) rfl ?_ <;> intro _)
      | refine W_skip rfl ?_
      | refine WS_nil ?_)
    | refine WC_seq ?_
    | refine WC_opsS ?_
    | refine WC_skip ?_
    | refine WC_condT rfl ?_
    | refine WC_condF rfl ?_
    | refine WC_ret ?_)
    refine ⟨.inr rfl, _, resPop2 rfl rfl (bxc rfl) hl2, rfl, H.of rfl ?_ htk ?_, ⟨rfl, rfl, ?_, fun q hq _ => ?_⟩⟩
    · show st.next ≤ st.next + 1 + 1; omega
    · exact (upd_ne _ _ hne).trans ((upd_ne _ _ hg1).trans ((upd_ne _ _ hg1).trans (upd_ne _ _ hne)))
    · show st.next ≤ st.next + 1 + 1; omega
    · have k1 : q ≠ st.next := Nat.ne_of_lt hq
      have k2 : q ≠ st.next + 1 := by omega
      exact (upd_ne _ _ k1).trans ((upd_ne _ _ k2).trans ((upd_ne _ _ k2).trans (upd_ne _ _ k1)))
  | cons x s =>
    have hsz : sz = 2 := by rcases hsz with h | h; exact h; cases h
    subst hsz
    have hok : (decide (0 < (x :: s).length)) = true := by simp
    rw [hok] at hpk ⊢
    have hbg : ∀ {u v w : Option Box}, ((upd (upd (upd st.boxes st.next u) (st.next + 1) v) (st.next + 1) w) g).bind Box.cs = some [.slice t 2 ((x :: s).map Rd.e)] := fun {u v w} => by
      rw [upd_ne _ _ hg1, upd_ne _ _ hg1, upd_ne _ _ hne]; exact hb
    have hbg2 : ∀ {u v w : Option Box}, (upd (upd (upd st.boxes st.next u) (st.next + 1) v) (st.next + 1) w) g = some (.cells [_]) := fun {u v w} => by
      rw [upd_ne _ _ hg1, upd_ne _ _ hg1, upd_ne _ _ hne]; exact hb'
    refine EvRWX_code rfl rfl ?_
    repeat' (first
    | (refine I_WS ?_; first
      | (refine W_sliceLo (j := 1) (ls := x :: s) (f := Rd.e) rfl rfl (.inl rfl) rfl (by simp) rfl ?_ <;> intro t2)
      | refine W_store (cs' := [_]) rfl rfl hbg2 rfl hlim rfl rfl rfl ?_
      | refine W_store (cs' := [_, _]) rfl rfl (upd_same _ _ _) rfl (Nat.le_succ_of_le hl2) rfl rfl rfl ?_
      | refine W_store (cs' := [_, _]) rfl rfl ((upd_ne _ _ (Ne.symm hne)).trans ((upd_ne _ _ hne1).trans ((upd_ne _ _ hne1).trans (upd_same _ _ _)))) rfl hl2 rfl rfl rfl ?_
      | (refine I_mov ?_; first
          | refine W_skip rfl ?_
          | refine W_mov (v := .int _ _) rfl rfl rfl ?_
          | refine W_mov (v := .bool _) rfl rfl rfl ?_
          | refine W_mov (v := .slice _ _ _) rfl rfl rfl ?_
          | refine W_mov (v := .agg _) rfl rfl rfl ?_
          | refine W_mov (v := .ptr _ _) rfl rfl rfl ?_
          | refine W_mov (v := .func _ _) rfl rfl rfl ?_
          | refine W_mov (v := .eptr _ _ _ _) rfl rfl rfl ?_
          | refine W_mov (v := .rs _ _ _ _ _) rfl rfl rfl ?_
          | refine W_mov (v := .tuple _) rfl rfl rfl ?_
          | refine W_mov (v := .map _) rfl rfl rfl ?_
          | refine W_mov (v := .str _) rfl rfl rfl ?_
          | refine W_mov (v := .nilptr) rfl rfl rfl ?_)
      | (refine I_load ?_; first
          | refine W_skip rfl ?_
          | refine W_load (agg := false) (d := .slice _ 2 ((x :: s).map Rd.e)) rfl rfl rfl hbg hlim rfl ?_
          | refine W_load (agg := true) (d := .agg [_, _]) rfl rfl rfl (bxs (Ne.symm hg1) (bxc rfl)) (Nat.le_succ_of_le hl2) rfl ?_
          | refine W_load (agg := false) (d := .int _ _) rfl rfl rfl rfl (by first | exact Nat.zero_le _ | omega) rfl ?_
          | refine W_load (agg := false) (d := .bool _) rfl rfl rfl rfl (by first | exact Nat.zero_le _ | omega) rfl ?_
          | refine W_load (agg := false) (d := .slice _ _ _) rfl rfl rfl rfl (by first | exact Nat.zero_le _ | omega) rfl ?_
          | refine W_load (agg := false) (d := .ptr _ _) rfl rfl rfl rfl (by first | exact Nat.zero_le _ | omega) rfl ?_
          | refine W_load (agg := false) (d := .func _ _) rfl rfl rfl rfl (by first | exact Nat.zero_le _ | omega) rfl ?_
          | refine W_load (agg := true) (d := .agg [_, _]) rfl rfl rfl rfl (by first | exact Nat.zero_le _ | omega) rfl ?_)
      | (refine I_call ?_; first
          | refine W_skip rfl ?_
          | refine W_callRO rfl rfl rfl hpk rfl rfl ?_)
      | (refine I_extract ?_; first
          | refine W_extract (d := .int _ _) rfl rfl rfl rfl ?_
          | refine W_extract (d := .bool _) rfl rfl rfl rfl ?_
          | refine W_extract (d := .slice _ _ _) rfl rfl rfl rfl ?_
          | refine W_extract (d := .agg _) rfl rfl rfl rfl ?_
          | refine W_extract (d := .ptr _ _) rfl rfl rfl rfl ?_
          | refine W_extract (d := .func _ _) rfl rfl rfl rfl ?_
          | refine W_skip rfl ?_)
      | (refine I_store ?_; first
          | refine W_store (cs' := [_, _]) rfl rfl rfl rfl (by first | exact Nat.zero_le _ | omega) rfl rfl rfl ?_
          | refine W_skip0 rfl ?_)
      | refine W_faddr rfl rfl rfl ?_
      | refine W_faddrE rfl rfl rfl ?_
      | refine W_nilCheckM rfl rfl ?_
      | refine W_nilCheckE rfl rfl rfl ?_
      | refine W_nilCheckF rfl rfl rfl ?_
      | refine W_faddrM rfl rfl ?_
      | refine W_alloc rfl rfl ?_
      | (refine W_sliceLoN rfl rfl (by first | exact .inl rfl | assumption) rfl (by first | omega | (simp; omega)) rfl ?_ <;> intro _)
      | (refine W_sliceHiN rfl rfl (by first | exact .inl rfl | assumption) rfl (by first | omega | (simp; omega)) rfl ?_ <;> intro _)
      | (refine W_sliceLo rfl rfl (by first | exact .inl rfl | assumption) rfl (by first | omega | (simp; omega)) rfl ?_ <;> intro _)
      | (refine W_sliceHi rfl rfl (by first | exact .inl rfl | assumption) rfl (by first | omega | (simp; omega)) rfl ?_ <;> intro _)
      | refine W_skip rfl ?_
      | refine WS_nil ?_)
    | refine WC_seq ?_
    | refine WC_opsS ?_
    | refine WC_skip ?_
    | refine WC_condT rfl ?_
    | refine WC_condF rfl ?_
    | refine WC_ret ?_)
    refine ⟨.inr rfl, _, resPop2 rfl rfl (bxc rfl) hl2, rfl, ⟨hlim, ?_, htk, t2, 2, ?_, .inl rfl⟩, ⟨rfl, rfl, ?_, fun q hq hqg => ?_⟩⟩
    · show g < st.next + 1 + 1; omega
    · exact (upd_ne _ _ hne).trans (upd_same _ _ _)
    · show st.next ≤ st.next + 1 + 1; omega
    · have k1 : q ≠ st.next := Nat.ne_of_lt hq
      have k2 : q ≠ st.next + 1 := by omega
      exact (upd_ne _ _ k1).trans ((upd_ne _ _ hqg).trans ((upd_ne _ _ k2).trans ((upd_ne _ _ k2).trans (upd_ne _ _ k1))))
theorem ins_app {r : Rd} : ∀ {pre post : List Rd}, (∀ x ∈ pre, x.lt r) → (∀ x p, post = x :: p → ¬ x.lt r) → ins r (pre ++ post) = pre ++ r :: post
  | [], [], _, _ => rfl
  | [], x :: p, _, h => by simp only [List.nil_append, ins]; rw [if_neg (h x p rfl)]
  | y :: pre, post, h, h' => by
    simp only [List.cons_append, ins]
    rw [if_pos (h y (by simp)), ins_app (fun x hx => h x (by simp [hx])) h']
theorem l_gpush {st : Store} {g p : Nat} {s : List Rd} (hs : s.length ≤ 1073741822) (H : RHp st g s) (r : Rd) (hp : (st.boxes p).bind Box.cs = some [.int .i64 r.node, .int .i64 r.at']) (hpl : st.lim ≤ p) : ∀ (post pre : List Rd), s = pre ++ post → (∀ x ∈ pre, x.lt r) → ∀ (ρ : Nat → D),
    ρ 0 = .ptr g 0 → ρ 3 = .ptr p 0 → ρ 4 = .int .i64 pre.length → ∀ (Q : X → (Nat → D) → Store → Prop),
    (∀ ρ' pre' post', s = pre' ++ post' → ins r s = pre' ++ r :: post' → ρ' 0 = .ptr g 0 → ρ' 3 = .ptr p 0 → ρ' 4 = .int .i64 pre'.length → Q (.exit 0) ρ' st) → WC Γ (.loop c_feluccaref14_Heap_Push_l0) ρ st Q := by
  have hlim := H.lim
  obtain ⟨t, sz, hb, hsz⟩ := rs_sl H
  intro post
  induction post with
  | nil =>
    intro pre hps hpre ρ h0 h3 h4 Q hQ
    have hlen : s.length = pre.length := by rw [hps]; simp
    have hins : ins r s = pre ++ r :: [] := by rw [hps]; exact ins_app hpre (fun x p e => by cases e)
    rw [← upd_self h0, ← upd_self h3, ← upd_self h4]
    refine WC_loop ?_
    repeat' (first
    | (refine I_WS ?_; first
      | (refine I_mov ?_; first
          | refine W_skip rfl ?_
          | refine W_mov (v := .int _ _) rfl rfl rfl ?_
          | refine W_mov (v := .bool _) rfl rfl rfl ?_
          | refine W_mov (v := .slice _ _ _) rfl rfl rfl ?_
          | refine W_mov (v := .agg _) rfl rfl rfl ?_
          | refine W_mov (v := .ptr _ _) rfl rfl rfl ?_
          | refine W_mov (v := .func _ _) rfl rfl rfl ?_
          | refine W_mov (v := .eptr _ _ _ _) rfl rfl rfl ?_
          | refine W_mov (v := .rs _ _ _ _ _) rfl rfl rfl ?_
          | refine W_mov (v := .tuple _) rfl rfl rfl ?_
          | refine W_mov (v := .map _) rfl rfl rfl ?_
          | refine W_mov (v := .str _) rfl rfl rfl ?_
          | refine W_mov (v := .nilptr) rfl rfl rfl ?_)
      | (refine I_bin ?_; first
          | refine W_skip rfl ?_
          | refine W_lssT rfl rfl rfl rfl (by omega) ?_
          | refine W_lssF rfl rfl rfl rfl (by omega) ?_
          | (refine W_lss rfl rfl rfl rfl ?_ ?_ <;> intro _)
          | refine W_add rfl rfl rfl rfl (by first | exact w64 (by omega) | rfl) ?_)
      | (refine I_load ?_; first
          | refine W_skip rfl ?_
          | refine W_load (agg := false) (d := .slice _ sz (s.map Rd.e)) rfl rfl rfl hb hlim rfl ?_
          | refine W_load (agg := false) (d := .int _ _) rfl rfl rfl (bxc rfl) (by first | exact Nat.zero_le _ | assumption | exact Nat.le_trans hlim (Nat.zero_le _) | omega) rfl ?_
          | refine W_load (agg := false) (d := .bool _) rfl rfl rfl (bxc rfl) (by first | exact Nat.zero_le _ | assumption | exact Nat.le_trans hlim (Nat.zero_le _) | omega) rfl ?_
          | refine W_load (agg := false) (d := .slice _ _ _) rfl rfl rfl (bxc rfl) (by first | exact Nat.zero_le _ | assumption | exact Nat.le_trans hlim (Nat.zero_le _) | omega) rfl ?_
          | refine W_load (agg := false) (d := .ptr _ _) rfl rfl rfl (bxc rfl) (by first | exact Nat.zero_le _ | assumption | exact Nat.le_trans hlim (Nat.zero_le _) | omega) rfl ?_
          | refine W_load (agg := false) (d := .func _ _) rfl rfl rfl (bxc rfl) (by first | exact Nat.zero_le _ | assumption | exact Nat.le_trans hlim (Nat.zero_le _) | omega) rfl ?_
          | refine W_load (agg := true) (d := .agg [_, _]) rfl rfl rfl (bxc rfl) (by first | exact Nat.zero_le _ | assumption | exact Nat.le_trans hlim (Nat.zero_le _) | omega) rfl ?_
          | refine W_load (agg := false) (d := .int _ _) rfl rfl rfl (bxs (by omega) (bxc rfl)) (by first | exact Nat.zero_le _ | assumption | exact Nat.le_trans hlim (Nat.zero_le _) | omega) rfl ?_
          | refine W_load (agg := false) (d := .bool _) rfl rfl rfl (bxs (by omega) (bxc rfl)) (by first | exact Nat.zero_le _ | assumption | exact Nat.le_trans hlim (Nat.zero_le _) | omega) rfl ?_
          | refine W_load (agg := false) (d := .slice _ _ _) rfl rfl rfl (bxs (by omega) (bxc rfl)) (by first | exact Nat.zero_le _ | assumption | exact Nat.le_trans hlim (Nat.zero_le _) | omega) rfl ?_
          | refine W_load (agg := false) (d := .ptr _ _) rfl rfl rfl (bxs (by omega) (bxc rfl)) (by first | exact Nat.zero_le _ | assumption | exact Nat.le_trans hlim (Nat.zero_le _) | omega) rfl ?_
          | refine W_load (agg := false) (d := .func _ _) rfl rfl rfl (bxs (by omega) (bxc rfl)) (by first | exact Nat.zero_le _ | assumption | exact Nat.le_trans hlim (Nat.zero_le _) | omega) rfl ?_
          | refine W_load (agg := true) (d := .agg [_, _]) rfl rfl rfl (bxs (by omega) (bxc rfl)) (by first | exact Nat.zero_le _ | assumption | exact Nat.le_trans hlim (Nat.zero_le _) | omega) rfl ?_
          | refine W_load (agg := false) (d := .int _ _) rfl rfl rfl rfl (by first | exact Nat.zero_le _ | omega) rfl ?_
          | refine W_load (agg := false) (d := .bool _) rfl rfl rfl rfl (by first | exact Nat.zero_le _ | omega) rfl ?_
          | refine W_load (agg := false) (d := .slice _ _ _) rfl rfl rfl rfl (by first | exact Nat.zero_le _ | omega) rfl ?_
          | refine W_load (agg := false) (d := .ptr _ _) rfl rfl rfl rfl (by first | exact Nat.zero_le _ | omega) rfl ?_
          | refine W_load (agg := false) (d := .func _ _) rfl rfl rfl rfl (by first | exact Nat.zero_le _ | omega) rfl ?_
          | refine W_load (agg := true) (d := .agg [_, _]) rfl rfl rfl rfl (by first | exact Nat.zero_le _ | omega) rfl ?_)
      | (refine I_call ?_; first
          | refine W_skip rfl ?_)
      | (refine I_pick ?_; first
          | refine W_pick (v := .int _ _) rfl rfl rfl rfl ?_
          | refine W_pick (v := .bool _) rfl rfl rfl rfl ?_
          | refine W_pick (v := .slice _ _ _) rfl rfl rfl rfl ?_
          | refine W_pick (v := .agg _) rfl rfl rfl rfl ?_
          | refine W_skip rfl ?_)
      | (refine I_box ?_; first
          | refine W_boxA rfl rfl rfl rfl rfl ?_
          | refine W_box1 (v := .slice _ _ _) rfl rfl rfl rfl rfl ?_
          | refine W_box1 (v := .int _ _) rfl rfl rfl rfl rfl ?_
          | refine W_box1 (v := .bool _) rfl rfl rfl rfl rfl ?_
          | refine W_box1 (v := .ptr _ _) rfl rfl rfl rfl rfl ?_
          | refine W_skip rfl ?_)
      | (refine I_store ?_; first
          | refine W_store (cs' := [_, _]) rfl rfl (upd_same _ _ _) rfl (by first | exact Nat.zero_le _ | assumption | exact Nat.le_trans hlim (Nat.zero_le _) | omega) rfl rfl rfl ?_
          | refine W_store (cs' := [_, _]) rfl rfl ((upd_ne _ _ (by omega)).trans (upd_same _ _ _)) rfl (by first | exact Nat.zero_le _ | assumption | exact Nat.le_trans hlim (Nat.zero_le _) | omega) rfl rfl rfl ?_
          | refine W_store (cs' := [_, _]) rfl rfl rfl rfl (by first | exact Nat.zero_le _ | omega) rfl rfl rfl ?_
          | refine W_skip0 rfl ?_)
      | refine W_lenS0 rfl rfl rfl ?_
      | refine W_lenM rfl rfl rfl ?_
      | refine W_lenS rfl rfl rfl ?_
      | refine W_lenR rfl rfl rfl ?_
      | refine W_faddr rfl rfl rfl ?_
      | refine W_faddrE rfl rfl rfl ?_
      | refine W_nilCheckM rfl rfl ?_
      | refine W_nilCheckE rfl rfl rfl ?_
      | refine W_nilCheckF rfl rfl rfl ?_
      | refine W_faddrM rfl rfl ?_
      | refine W_skip rfl ?_
      | refine W_iaddr rfl rfl rfl rfl (by first | rfl | exact sz_of (by assumption) (by omega)) (by first | decide | (simp only [List.length_map]; omega)) ?_
      | refine W_iaddrRN rfl rfl rfl rfl rfl (by decide) ?_
      | refine W_iaddrR rfl rfl rfl rfl (by first | decide | omega) ?_
      | refine W_bsliceS (ds := [.slice _ _ _]) (ys := [.slice _ _ _]) rfl rfl rfl rfl (by decide) rfl ?_
      | refine W_bsliceS (ds := [.slice _ _ _, .slice _ _ _]) (ys := [.slice _ _ _, .slice _ _ _]) rfl rfl rfl rfl (by decide) rfl ?_
      | refine W_bsliceS (ds := [.slice _ _ _, .slice _ _ _, .slice _ _ _]) (ys := [.slice _ _ _, .slice _ _ _, .slice _ _ _]) rfl rfl rfl rfl (by decide) rfl ?_
      | refine W_bslice (ys := []) rfl rfl rfl (by decide) rfl ?_
      | refine W_bslice (ys := [_]) rfl rfl rfl (by decide) rfl ?_
      | refine W_bslice (ys := [_, _]) rfl rfl rfl (by decide) rfl ?_
      | refine W_bslice (ys := [_, _, _]) rfl rfl rfl (by decide) rfl ?_
      | (refine W_sliceLoN rfl rfl (by first | exact .inl rfl | assumption) rfl (by first | omega | (simp; omega)) rfl ?_ <;> intro _)
      | (refine W_sliceHiN rfl rfl (by first | exact .inl rfl | assumption) rfl (by first | omega | (simp; omega)) rfl ?_ <;> intro _)
      | (refine W_sliceLo rfl rfl (by first | exact .inl rfl | assumption) rfl (by first | omega | (simp; omega)) rfl ?_ <;> intro _)
      | (refine W_sliceHi rfl rfl (by first | exact .inl rfl | assumption) rfl (by first | omega | (simp; omega)) rfl ?_ <;> intro _)
      | refine W_skip rfl ?_
      | refine WS_nil ?_)
    | refine WC_seq ?_
    | refine WC_opsS ?_
    | refine WC_drawS ?_
    | refine WC_skip ?_
    | refine WC_condT rfl ?_
    | refine WC_condF rfl ?_
    | refine WC_block ?_
    | refine WC_exit ?_
    | refine WC_ret ?_
    | refine okF_intro rfl ?_)
    exact hQ _ pre [] hps hins rfl rfl rfl
  | cons x post ih =>
    intro pre hps hpre ρ h0 h3 h4 Q hQ
    have hv := at_mid' hps
    have hlen : s.length = pre.length + (post.length + 1) := by rw [hps]; simp
    have hsz : sz = 2 := by
      rcases hsz with h | h
      · exact h
      · rw [h] at hlen; simp at hlen
    subst hsz
    have hpl' : pre.length < (s.map Rd.e).length := by simp; omega
    have hlt' : (pre.length : Int) < s.length := by omega
    rw [← upd_self h0, ← upd_self h3, ← upd_self h4]
    refine WC_loop ?_
    by_cases hx : x.lt r
    · have hL := s_Less x r
      rw [decide_eq_true hx] at hL
      repeat' (first
    | (refine I_WS ?_; first
      | refine W_iaddr (j := pre.length) rfl rfl rfl rfl rfl hpl' ?_
      | (refine I_mov ?_; first
          | refine W_skip rfl ?_
          | refine W_mov (v := .int _ _) rfl rfl rfl ?_
          | refine W_mov (v := .bool _) rfl rfl rfl ?_
          | refine W_mov (v := .slice _ _ _) rfl rfl rfl ?_
          | refine W_mov (v := .agg _) rfl rfl rfl ?_
          | refine W_mov (v := .ptr _ _) rfl rfl rfl ?_
          | refine W_mov (v := .func _ _) rfl rfl rfl ?_
          | refine W_mov (v := .eptr _ _ _ _) rfl rfl rfl ?_
          | refine W_mov (v := .rs _ _ _ _ _) rfl rfl rfl ?_
          | refine W_mov (v := .tuple _) rfl rfl rfl ?_
          | refine W_mov (v := .map _) rfl rfl rfl ?_
          | refine W_mov (v := .str _) rfl rfl rfl ?_
          | refine W_mov (v := .nilptr) rfl rfl rfl ?_)
      | (refine I_bin ?_; first
          | refine W_skip rfl ?_
          | refine W_lssT rfl rfl rfl rfl (by omega) ?_
          | refine W_lssF rfl rfl rfl rfl (by omega) ?_
          | (refine W_lss rfl rfl rfl rfl ?_ ?_ <;> intro _)
          | refine W_add rfl rfl rfl rfl (by first | exact w64 (by omega) | rfl) ?_)
      | (refine I_load ?_; first
          | refine W_skip rfl ?_
          | refine W_load (agg := false) (d := .slice _ 2 (s.map Rd.e)) rfl rfl rfl hb hlim rfl ?_
          | refine W_loadE (agg := true) (d := .agg [_, _]) rfl rfl rfl hv rfl ?_
          | refine W_load (agg := true) (d := .agg [_, _]) rfl rfl rfl hp hpl rfl ?_
          | refine W_load (agg := false) (d := .int _ _) rfl rfl rfl (bxc rfl) (by first | exact Nat.zero_le _ | assumption | exact Nat.le_trans hlim (Nat.zero_le _) | omega) rfl ?_
          | refine W_load (agg := false) (d := .bool _) rfl rfl rfl (bxc rfl) (by first | exact Nat.zero_le _ | assumption | exact Nat.le_trans hlim (Nat.zero_le _) | omega) rfl ?_
          | refine W_load (agg := false) (d := .slice _ _ _) rfl rfl rfl (bxc rfl) (by first | exact Nat.zero_le _ | assumption | exact Nat.le_trans hlim (Nat.zero_le _) | omega) rfl ?_
          | refine W_load (agg := false) (d := .ptr _ _) rfl rfl rfl (bxc rfl) (by first | exact Nat.zero_le _ | assumption | exact Nat.le_trans hlim (Nat.zero_le _) | omega) rfl ?_
          | refine W_load (agg := false) (d := .func _ _) rfl rfl rfl (bxc rfl) (by first | exact Nat.zero_le _ | assumption | exact Nat.le_trans hlim (Nat.zero_le _) | omega) rfl ?_
          | refine W_load (agg := true) (d := .agg [_, _]) rfl rfl rfl (bxc rfl) (by first | exact Nat.zero_le _ | assumption | exact Nat.le_trans hlim (Nat.zero_le _) | omega) rfl ?_
          | refine W_load (agg := false) (d := .int _ _) rfl rfl rfl (bxs (by omega) (bxc rfl)) (by first | exact Nat.zero_le _ | assumption | exact Nat.le_trans hlim (Nat.zero_le _) | omega) rfl ?_
          | refine W_load (agg := false) (d := .bool _) rfl rfl rfl (bxs (by omega) (bxc rfl)) (by first | exact Nat.zero_le _ | assumption | exact Nat.le_trans hlim (Nat.zero_le _) | omega) rfl ?_
          | refine W_load (agg := false) (d := .slice _ _ _) rfl rfl rfl (bxs (by omega) (bxc rfl)) (by first | exact Nat.zero_le _ | assumption | exact Nat.le_trans hlim (Nat.zero_le _) | omega) rfl ?_
          | refine W_load (agg := false) (d := .ptr _ _) rfl rfl rfl (bxs (by omega) (bxc rfl)) (by first | exact Nat.zero_le _ | assumption | exact Nat.le_trans hlim (Nat.zero_le _) | omega) rfl ?_
          | refine W_load (agg := false) (d := .func _ _) rfl rfl rfl (bxs (by omega) (bxc rfl)) (by first | exact Nat.zero_le _ | assumption | exact Nat.le_trans hlim (Nat.zero_le _) | omega) rfl ?_
          | refine W_load (agg := true) (d := .agg [_, _]) rfl rfl rfl (bxs (by omega) (bxc rfl)) (by first | exact Nat.zero_le _ | assumption | exact Nat.le_trans hlim (Nat.zero_le _) | omega) rfl ?_
          | refine W_load (agg := false) (d := .int _ _) rfl rfl rfl rfl (by first | exact Nat.zero_le _ | omega) rfl ?_
          | refine W_load (agg := false) (d := .bool _) rfl rfl rfl rfl (by first | exact Nat.zero_le _ | omega) rfl ?_
          | refine W_load (agg := false) (d := .slice _ _ _) rfl rfl rfl rfl (by first | exact Nat.zero_le _ | omega) rfl ?_
          | refine W_load (agg := false) (d := .ptr _ _) rfl rfl rfl rfl (by first | exact Nat.zero_le _ | omega) rfl ?_
          | refine W_load (agg := false) (d := .func _ _) rfl rfl rfl rfl (by first | exact Nat.zero_le _ | omega) rfl ?_
          | refine W_load (agg := true) (d := .agg [_, _]) rfl rfl rfl rfl (by first | exact Nat.zero_le _ | omega) rfl ?_)
      | (refine I_call ?_; first
          | refine W_skip rfl ?_
          | refine W_call rfl rfl rfl hL rfl rfl ?_)
      | (refine I_pick ?_; first
          | refine W_pick (v := .int _ _) rfl rfl rfl rfl ?_
          | refine W_pick (v := .bool _) rfl rfl rfl rfl ?_
          | refine W_pick (v := .slice _ _ _) rfl rfl rfl rfl ?_
          | refine W_pick (v := .agg _) rfl rfl rfl rfl ?_
          | refine W_skip rfl ?_)
      | (refine I_box ?_; first
          | refine W_boxA rfl rfl rfl rfl rfl ?_
          | refine W_box1 (v := .slice _ _ _) rfl rfl rfl rfl rfl ?_
          | refine W_box1 (v := .int _ _) rfl rfl rfl rfl rfl ?_
          | refine W_box1 (v := .bool _) rfl rfl rfl rfl rfl ?_
          | refine W_box1 (v := .ptr _ _) rfl rfl rfl rfl rfl ?_
          | refine W_skip rfl ?_)
      | (refine I_store ?_; first
          | refine W_store (cs' := [_, _]) rfl rfl (upd_same _ _ _) rfl (by first | exact Nat.zero_le _ | assumption | exact Nat.le_trans hlim (Nat.zero_le _) | omega) rfl rfl rfl ?_
          | refine W_store (cs' := [_, _]) rfl rfl ((upd_ne _ _ (by omega)).trans (upd_same _ _ _)) rfl (by first | exact Nat.zero_le _ | assumption | exact Nat.le_trans hlim (Nat.zero_le _) | omega) rfl rfl rfl ?_
          | refine W_store (cs' := [_, _]) rfl rfl rfl rfl (by first | exact Nat.zero_le _ | omega) rfl rfl rfl ?_
          | refine W_skip0 rfl ?_)
      | refine W_lenS0 rfl rfl rfl ?_
      | refine W_lenM rfl rfl rfl ?_
      | refine W_lenS rfl rfl rfl ?_
      | refine W_lenR rfl rfl rfl ?_
      | refine W_faddr rfl rfl rfl ?_
      | refine W_faddrE rfl rfl rfl ?_
      | refine W_nilCheckM rfl rfl ?_
      | refine W_nilCheckE rfl rfl rfl ?_
      | refine W_nilCheckF rfl rfl rfl ?_
      | refine W_faddrM rfl rfl ?_
      | refine W_skip rfl ?_
      | refine W_iaddr rfl rfl rfl rfl (by first | rfl | exact sz_of (by assumption) (by omega)) (by first | decide | (simp only [List.length_map]; omega)) ?_
      | refine W_iaddrRN rfl rfl rfl rfl rfl (by decide) ?_
      | refine W_iaddrR rfl rfl rfl rfl (by first | decide | omega) ?_
      | refine W_bsliceS (ds := [.slice _ _ _]) (ys := [.slice _ _ _]) rfl rfl rfl rfl (by decide) rfl ?_
      | refine W_bsliceS (ds := [.slice _ _ _, .slice _ _ _]) (ys := [.slice _ _ _, .slice _ _ _]) rfl rfl rfl rfl (by decide) rfl ?_
      | refine W_bsliceS (ds := [.slice _ _ _, .slice _ _ _, .slice _ _ _]) (ys := [.slice _ _ _, .slice _ _ _, .slice _ _ _]) rfl rfl rfl rfl (by decide) rfl ?_
      | refine W_bslice (ys := []) rfl rfl rfl (by decide) rfl ?_
      | refine W_bslice (ys := [_]) rfl rfl rfl (by decide) rfl ?_
      | refine W_bslice (ys := [_, _]) rfl rfl rfl (by decide) rfl ?_
      | refine W_bslice (ys := [_, _, _]) rfl rfl rfl (by decide) rfl ?_
      | (refine W_sliceLoN rfl rfl (by first | exact .inl rfl | assumption) rfl (by first | omega | (simp; omega)) rfl ?_ <;> intro _)
      | (refine W_sliceHiN rfl rfl (by first | exact .inl rfl | assumption) rfl (by first | omega | (simp; omega)) rfl ?_ <;> intro _)
      | (refine W_sliceLo rfl rfl (by first | exact .inl rfl | assumption) rfl (by first | omega | (simp; omega)) rfl ?_ <;> intro _)
      | (refine W_sliceHi rfl rfl (by first | exact .inl rfl | assumption) rfl (by first | omega | (simp; omega)) rfl ?_ <;> intro _)
      | refine W_skip rfl ?_
      | refine WS_nil ?_)
    | refine WC_seq ?_
    | refine WC_opsS ?_
    | refine WC_drawS ?_
    | refine WC_skip ?_
    | refine WC_condT rfl ?_
    | refine WC_condF rfl ?_
    | refine WC_block ?_
    | refine WC_exit ?_
    | refine WC_ret ?_
    | refine okF_intro rfl ?_)
      refine ih (pre ++ [x]) (by simp [hps]) (fun y hy => by
        rcases List.mem_append.mp hy with h | h
        · exact hpre y h
        · rw [List.mem_singleton.mp h]; exact hx) _ ?_ ?_ ?_ Q hQ
      · rfl
      · rfl
      · rw [List.length_append]; rfl
    · have hL := s_Less x r
      rw [decide_eq_false hx] at hL
      have hins : ins r s = pre ++ r :: (x :: post) := by rw [hps]; exact ins_app hpre (fun y p e => by cases e; exact hx)
      repeat' (first
    | (refine I_WS ?_; first
      | refine W_iaddr (j := pre.length) rfl rfl rfl rfl rfl hpl' ?_
      | (refine I_mov ?_; first
          | refine W_skip rfl ?_
          | refine W_mov (v := .int _ _) rfl rfl rfl ?_
          | refine W_mov (v := .bool _) rfl rfl rfl ?_
          | refine W_mov (v := .slice _ _ _) rfl rfl rfl ?_
          | refine W_mov (v := .agg _) rfl rfl rfl ?_
          | refine W_mov (v := .ptr _ _) rfl rfl rfl ?_
          | refine W_mov (v := .func _ _) rfl rfl rfl ?_
          | refine W_mov (v := .eptr _ _ _ _) rfl rfl rfl ?_
          | refine W_mov (v := .rs _ _ _ _ _) rfl rfl rfl ?_
          | refine W_mov (v := .tuple _) rfl rfl rfl ?_
          | refine W_mov (v := .map _) rfl rfl rfl ?_
          | refine W_mov (v := .str _) rfl rfl rfl ?_
          | refine W_mov (v := .nilptr) rfl rfl rfl ?_)
      | (refine I_bin ?_; first
          | refine W_skip rfl ?_
          | refine W_lssT rfl rfl rfl rfl (by omega) ?_
          | refine W_lssF rfl rfl rfl rfl (by omega) ?_
          | (refine W_lss rfl rfl rfl rfl ?_ ?_ <;> intro _)
          | refine W_add rfl rfl rfl rfl (by first | exact w64 (by omega) | rfl) ?_)
      | (refine I_load ?_; first
          | refine W_skip rfl ?_
          | refine W_load (agg := false) (d := .slice _ 2 (s.map Rd.e)) rfl rfl rfl hb hlim rfl ?_
          | refine W_loadE (agg := true) (d := .agg [_, _]) rfl rfl rfl hv rfl ?_
          | refine W_load (agg := true) (d := .agg [_, _]) rfl rfl rfl hp hpl rfl ?_
          | refine W_load (agg := false) (d := .int _ _) rfl rfl rfl (bxc rfl) (by first | exact Nat.zero_le _ | assumption | exact Nat.le_trans hlim (Nat.zero_le _) | omega) rfl ?_
          | refine W_load (agg := false) (d := .bool _) rfl rfl rfl (bxc rfl) (by first | exact Nat.zero_le _ | assumption | exact Nat.le_trans hlim (Nat.zero_le _) | omega) rfl ?_
          | refine W_load (agg := false) (d := .slice _ _ _) rfl rfl rfl (bxc rfl) (by first | exact Nat.zero_le _ | assumption | exact Nat.le_trans hlim (Nat.zero_le _) | omega) rfl ?_
          | refine W_load (agg := false) (d := .ptr _ _) rfl rfl rfl (bxc rfl) (by first | exact Nat.zero_le _ | assumption | exact Nat.le_trans hlim (Nat.zero_le _) | omega) rfl ?_
          | refine W_load (agg := false) (d := .func _ _) rfl rfl rfl (bxc rfl) (by first | exact Nat.zero_le _ | assumption | exact Nat.le_trans hlim (Nat.zero_le _) | omega) rfl ?_
          | refine W_load (agg := true) (d := .agg [_, _]) rfl rfl rfl (bxc rfl) (by first | exact Nat.zero_le _ | assumption | exact Nat.le_trans hlim (Nat.zero_le _) | omega) rfl ?_
          | refine W_load (agg := false) (d := .int _ _) rfl rfl rfl (bxs (by omega) (bxc rfl)) (by first | exact Nat.zero_le _ | assumption | exact Nat.le_trans hlim (Nat.zero_le _) | omega) rfl ?_
          | refine W_load (agg := false) (d := .bool _) rfl rfl rfl (bxs (by omega) (bxc rfl)) (by first | exact Nat.zero_le _ | assumption | exact Nat.le_trans hlim (Nat.zero_le _) | omega) rfl ?_
          | refine W_load (agg := false) (d := .slice _ _ _) rfl rfl rfl (bxs (by omega) (bxc rfl)) (by first | exact Nat.zero_le _ | assumption | exact Nat.le_trans hlim (Nat.zero_le _) | omega) rfl ?_
          | refine W_load (agg := false) (d := .ptr _ _) rfl rfl rfl (bxs (by omega) (bxc rfl)) (by first | exact Nat.zero_le _ | assumption | exact Nat.le_trans hlim (Nat.zero_le _) | omega) rfl ?_
          | refine W_load (agg := false) (d := .func _ _) rfl rfl rfl (bxs (by omega) (bxc rfl)) (by first | exact Nat.zero_le _ | assumption | exact Nat.le_trans hlim (Nat.zero_le _) | omega) rfl ?_
          | refine W_load (agg := true) (d := .agg [_, _]) rfl rfl rfl (bxs (by omega) (bxc rfl)) (by first | exact Nat.zero_le _ | assumption | exact Nat.le_trans hlim (Nat.zero_le _) | omega) rfl ?_
          | refine W_load (agg := false) (d := .int _ _) rfl rfl rfl rfl (by first | exact Nat.zero_le _ | omega) rfl ?_
          | refine W_load (agg := false) (d := .bool _) rfl rfl rfl rfl (by first | exact Nat.zero_le _ | omega) rfl ?_
          | refine W_load (agg := false) (d := .slice _ _ _) rfl rfl rfl rfl (by first | exact Nat.zero_le _ | omega) rfl ?_
          | refine W_load (agg := false) (d := .ptr _ _) rfl rfl rfl rfl (by first | exact Nat.zero_le _ | omega) rfl ?_
          | refine W_load (agg := false) (d := .func _ _) rfl rfl rfl rfl (by first | exact Nat.zero_le _ | omega) rfl ?_
          | refine W_load (agg := true) (d := .agg [_, _]) rfl rfl rfl rfl (by first | exact Nat.zero_le _ | omega) rfl ?_)
      | (refine I_call ?_; first
          | refine W_skip rfl ?_
          | refine W_call rfl rfl rfl hL rfl rfl ?_)
      | (refine I_pick ?_; first
          | refine W_pick (v := .int _ _) rfl rfl rfl rfl ?_
          | refine W_pick (v := .bool _) rfl rfl rfl rfl ?_
          | refine W_pick (v := .slice _ _ _) rfl rfl rfl rfl ?_
          | refine W_pick (v := .agg _) rfl rfl rfl rfl ?_
          | refine W_skip rfl ?_)
      | (refine I_box ?_; first
          | refine W_boxA rfl rfl rfl rfl rfl ?_
          | refine W_box1 (v := .slice _ _ _) rfl rfl rfl rfl rfl ?_
          | refine W_box1 (v := .int _ _) rfl rfl rfl rfl rfl ?_
          | refine W_box1 (v := .bool _) rfl rfl rfl rfl rfl ?_
          | refine W_box1 (v := .ptr _ _) rfl rfl rfl rfl rfl ?_
          | refine W_skip rfl ?_)
      | (refine I_store ?_; first
          | refine W_store (cs' := [_, _]) rfl rfl (upd_same _ _ _) rfl (by first | exact Nat.zero_le _ | assumption | exact Nat.le_trans hlim (Nat.zero_le _) | omega) rfl rfl rfl ?_
          | refine W_store (cs' := [_, _]) rfl rfl ((upd_ne _ _ (by omega)).trans (upd_same _ _ _)) rfl (by first | exact Nat.zero_le _ | assumption | exact Nat.le_trans hlim (Nat.zero_le _) | omega) rfl rfl rfl ?_
          | refine W_store (cs' := [_, _]) rfl rfl rfl rfl (by first | exact Nat.zero_le _ | omega) rfl rfl rfl ?_
          | refine W_skip0 rfl ?_)
      | refine W_lenS0 rfl rfl rfl ?_
      | refine W_lenM rfl rfl rfl ?_
      | refine W_lenS rfl rfl rfl ?_
      | refine W_lenR rfl rfl rfl ?_
      | refine W_faddr rfl rfl rfl ?_
      | refine W_faddrE rfl rfl rfl ?_
      | refine W_nilCheckM rfl rfl ?_
      | refine W_nilCheckE rfl rfl rfl ?_
      | refine W_nilCheckF rfl rfl rfl ?_
      | refine W_faddrM rfl rfl ?_
      | refine W_skip rfl ?_
      | refine W_iaddr rfl rfl rfl rfl (by first | rfl | exact sz_of (by assumption) (by omega)) (by first | decide | (simp only [List.length_map]; omega)) ?_
      | refine W_iaddrRN rfl rfl rfl rfl rfl (by decide) ?_
      | refine W_iaddrR rfl rfl rfl rfl (by first | decide | omega) ?_
      | refine W_bsliceS (ds := [.slice _ _ _]) (ys := [.slice _ _ _]) rfl rfl rfl rfl (by decide) rfl ?_
      | refine W_bsliceS (ds := [.slice _ _ _, .slice _ _ _]) (ys := [.slice _ _ _, .slice _ _ _]) rfl rfl rfl rfl (by decide) rfl ?_
      | refine W_bsliceS (ds := [.slice _ _ _, .slice _ _ _, .slice _ _ _]) (ys := [.slice _ _ _, .slice _ _ _, .slice _ _ _]) rfl rfl rfl rfl (by decide) rfl ?_
      | refine W_bslice (ys := []) rfl rfl rfl (by decide) rfl ?_
      | refine W_bslice (ys := [_]) rfl rfl rfl (by decide) rfl ?_
      | refine W_bslice (ys := [_, _]) rfl rfl rfl (by decide) rfl ?_
      | refine W_bslice (ys := [_, _, _]) rfl rfl rfl (by decide) rfl ?_
      | (refine W_sliceLoN rfl rfl (by first | exact .inl rfl | assumption) rfl (by first | omega | (simp; omega)) rfl ?_ <;> intro _)
      | (refine W_sliceHiN rfl rfl (by first | exact .inl rfl | assumption) rfl (by first | omega | (simp; omega)) rfl ?_ <;> intro _)
      | (refine W_sliceLo rfl rfl (by first | exact .inl rfl | assumption) rfl (by first | omega | (simp; omega)) rfl ?_ <;> intro _)
      | (refine W_sliceHi rfl rfl (by first | exact .inl rfl | assumption) rfl (by first | omega | (simp; omega)) rfl ?_ <;> intro _)
      | refine W_skip rfl ?_
      | refine WS_nil ?_)
    | refine WC_seq ?_
    | refine WC_opsS ?_
    | refine WC_drawS ?_
    | refine WC_skip ?_
    | refine WC_condT rfl ?_
    | refine WC_condF rfl ?_
    | refine WC_block ?_
    | refine WC_exit ?_
    | refine WC_ret ?_
    | refine okF_intro rfl ?_)
      exact hQ _ pre (x :: post) hps hins rfl rfl rfl
theorem g_Push {st : Store} {g : Nat} {s : List Rd} (H : RHp st g s) (hs : s.length ≤ 1073741822) (r : Rd) :
    EvRWX Γ 17 [.ptr g 0, r.e] st (fun d st' => d = .tuple [] ∧ RHp st' g (ins r s) ∧ Fg st st' g) := by
  have hlim := H.lim
  have hnx := H.nx
  have htk := H.tk
  have hl2 : st.lim ≤ st.next := Nat.le_trans hlim (Nat.le_of_lt hnx)
  have hne : g ≠ st.next := Nat.ne_of_lt hnx
  have H1 : RHp { st with boxes := upd st.boxes st.next (some (.cells [.int .i64 r.node, .int .i64 r.at'])), next := st.next + 1 } g s := H.of rfl (Nat.le_succ _) htk (upd_ne _ _ hne)
  obtain ⟨t, sz, hb, hsz⟩ := rs_sl H1
  obtain ⟨_, _, _, t', sz', hb', _⟩ := id H1
  refine EvRWX_code rfl rfl ?_
  repeat' (first
    | (refine I_WS ?_; first
      | (refine I_mov ?_; first
          | refine W_skip rfl ?_
          | refine W_mov (v := .int _ _) rfl rfl rfl ?_
          | refine W_mov (v := .bool _) rfl rfl rfl ?_
          | refine W_mov (v := .slice _ _ _) rfl rfl rfl ?_
          | refine W_mov (v := .agg _) rfl rfl rfl ?_
          | refine W_mov (v := .ptr _ _) rfl rfl rfl ?_
          | refine W_mov (v := .func _ _) rfl rfl rfl ?_
          | refine W_mov (v := .eptr _ _ _ _) rfl rfl rfl ?_
          | refine W_mov (v := .rs _ _ _ _ _) rfl rfl rfl ?_
          | refine W_mov (v := .tuple _) rfl rfl rfl ?_
          | refine W_mov (v := .map _) rfl rfl rfl ?_
          | refine W_mov (v := .str _) rfl rfl rfl ?_
          | refine W_mov (v := .nilptr) rfl rfl rfl ?_)
      | (refine I_bin ?_; first
          | refine W_skip rfl ?_
          | refine W_lssT rfl rfl rfl rfl (by omega) ?_
          | refine W_lssF rfl rfl rfl rfl (by omega) ?_
          | (refine W_lss rfl rfl rfl rfl ?_ ?_ <;> intro _)
          | refine W_add rfl rfl rfl rfl (by first | exact w64 (by omega) | rfl) ?_)
      | (refine I_load ?_; first
          | refine W_skip rfl ?_
          | refine W_load (agg := false) (d := .int _ _) rfl rfl rfl (bxc rfl) (by first | exact Nat.zero_le _ | assumption | exact Nat.le_trans hlim (Nat.zero_le _) | omega) rfl ?_
          | refine W_load (agg := false) (d := .bool _) rfl rfl rfl (bxc rfl) (by first | exact Nat.zero_le _ | assumption | exact Nat.le_trans hlim (Nat.zero_le _) | omega) rfl ?_
          | refine W_load (agg := false) (d := .slice _ _ _) rfl rfl rfl (bxc rfl) (by first | exact Nat.zero_le _ | assumption | exact Nat.le_trans hlim (Nat.zero_le _) | omega) rfl ?_
          | refine W_load (agg := false) (d := .ptr _ _) rfl rfl rfl (bxc rfl) (by first | exact Nat.zero_le _ | assumption | exact Nat.le_trans hlim (Nat.zero_le _) | omega) rfl ?_
          | refine W_load (agg := false) (d := .func _ _) rfl rfl rfl (bxc rfl) (by first | exact Nat.zero_le _ | assumption | exact Nat.le_trans hlim (Nat.zero_le _) | omega) rfl ?_
          | refine W_load (agg := true) (d := .agg [_, _]) rfl rfl rfl (bxc rfl) (by first | exact Nat.zero_le _ | assumption | exact Nat.le_trans hlim (Nat.zero_le _) | omega) rfl ?_
          | refine W_load (agg := false) (d := .int _ _) rfl rfl rfl (bxs (by omega) (bxc rfl)) (by first | exact Nat.zero_le _ | assumption | exact Nat.le_trans hlim (Nat.zero_le _) | omega) rfl ?_
          | refine W_load (agg := false) (d := .bool _) rfl rfl rfl (bxs (by omega) (bxc rfl)) (by first | exact Nat.zero_le _ | assumption | exact Nat.le_trans hlim (Nat.zero_le _) | omega) rfl ?_
          | refine W_load (agg := false) (d := .slice _ _ _) rfl rfl rfl (bxs (by omega) (bxc rfl)) (by first | exact Nat.zero_le _ | assumption | exact Nat.le_trans hlim (Nat.zero_le _) | omega) rfl ?_
          | refine W_load (agg := false) (d := .ptr _ _) rfl rfl rfl (bxs (by omega) (bxc rfl)) (by first | exact Nat.zero_le _ | assumption | exact Nat.le_trans hlim (Nat.zero_le _) | omega) rfl ?_
          | refine W_load (agg := false) (d := .func _ _) rfl rfl rfl (bxs (by omega) (bxc rfl)) (by first | exact Nat.zero_le _ | assumption | exact Nat.le_trans hlim (Nat.zero_le _) | omega) rfl ?_
          | refine W_load (agg := true) (d := .agg [_, _]) rfl rfl rfl (bxs (by omega) (bxc rfl)) (by first | exact Nat.zero_le _ | assumption | exact Nat.le_trans hlim (Nat.zero_le _) | omega) rfl ?_
          | refine W_load (agg := false) (d := .int _ _) rfl rfl rfl rfl (by first | exact Nat.zero_le _ | omega) rfl ?_
          | refine W_load (agg := false) (d := .bool _) rfl rfl rfl rfl (by first | exact Nat.zero_le _ | omega) rfl ?_
          | refine W_load (agg := false) (d := .slice _ _ _) rfl rfl rfl rfl (by first | exact Nat.zero_le _ | omega) rfl ?_
          | refine W_load (agg := false) (d := .ptr _ _) rfl rfl rfl rfl (by first | exact Nat.zero_le _ | omega) rfl ?_
          | refine W_load (agg := false) (d := .func _ _) rfl rfl rfl rfl (by first | exact Nat.zero_le _ | omega) rfl ?_
          | refine W_load (agg := true) (d := .agg [_, _]) rfl rfl rfl rfl (by first | exact Nat.zero_le _ | omega) rfl ?_)
      | (refine I_call ?_; first
          | refine W_skip rfl ?_)
      | (refine I_pick ?_; first
          | refine W_pick (v := .int _ _) rfl rfl rfl rfl ?_
          | refine W_pick (v := .bool _) rfl rfl rfl rfl ?_
          | refine W_pick (v := .slice _ _ _) rfl rfl rfl rfl ?_
          | refine W_pick (v := .agg _) rfl rfl rfl rfl ?_
          | refine W_skip rfl ?_)
      | (refine I_box ?_; first
          | refine W_boxA rfl rfl rfl rfl rfl ?_
          | refine W_box1 (v := .slice _ _ _) rfl rfl rfl rfl rfl ?_
          | refine W_box1 (v := .int _ _) rfl rfl rfl rfl rfl ?_
          | refine W_box1 (v := .bool _) rfl rfl rfl rfl rfl ?_
          | refine W_box1 (v := .ptr _ _) rfl rfl rfl rfl rfl ?_
          | refine W_skip rfl ?_)
      | (refine I_store ?_; first
          | refine W_store (cs' := [_, _]) rfl rfl (upd_same _ _ _) rfl (by first | exact Nat.zero_le _ | assumption | exact Nat.le_trans hlim (Nat.zero_le _) | omega) rfl rfl rfl ?_
          | refine W_store (cs' := [_, _]) rfl rfl ((upd_ne _ _ (by omega)).trans (upd_same _ _ _)) rfl (by first | exact Nat.zero_le _ | assumption | exact Nat.le_trans hlim (Nat.zero_le _) | omega) rfl rfl rfl ?_
          | refine W_store (cs' := [_, _]) rfl rfl rfl rfl (by first | exact Nat.zero_le _ | omega) rfl rfl rfl ?_
          | refine W_skip0 rfl ?_)
      | refine W_lenS0 rfl rfl rfl ?_
      | refine W_lenM rfl rfl rfl ?_
      | refine W_lenS rfl rfl rfl ?_
      | refine W_lenR rfl rfl rfl ?_
      | refine W_faddr rfl rfl rfl ?_
      | refine W_faddrE rfl rfl rfl ?_
      | refine W_nilCheckM rfl rfl ?_
      | refine W_nilCheckE rfl rfl rfl ?_
      | refine W_nilCheckF rfl rfl rfl ?_
      | refine W_faddrM rfl rfl ?_
      | refine W_skip rfl ?_
      | refine W_iaddr rfl rfl rfl rfl (by first | rfl | exact sz_of (by assumption) (by omega)) (by first | decide | (simp only [List.length_map]; omega)) ?_
      | refine W_iaddrRN rfl rfl rfl rfl rfl (by decide) ?_
      | refine W_iaddrR rfl rfl rfl rfl (by first | decide | omega) ?_
      | refine W_bsliceS (ds := [.slice _ _ _]) (ys := [.slice _ _ _]) rfl rfl rfl rfl (by decide) rfl ?_
      | refine W_bsliceS (ds := [.slice _ _ _, .slice _ _ _]) (ys := [.slice _ _ _, .slice _ _ _]) rfl rfl rfl rfl (by decide) rfl ?_
      | refine W_bsliceS (ds := [.slice _ _ _, .slice _ _ _, .slice _ _ _]) (ys := [.slice _ _ _, .slice _ _ _, .slice _ _ _]) rfl rfl rfl rfl (by decide) rfl ?_
      | refine W_bslice (ys := []) rfl rfl rfl (by decide) rfl ?_
      | refine W_bslice (ys := [_]) rfl rfl rfl (by decide) rfl ?_
      | refine W_bslice (ys := [_, _]) rfl rfl rfl (by decide) rfl ?_
      | refine W_bslice (ys := [_, _, _]) rfl rfl rfl (by decide) rfl ?_
      | (refine W_sliceLoN rfl rfl (by first | exact .inl rfl | assumption) rfl (by first | omega | (simp; omega)) rfl ?_ <;> intro _)
      | (refine W_sliceHiN rfl rfl (by first | exact .inl rfl | assumption) rfl (by first | omega | (simp; omega)) rfl ?_ <;> intro _)
      | (refine W_sliceLo rfl rfl (by first | exact .inl rfl | assumption) rfl (by first | omega | (simp; omega)) rfl ?_ <;> intro _)
      | (refine W_sliceHi rfl rfl (by first | exact .inl rfl | assumption) rfl (by first | omega | (simp; omega)) rfl ?_ <;> intro _)
      | refine W_skip rfl ?_
      | refine WS_nil ?_)
    | refine WC_seq ?_
    | refine WC_opsS ?_
    | refine WC_drawS ?_
    | refine WC_skip ?_
    | refine WC_condT rfl ?_
    | refine WC_condF rfl ?_
    | refine WC_block ?_
    | refine WC_exit ?_
    | refine WC_ret ?_
    | refine okF_intro rfl ?_)
  refine l_gpush hs H1 r (bxc rfl) hl2 s [] rfl (by simp) _ ?_ ?_ ?_ _ (fun ρ' pre post hps hins h0 h3 h4 => ?_)
  · rfl
  · rfl
  · rfl
  have hlen : s.length = pre.length + post.length := by rw [hps]; simp
  have e1 : s.take pre.length = pre := by rw [hps]; simp
  have e2 : s.drop pre.length = post := by rw [hps]; simp
  have hby1 : (([] : List D).length + ((s.take pre.length).map Rd.e).length) * 16 ≤ 140737488355328 := by rw [e1]; simp; omega
  have hby2 : (([] ++ (s.take pre.length).map Rd.e).length + ([r.e] : List D).length) * 16 ≤ 140737488355328 := by rw [e1]; simp; omega
  have hby3 : (([] ++ (s.take pre.length).map Rd.e ++ [r.e]).length + ((s.drop pre.length).map Rd.e).length) * 16 ≤ 140737488355328 := by rw [e1, e2]; simp; omega
  rw [← upd_self h0, ← upd_self h3, ← upd_self h4]
  repeat' (first
    | (refine I_WS ?_; first
      | (refine W_app rfl rfl rfl (.inl ⟨.inr rfl, .inl rfl⟩) (.inl rfl) hby1 htk rfl ?_ <;> intro k1 st1 a1 a2 a3 a4 a5 a6 a7)
      | (refine I_mov ?_; first
          | refine W_skip rfl ?_
          | refine W_mov (v := .int _ _) rfl rfl rfl ?_
          | refine W_mov (v := .bool _) rfl rfl rfl ?_
          | refine W_mov (v := .slice _ _ _) rfl rfl rfl ?_
          | refine W_mov (v := .agg _) rfl rfl rfl ?_
          | refine W_mov (v := .ptr _ _) rfl rfl rfl ?_
          | refine W_mov (v := .func _ _) rfl rfl rfl ?_
          | refine W_mov (v := .eptr _ _ _ _) rfl rfl rfl ?_
          | refine W_mov (v := .rs _ _ _ _ _) rfl rfl rfl ?_
          | refine W_mov (v := .tuple _) rfl rfl rfl ?_
          | refine W_mov (v := .map _) rfl rfl rfl ?_
          | refine W_mov (v := .str _) rfl rfl rfl ?_
          | refine W_mov (v := .nilptr) rfl rfl rfl ?_)
      | (refine I_bin ?_; first
          | refine W_skip rfl ?_
          | refine W_lssT rfl rfl rfl rfl (by omega) ?_
          | refine W_lssF rfl rfl rfl rfl (by omega) ?_
          | (refine W_lss rfl rfl rfl rfl ?_ ?_ <;> intro _)
          | refine W_add rfl rfl rfl rfl (by first | exact w64 (by omega) | rfl) ?_)
      | (refine I_load ?_; first
          | refine W_skip rfl ?_
          | refine W_load (agg := false) (d := .slice _ sz (s.map Rd.e)) rfl rfl rfl hb hlim rfl ?_
          | refine W_load (agg := true) (d := .agg [_, _]) rfl rfl rfl (bxc rfl) hl2 rfl ?_
          | refine W_load (agg := false) (d := .int _ _) rfl rfl rfl (bxc rfl) (by first | exact Nat.zero_le _ | assumption | exact Nat.le_trans hlim (Nat.zero_le _) | omega) rfl ?_
          | refine W_load (agg := false) (d := .bool _) rfl rfl rfl (bxc rfl) (by first | exact Nat.zero_le _ | assumption | exact Nat.le_trans hlim (Nat.zero_le _) | omega) rfl ?_
          | refine W_load (agg := false) (d := .slice _ _ _) rfl rfl rfl (bxc rfl) (by first | exact Nat.zero_le _ | assumption | exact Nat.le_trans hlim (Nat.zero_le _) | omega) rfl ?_
          | refine W_load (agg := false) (d := .ptr _ _) rfl rfl rfl (bxc rfl) (by first | exact Nat.zero_le _ | assumption | exact Nat.le_trans hlim (Nat.zero_le _) | omega) rfl ?_
          | refine W_load (agg := false) (d := .func _ _) rfl rfl rfl (bxc rfl) (by first | exact Nat.zero_le _ | assumption | exact Nat.le_trans hlim (Nat.zero_le _) | omega) rfl ?_
          | refine W_load (agg := true) (d := .agg [_, _]) rfl rfl rfl (bxc rfl) (by first | exact Nat.zero_le _ | assumption | exact Nat.le_trans hlim (Nat.zero_le _) | omega) rfl ?_
          | refine W_load (agg := false) (d := .int _ _) rfl rfl rfl (bxs (by omega) (bxc rfl)) (by first | exact Nat.zero_le _ | assumption | exact Nat.le_trans hlim (Nat.zero_le _) | omega) rfl ?_
          | refine W_load (agg := false) (d := .bool _) rfl rfl rfl (bxs (by omega) (bxc rfl)) (by first | exact Nat.zero_le _ | assumption | exact Nat.le_trans hlim (Nat.zero_le _) | omega) rfl ?_
          | refine W_load (agg := false) (d := .slice _ _ _) rfl rfl rfl (bxs (by omega) (bxc rfl)) (by first | exact Nat.zero_le _ | assumption | exact Nat.le_trans hlim (Nat.zero_le _) | omega) rfl ?_
          | refine W_load (agg := false) (d := .ptr _ _) rfl rfl rfl (bxs (by omega) (bxc rfl)) (by first | exact Nat.zero_le _ | assumption | exact Nat.le_trans hlim (Nat.zero_le _) | omega) rfl ?_
          | refine W_load (agg := false) (d := .func _ _) rfl rfl rfl (bxs (by omega) (bxc rfl)) (by first | exact Nat.zero_le _ | assumption | exact Nat.le_trans hlim (Nat.zero_le _) | omega) rfl ?_
          | refine W_load (agg := true) (d := .agg [_, _]) rfl rfl rfl (bxs (by omega) (bxc rfl)) (by first | exact Nat.zero_le _ | assumption | exact Nat.le_trans hlim (Nat.zero_le _) | omega) rfl ?_
          | refine W_load (agg := false) (d := .int _ _) rfl rfl rfl rfl (by first | exact Nat.zero_le _ | omega) rfl ?_
          | refine W_load (agg := false) (d := .bool _) rfl rfl rfl rfl (by first | exact Nat.zero_le _ | omega) rfl ?_
          | refine W_load (agg := false) (d := .slice _ _ _) rfl rfl rfl rfl (by first | exact Nat.zero_le _ | omega) rfl ?_
          | refine W_load (agg := false) (d := .ptr _ _) rfl rfl rfl rfl (by first | exact Nat.zero_le _ | omega) rfl ?_
          | refine W_load (agg := false) (d := .func _ _) rfl rfl rfl rfl (by first | exact Nat.zero_le _ | omega) rfl ?_
          | refine W_load (agg := true) (d := .agg [_, _]) rfl rfl rfl rfl (by first | exact Nat.zero_le _ | omega) rfl ?_)
      | (refine I_call ?_; first
          | refine W_skip rfl ?_)
      | (refine I_pick ?_; first
          | refine W_pick (v := .int _ _) rfl rfl rfl rfl ?_
          | refine W_pick (v := .bool _) rfl rfl rfl rfl ?_
          | refine W_pick (v := .slice _ _ _) rfl rfl rfl rfl ?_
          | refine W_pick (v := .agg _) rfl rfl rfl rfl ?_
          | refine W_skip rfl ?_)
      | (refine I_box ?_; first
          | refine W_boxA rfl rfl rfl rfl rfl ?_
          | refine W_box1 (v := .slice _ _ _) rfl rfl rfl rfl rfl ?_
          | refine W_box1 (v := .int _ _) rfl rfl rfl rfl rfl ?_
          | refine W_box1 (v := .bool _) rfl rfl rfl rfl rfl ?_
          | refine W_box1 (v := .ptr _ _) rfl rfl rfl rfl rfl ?_
          | refine W_skip rfl ?_)
      | (refine I_store ?_; first
          | refine W_store (cs' := [_, _]) rfl rfl (upd_same _ _ _) rfl (by first | exact Nat.zero_le _ | assumption | exact Nat.le_trans hlim (Nat.zero_le _) | omega) rfl rfl rfl ?_
          | refine W_store (cs' := [_, _]) rfl rfl ((upd_ne _ _ (by omega)).trans (upd_same _ _ _)) rfl (by first | exact Nat.zero_le _ | assumption | exact Nat.le_trans hlim (Nat.zero_le _) | omega) rfl rfl rfl ?_
          | refine W_store (cs' := [_, _]) rfl rfl rfl rfl (by first | exact Nat.zero_le _ | omega) rfl rfl rfl ?_
          | refine W_skip0 rfl ?_)
      | refine W_lenS0 rfl rfl rfl ?_
      | refine W_lenM rfl rfl rfl ?_
      | refine W_lenS rfl rfl rfl ?_
      | refine W_lenR rfl rfl rfl ?_
      | refine W_faddr rfl rfl rfl ?_
      | refine W_faddrE rfl rfl rfl ?_
      | refine W_nilCheckM rfl rfl ?_
      | refine W_nilCheckE rfl rfl rfl ?_
      | refine W_nilCheckF rfl rfl rfl ?_
      | refine W_faddrM rfl rfl ?_
      | refine W_skip rfl ?_
      | refine W_iaddr rfl rfl rfl rfl (by first | rfl | exact sz_of (by assumption) (by omega)) (by first | decide | (simp only [List.length_map]; omega)) ?_
      | refine W_iaddrRN rfl rfl rfl rfl rfl (by decide) ?_
      | refine W_iaddrR rfl rfl rfl rfl (by first | decide | omega) ?_
      | refine W_bsliceS (ds := [.slice _ _ _]) (ys := [.slice _ _ _]) rfl rfl rfl rfl (by decide) rfl ?_
      | refine W_bsliceS (ds := [.slice _ _ _, .slice _ _ _]) (ys := [.slice _ _ _, .slice _ _ _]) rfl rfl rfl rfl (by decide) rfl ?_
      | refine W_bsliceS (ds := [.slice _ _ _, .slice _ _ _, .slice _ _ _]) (ys := [.slice _ _ _, .slice _ _ _, .slice _ _ _]) rfl rfl rfl rfl (by decide) rfl ?_
      | refine W_bslice (ys := []) rfl rfl rfl (by decide) rfl ?_
      | refine W_bslice (ys := [_]) rfl rfl rfl (by decide) rfl ?_
      | refine W_bslice (ys := [_, _]) rfl rfl rfl (by decide) rfl ?_
      | refine W_bslice (ys := [_, _, _]) rfl rfl rfl (by decide) rfl ?_
      | (refine W_sliceLoN rfl rfl (by first | exact .inl rfl | assumption) rfl (by first | omega | (simp; omega)) rfl ?_ <;> intro _)
      | (refine W_sliceHiN rfl rfl (by first | exact .inl rfl | assumption) rfl (by first | omega | (simp; omega)) rfl ?_ <;> intro _)
      | (refine W_sliceLo rfl rfl (by first | exact .inl rfl | assumption) rfl (by first | omega | (simp; omega)) rfl ?_ <;> intro _)
      | (refine W_sliceHi rfl rfl (by first | exact .inl rfl | assumption) rfl (by first | omega | (simp; omega)) rfl ?_ <;> intro _)
      | refine W_skip rfl ?_
      | refine WS_nil ?_)
    | refine WC_seq ?_
    | refine WC_opsS ?_
    | refine WC_drawS ?_
    | refine WC_skip ?_
    | refine WC_condT rfl ?_
    | refine WC_condF rfl ?_
    | refine WC_block ?_
    | refine WC_exit ?_
    | refine WC_ret ?_
    | refine okF_intro rfl ?_)
  have hl3 : st1.lim ≤ st.next := by rw [a3]; exact hl2
  have hl4 : st1.lim ≤ g := by rw [a3]; exact hlim
  have hbN : (st1.boxes st.next).bind Box.cs = some [.int .i64 r.node, .int .i64 r.at'] := by rw [a1]; exact bxc rfl
  repeat' (first
    | (refine I_WS ?_; first
      | (refine W_app (ys := [r.e]) rfl rfl rfl (.inr ⟨k1, rfl, a6, a7, rfl⟩) (.inl rfl) hby2 a5 rfl ?_ <;> intro k2 st2 b1 b2 b3 b4 b5 b6 b7)
      | (refine I_mov ?_; first
          | refine W_skip rfl ?_
          | refine W_mov (v := .int _ _) rfl rfl rfl ?_
          | refine W_mov (v := .bool _) rfl rfl rfl ?_
          | refine W_mov (v := .slice _ _ _) rfl rfl rfl ?_
          | refine W_mov (v := .agg _) rfl rfl rfl ?_
          | refine W_mov (v := .ptr _ _) rfl rfl rfl ?_
          | refine W_mov (v := .func _ _) rfl rfl rfl ?_
          | refine W_mov (v := .eptr _ _ _ _) rfl rfl rfl ?_
          | refine W_mov (v := .rs _ _ _ _ _) rfl rfl rfl ?_
          | refine W_mov (v := .tuple _) rfl rfl rfl ?_
          | refine W_mov (v := .map _) rfl rfl rfl ?_
          | refine W_mov (v := .str _) rfl rfl rfl ?_
          | refine W_mov (v := .nilptr) rfl rfl rfl ?_)
      | (refine I_bin ?_; first
          | refine W_skip rfl ?_
          | refine W_lssT rfl rfl rfl rfl (by omega) ?_
          | refine W_lssF rfl rfl rfl rfl (by omega) ?_
          | (refine W_lss rfl rfl rfl rfl ?_ ?_ <;> intro _)
          | refine W_add rfl rfl rfl rfl (by first | exact w64 (by omega) | rfl) ?_)
      | (refine I_load ?_; first
          | refine W_skip rfl ?_
          | refine W_load (agg := true) (d := .agg [_, _]) rfl rfl rfl hbN hl3 rfl ?_
          | refine W_load (agg := false) (d := .int _ _) rfl rfl rfl (bxc rfl) (by first | exact Nat.zero_le _ | assumption | exact Nat.le_trans hlim (Nat.zero_le _) | omega) rfl ?_
          | refine W_load (agg := false) (d := .bool _) rfl rfl rfl (bxc rfl) (by first | exact Nat.zero_le _ | assumption | exact Nat.le_trans hlim (Nat.zero_le _) | omega) rfl ?_
          | refine W_load (agg := false) (d := .slice _ _ _) rfl rfl rfl (bxc rfl) (by first | exact Nat.zero_le _ | assumption | exact Nat.le_trans hlim (Nat.zero_le _) | omega) rfl ?_
          | refine W_load (agg := false) (d := .ptr _ _) rfl rfl rfl (bxc rfl) (by first | exact Nat.zero_le _ | assumption | exact Nat.le_trans hlim (Nat.zero_le _) | omega) rfl ?_
          | refine W_load (agg := false) (d := .func _ _) rfl rfl rfl (bxc rfl) (by first | exact Nat.zero_le _ | assumption | exact Nat.le_trans hlim (Nat.zero_le _) | omega) rfl ?_
          | refine W_load (agg := true) (d := .agg [_, _]) rfl rfl rfl (bxc rfl) (by first | exact Nat.zero_le _ | assumption | exact Nat.le_trans hlim (Nat.zero_le _) | omega) rfl ?_
          | refine W_load (agg := false) (d := .int _ _) rfl rfl rfl (bxs (by omega) (bxc rfl)) (by first | exact Nat.zero_le _ | assumption | exact Nat.le_trans hlim (Nat.zero_le _) | omega) rfl ?_
          | refine W_load (agg := false) (d := .bool _) rfl rfl rfl (bxs (by omega) (bxc rfl)) (by first | exact Nat.zero_le _ | assumption | exact Nat.le_trans hlim (Nat.zero_le _) | omega) rfl ?_
          | refine W_load (agg := false) (d := .slice _ _ _) rfl rfl rfl (bxs (by omega) (bxc rfl)) (by first | exact Nat.zero_le _ | assumption | exact Nat.le_trans hlim (Nat.zero_le _) | omega) rfl ?_
          | refine W_load (agg := false) (d := .ptr _ _) rfl rfl rfl (bxs (by omega) (bxc rfl)) (by first | exact Nat.zero_le _ | assumption | exact Nat.le_trans hlim (Nat.zero_le _) | omega) rfl ?_
          | refine W_load (agg := false) (d := .func _ _) rfl rfl rfl (bxs (by omega) (bxc rfl)) (by first | exact Nat.zero_le _ | assumption | exact Nat.le_trans hlim (Nat.zero_le _) | omega) rfl ?_
          | refine W_load (agg := true) (d := .agg [_, _]) rfl rfl rfl (bxs (by omega) (bxc rfl)) (by first | exact Nat.zero_le _ | assumption | exact Nat.le_trans hlim (Nat.zero_le _) | omega) rfl ?_
          | refine W_load (agg := false) (d := .int _ _) rfl rfl rfl rfl (by first | exact Nat.zero_le _ | omega) rfl ?_
          | refine W_load (agg := false) (d := .bool _) rfl rfl rfl rfl (by first | exact Nat.zero_le _ | omega) rfl ?_
          | refine W_load (agg := false) (d := .slice _ _ _) rfl rfl rfl rfl (by first | exact Nat.zero_le _ | omega) rfl ?_
          | refine W_load (agg := false) (d := .ptr _ _) rfl rfl rfl rfl (by first | exact Nat.zero_le _ | omega) rfl ?_
          | refine W_load (agg := false) (d := .func _ _) rfl rfl rfl rfl (by first | exact Nat.zero_le _ | omega) rfl ?_
          | refine W_load (agg := true) (d := .agg [_, _]) rfl rfl rfl rfl (by first | exact Nat.zero_le _ | omega) rfl ?_)
      | (refine I_call ?_; first
          | refine W_skip rfl ?_)
      | (refine I_pick ?_; first
          | refine W_pick (v := .int _ _) rfl rfl rfl rfl ?_
          | refine W_pick (v := .bool _) rfl rfl rfl rfl ?_
          | refine W_pick (v := .slice _ _ _) rfl rfl rfl rfl ?_
          | refine W_pick (v := .agg _) rfl rfl rfl rfl ?_
          | refine W_skip rfl ?_)
      | (refine I_box ?_; first
          | refine W_boxA rfl rfl rfl rfl rfl ?_
          | refine W_box1 (v := .slice _ _ _) rfl rfl rfl rfl rfl ?_
          | refine W_box1 (v := .int _ _) rfl rfl rfl rfl rfl ?_
          | refine W_box1 (v := .bool _) rfl rfl rfl rfl rfl ?_
          | refine W_box1 (v := .ptr _ _) rfl rfl rfl rfl rfl ?_
          | refine W_skip rfl ?_)
      | (refine I_store ?_; first
          | refine W_store (cs' := [_, _]) rfl rfl (upd_same _ _ _) rfl (by first | exact Nat.zero_le _ | assumption | exact Nat.le_trans hlim (Nat.zero_le _) | omega) rfl rfl rfl ?_
          | refine W_store (cs' := [_, _]) rfl rfl ((upd_ne _ _ (by omega)).trans (upd_same _ _ _)) rfl (by first | exact Nat.zero_le _ | assumption | exact Nat.le_trans hlim (Nat.zero_le _) | omega) rfl rfl rfl ?_
          | refine W_store (cs' := [_, _]) rfl rfl rfl rfl (by first | exact Nat.zero_le _ | omega) rfl rfl rfl ?_
          | refine W_skip0 rfl ?_)
      | refine W_lenS0 rfl rfl rfl ?_
      | refine W_lenM rfl rfl rfl ?_
      | refine W_lenS rfl rfl rfl ?_
      | refine W_lenR rfl rfl rfl ?_
      | refine W_faddr rfl rfl rfl ?_
      | refine W_faddrE rfl rfl rfl ?_
      | refine W_nilCheckM rfl rfl ?_
      | refine W_nilCheckE rfl rfl rfl ?_
      | refine W_nilCheckF rfl rfl rfl ?_
      | refine W_faddrM rfl rfl ?_
      | refine W_skip rfl ?_
      | refine W_iaddr rfl rfl rfl rfl (by first | rfl | exact sz_of (by assumption) (by omega)) (by first | decide | (simp only [List.length_map]; omega)) ?_
      | refine W_iaddrRN rfl rfl rfl rfl rfl (by decide) ?_
      | refine W_iaddrR rfl rfl rfl rfl (by first | decide | omega) ?_
      | refine W_bsliceS (ds := [.slice _ _ _]) (ys := [.slice _ _ _]) rfl rfl rfl rfl (by decide) rfl ?_
      | refine W_bsliceS (ds := [.slice _ _ _, .slice _ _ _]) (ys := [.slice _ _ _, .slice _ _ _]) rfl rfl rfl rfl (by decide) rfl ?_
      | refine W_bsliceS (ds := [.slice _ _ _, .slice _ _ _, .slice _ _ _]) (ys := [.slice _ _ _, .slice _ _ _, .slice _ _ _]) rfl rfl rfl rfl (by decide) rfl ?_
      | refine W_bslice (ys := []) rfl rfl rfl (by decide) rfl ?_
      | refine W_bslice (ys := [_]) rfl rfl rfl (by decide) rfl ?_
      | refine W_bslice (ys := [_, _]) rfl rfl rfl (by decide) rfl ?_
      | refine W_bslice (ys := [_, _, _]) rfl rfl rfl (by decide) rfl ?_
      | (refine W_sliceLoN rfl rfl (by first | exact .inl rfl | assumption) rfl (by first | omega | (simp; omega)) rfl ?_ <;> intro _)
      | (refine W_sliceHiN rfl rfl (by first | exact .inl rfl | assumption) rfl (by first | omega | (simp; omega)) rfl ?_ <;> intro _)
      | (refine W_sliceLo rfl rfl (by first | exact .inl rfl | assumption) rfl (by first | omega | (simp; omega)) rfl ?_ <;> intro _)
      | (refine W_sliceHi rfl rfl (by first | exact .inl rfl | assumption) rfl (by first | omega | (simp; omega)) rfl ?_ <;> intro _)
      | refine W_skip rfl ?_
      | refine WS_nil ?_)
    | refine WC_seq ?_
    | refine WC_opsS ?_
    | refine WC_drawS ?_
    | refine WC_skip ?_
    | refine WC_condT rfl ?_
    | refine WC_condF rfl ?_
    | refine WC_block ?_
    | refine WC_exit ?_
    | refine WC_ret ?_
    | refine okF_intro rfl ?_)
  have hl5 : st2.lim ≤ g := by rw [b3]; exact hl4
  have hbg : (st2.boxes g).bind Box.cs = some [.slice t sz (s.map Rd.e)] := by rw [b1, a1]; exact hb
  repeat' (first
    | (refine I_WS ?_; first
      | (refine W_app rfl rfl rfl (.inr ⟨k2, rfl, b6, b7, rfl⟩) (.inl rfl) hby3 b5 rfl ?_ <;> intro k3 st3 c1 c2 c3 c4 c5 c6 c7)
      | (refine I_mov ?_; first
          | refine W_skip rfl ?_
          | refine W_mov (v := .int _ _) rfl rfl rfl ?_
          | refine W_mov (v := .bool _) rfl rfl rfl ?_
          | refine W_mov (v := .slice _ _ _) rfl rfl rfl ?_
          | refine W_mov (v := .agg _) rfl rfl rfl ?_
          | refine W_mov (v := .ptr _ _) rfl rfl rfl ?_
          | refine W_mov (v := .func _ _) rfl rfl rfl ?_
          | refine W_mov (v := .eptr _ _ _ _) rfl rfl rfl ?_
          | refine W_mov (v := .rs _ _ _ _ _) rfl rfl rfl ?_
          | refine W_mov (v := .tuple _) rfl rfl rfl ?_
          | refine W_mov (v := .map _) rfl rfl rfl ?_
          | refine W_mov (v := .str _) rfl rfl rfl ?_
          | refine W_mov (v := .nilptr) rfl rfl rfl ?_)
      | (refine I_bin ?_; first
          | refine W_skip rfl ?_
          | refine W_lssT rfl rfl rfl rfl (by omega) ?_
          | refine W_lssF rfl rfl rfl rfl (by omega) ?_
          | (refine W_lss rfl rfl rfl rfl ?_ ?_ <;> intro _)
          | refine W_add rfl rfl rfl rfl (by first | exact w64 (by omega) | rfl) ?_)
      | (refine I_load ?_; first
          | refine W_skip rfl ?_
          | refine W_load (agg := false) (d := .slice _ sz (s.map Rd.e)) rfl rfl rfl hbg hl5 rfl ?_
          | refine W_load (agg := false) (d := .int _ _) rfl rfl rfl (bxc rfl) (by first | exact Nat.zero_le _ | assumption | exact Nat.le_trans hlim (Nat.zero_le _) | omega) rfl ?_
          | refine W_load (agg := false) (d := .bool _) rfl rfl rfl (bxc rfl) (by first | exact Nat.zero_le _ | assumption | exact Nat.le_trans hlim (Nat.zero_le _) | omega) rfl ?_
          | refine W_load (agg := false) (d := .slice _ _ _) rfl rfl rfl (bxc rfl) (by first | exact Nat.zero_le _ | assumption | exact Nat.le_trans hlim (Nat.zero_le _) | omega) rfl ?_
          | refine W_load (agg := false) (d := .ptr _ _) rfl rfl rfl (bxc rfl) (by first | exact Nat.zero_le _ | assumption | exact Nat.le_trans hlim (Nat.zero_le _) | omega) rfl ?_
          | refine W_load (agg := false) (d := .func _ _) rfl rfl rfl (bxc rfl) (by first | exact Nat.zero_le _ | assumption | exact Nat.le_trans hlim (Nat.zero_le _) | omega) rfl ?_
          | refine W_load (agg := true) (d := .agg [_, _]) rfl rfl rfl (bxc rfl) (by first | exact Nat.zero_le _ | assumption | exact Nat.le_trans hlim (Nat.zero_le _) | omega) rfl ?_
          | refine W_load (agg := false) (d := .int _ _) rfl rfl rfl (bxs (by omega) (bxc rfl)) (by first | exact Nat.zero_le _ | assumption | exact Nat.le_trans hlim (Nat.zero_le _) | omega) rfl ?_
          | refine W_load (agg := false) (d := .bool _) rfl rfl rfl (bxs (by omega) (bxc rfl)) (by first | exact Nat.zero_le _ | assumption | exact Nat.le_trans hlim (Nat.zero_le _) | omega) rfl ?_
          | refine W_load (agg := false) (d := .slice _ _ _) rfl rfl rfl (bxs (by omega) (bxc rfl)) (by first | exact Nat.zero_le _ | assumption | exact Nat.le_trans hlim (Nat.zero_le _) | omega) rfl ?_
          | refine W_load (agg := false) (d := .ptr _ _) rfl rfl rfl (bxs (by omega) (bxc rfl)) (by first | exact Nat.zero_le _ | assumption | exact Nat.le_trans hlim (Nat.zero_le _) | omega) rfl ?_
          | refine W_load (agg := false) (d := .func _ _) rfl rfl rfl (bxs (by omega) (bxc rfl)) (by first | exact Nat.zero_le _ | assumption | exact Nat.le_trans hlim (Nat.zero_le _) | omega) rfl ?_
          | refine W_load (agg := true) (d := .agg [_, _]) rfl rfl rfl (bxs (by omega) (bxc rfl)) (by first | exact Nat.zero_le _ | assumption | exact Nat.le_trans hlim (Nat.zero_le _) | omega) rfl ?_
          | refine W_load (agg := false) (d := .int _ _) rfl rfl rfl rfl (by first | exact Nat.zero_le _ | omega) rfl ?_
          | refine W_load (agg := false) (d := .bool _) rfl rfl rfl rfl (by first | exact Nat.zero_le _ | omega) rfl ?_
          | refine W_load (agg := false) (d := .slice _ _ _) rfl rfl rfl rfl (by first | exact Nat.zero_le _ | omega) rfl ?_
          | refine W_load (agg := false) (d := .ptr _ _) rfl rfl rfl rfl (by first | exact Nat.zero_le _ | omega) rfl ?_
          | refine W_load (agg := false) (d := .func _ _) rfl rfl rfl rfl (by first | exact Nat.zero_le _ | omega) rfl ?_
          | refine W_load (agg := true) (d := .agg [_, _]) rfl rfl rfl rfl (by first | exact Nat.zero_le _ | omega) rfl ?_)
      | (refine I_call ?_; first
          | refine W_skip rfl ?_)
      | (refine I_pick ?_; first
          | refine W_pick (v := .int _ _) rfl rfl rfl rfl ?_
          | refine W_pick (v := .bool _) rfl rfl rfl rfl ?_
          | refine W_pick (v := .slice _ _ _) rfl rfl rfl rfl ?_
          | refine W_pick (v := .agg _) rfl rfl rfl rfl ?_
          | refine W_skip rfl ?_)
      | (refine I_box ?_; first
          | refine W_boxA rfl rfl rfl rfl rfl ?_
          | refine W_box1 (v := .slice _ _ _) rfl rfl rfl rfl rfl ?_
          | refine W_box1 (v := .int _ _) rfl rfl rfl rfl rfl ?_
          | refine W_box1 (v := .bool _) rfl rfl rfl rfl rfl ?_
          | refine W_box1 (v := .ptr _ _) rfl rfl rfl rfl rfl ?_
          | refine W_skip rfl ?_)
      | (refine I_store ?_; first
          | refine W_store (cs' := [_, _]) rfl rfl (upd_same _ _ _) rfl (by first | exact Nat.zero_le _ | assumption | exact Nat.le_trans hlim (Nat.zero_le _) | omega) rfl rfl rfl ?_
          | refine W_store (cs' := [_, _]) rfl rfl ((upd_ne _ _ (by omega)).trans (upd_same _ _ _)) rfl (by first | exact Nat.zero_le _ | assumption | exact Nat.le_trans hlim (Nat.zero_le _) | omega) rfl rfl rfl ?_
          | refine W_store (cs' := [_, _]) rfl rfl rfl rfl (by first | exact Nat.zero_le _ | omega) rfl rfl rfl ?_
          | refine W_skip0 rfl ?_)
      | refine W_lenS0 rfl rfl rfl ?_
      | refine W_lenM rfl rfl rfl ?_
      | refine W_lenS rfl rfl rfl ?_
      | refine W_lenR rfl rfl rfl ?_
      | refine W_faddr rfl rfl rfl ?_
      | refine W_faddrE rfl rfl rfl ?_
      | refine W_nilCheckM rfl rfl ?_
      | refine W_nilCheckE rfl rfl rfl ?_
      | refine W_nilCheckF rfl rfl rfl ?_
      | refine W_faddrM rfl rfl ?_
      | refine W_skip rfl ?_
      | refine W_iaddr rfl rfl rfl rfl (by first | rfl | exact sz_of (by assumption) (by omega)) (by first | decide | (simp only [List.length_map]; omega)) ?_
      | refine W_iaddrRN rfl rfl rfl rfl rfl (by decide) ?_
      | refine W_iaddrR rfl rfl rfl rfl (by first | decide | omega) ?_
      | refine W_bsliceS (ds := [.slice _ _ _]) (ys := [.slice _ _ _]) rfl rfl rfl rfl (by decide) rfl ?_
      | refine W_bsliceS (ds := [.slice _ _ _, .slice _ _ _]) (ys := [.slice _ _ _, .slice _ _ _]) rfl rfl rfl rfl (by decide) rfl ?_
      | refine W_bsliceS (ds := [.slice _ _ _, .slice _ _ _, .slice _ _ _]) (ys := [.slice _ _ _, .slice _ _ _, .slice _ _ _]) rfl rfl rfl rfl (by decide) rfl ?_
      | refine W_bslice (ys := []) rfl rfl rfl (by decide) rfl ?_
      | refine W_bslice (ys := [_]) rfl rfl rfl (by decide) rfl ?_
      | refine W_bslice (ys := [_, _]) rfl rfl rfl (by decide) rfl ?_
      | refine W_bslice (ys := [_, _, _]) rfl rfl rfl (by decide) rfl ?_
      | (refine W_sliceLoN rfl rfl (by first | exact .inl rfl | assumption) rfl (by first | omega | (simp; omega)) rfl ?_ <;> intro _)
      | (refine W_sliceHiN rfl rfl (by first | exact .inl rfl | assumption) rfl (by first | omega | (simp; omega)) rfl ?_ <;> intro _)
      | (refine W_sliceLo rfl rfl (by first | exact .inl rfl | assumption) rfl (by first | omega | (simp; omega)) rfl ?_ <;> intro _)
      | (refine W_sliceHi rfl rfl (by first | exact .inl rfl | assumption) rfl (by first | omega | (simp; omega)) rfl ?_ <;> intro _)
      | refine W_skip rfl ?_
      | refine WS_nil ?_)
    | refine WC_seq ?_
    | refine WC_opsS ?_
    | refine WC_drawS ?_
    | refine WC_skip ?_
    | refine WC_condT rfl ?_
    | refine WC_condF rfl ?_
    | refine WC_block ?_
    | refine WC_exit ?_
    | refine WC_ret ?_
    | refine okF_intro rfl ?_)
  have hl6 : st3.lim ≤ g := by rw [c3]; exact hl5
  have hbg' : st3.boxes g = some (.cells [.slice t' sz' (s.map Rd.e)]) := by rw [c1, b1, a1]; exact hb'
  repeat' (first
    | (refine I_WS ?_; first
      | refine W_store (cs' := [_]) rfl rfl hbg' rfl hl6 rfl rfl rfl ?_
      | (refine I_mov ?_; first
          | refine W_skip rfl ?_
          | refine W_mov (v := .int _ _) rfl rfl rfl ?_
          | refine W_mov (v := .bool _) rfl rfl rfl ?_
          | refine W_mov (v := .slice _ _ _) rfl rfl rfl ?_
          | refine W_mov (v := .agg _) rfl rfl rfl ?_
          | refine W_mov (v := .ptr _ _) rfl rfl rfl ?_
          | refine W_mov (v := .func _ _) rfl rfl rfl ?_
          | refine W_mov (v := .eptr _ _ _ _) rfl rfl rfl ?_
          | refine W_mov (v := .rs _ _ _ _ _) rfl rfl rfl ?_
          | refine W_mov (v := .tuple _) rfl rfl rfl ?_
          | refine W_mov (v := .map _) rfl rfl rfl ?_
          | refine W_mov (v := .str _) rfl rfl rfl ?_
          | refine W_mov (v := .nilptr) rfl rfl rfl ?_)
      | (refine I_bin ?_; first
          | refine W_skip rfl ?_
          | refine W_lssT rfl rfl rfl rfl (by omega) ?_
          | refine W_lssF rfl rfl rfl rfl (by omega) ?_
          | (refine W_lss rfl rfl rfl rfl ?_ ?_ <;> intro _)
          | refine W_add rfl rfl rfl rfl (by first | exact w64 (by omega) | rfl) ?_)
      | (refine I_load ?_; first
          | refine W_skip rfl ?_
          | refine W_load (agg := false) (d := .int _ _) rfl rfl rfl (bxc rfl) (by first | exact Nat.zero_le _ | assumption | exact Nat.le_trans hlim (Nat.zero_le _) | omega) rfl ?_
          | refine W_load (agg := false) (d := .bool _) rfl rfl rfl (bxc rfl) (by first | exact Nat.zero_le _ | assumption | exact Nat.le_trans hlim (Nat.zero_le _) | omega) rfl ?_
          | refine W_load (agg := false) (d := .slice _ _ _) rfl rfl rfl (bxc rfl) (by first | exact Nat.zero_le _ | assumption | exact Nat.le_trans hlim (Nat.zero_le _) | omega) rfl ?_
          | refine W_load (agg := false) (d := .ptr _ _) rfl rfl rfl (bxc rfl) (by first | exact Nat.zero_le _ | assumption | exact Nat.le_trans hlim (Nat.zero_le _) | omega) rfl ?_
          | refine W_load (agg := false) (d := .func _ _) rfl rfl rfl (bxc rfl) (by first | exact Nat.zero_le _ | assumption | exact Nat.le_trans hlim (Nat.zero_le _) | omega) rfl ?_
          | refine W_load (agg := true) (d := .agg [_, _]) rfl rfl rfl (bxc rfl) (by first | exact Nat.zero_le _ | assumption | exact Nat.le_trans hlim (Nat.zero_le _) | omega) rfl ?_
          | refine W_load (agg := false) (d := .int _ _) rfl rfl rfl (bxs (by omega) (bxc rfl)) (by first | exact Nat.zero_le _ | assumption | exact Nat.le_trans hlim (Nat.zero_le _) | omega) rfl ?_
          | refine W_load (agg := false) (d := .bool _) rfl rfl rfl (bxs (by omega) (bxc rfl)) (by first | exact Nat.zero_le _ | assumption | exact Nat.le_trans hlim (Nat.zero_le _) | omega) rfl ?_
          | refine W_load (agg := false) (d := .slice _ _ _) rfl rfl rfl (bxs (by omega) (bxc rfl)) (by first | exact Nat.zero_le _ | assumption | exact Nat.le_trans hlim (Nat.zero_le _) | omega) rfl ?_
          | refine W_load (agg := false) (d := .ptr _ _) rfl rfl rfl (bxs (by omega) (bxc rfl)) (by first | exact Nat.zero_le _ | assumption | exact Nat.le_trans hlim (Nat.zero_le _) | omega) rfl ?_
          | refine W_load (agg := false) (d := .func _ _) rfl rfl rfl (bxs (by omega) (bxc rfl)) (by first | exact Nat.zero_le _ | assumption | exact Nat.le_trans hlim (Nat.zero_le _) | omega) rfl ?_
          | refine W_load (agg := true) (d := .agg [_, _]) rfl rfl rfl (bxs (by omega) (bxc rfl)) (by first | exact Nat.zero_le _ | assumption | exact Nat.le_trans hlim (Nat.zero_le _) | omega) rfl ?_
          | refine W_load (agg := false) (d := .int _ _) rfl rfl rfl rfl (by first | exact Nat.zero_le _ | omega) rfl ?_
          | refine W_load (agg := false) (d := .bool _) rfl rfl rfl rfl (by first | exact Nat.zero_le _ | omega) rfl ?_
          | refine W_load (agg := false) (d := .slice _ _ _) rfl rfl rfl rfl (by first | exact Nat.zero_le _ | omega) rfl ?_
          | refine W_load (agg := false) (d := .ptr _ _) rfl rfl rfl rfl (by first | exact Nat.zero_le _ | omega) rfl ?_
          | refine W_load (agg := false) (d := .func _ _) rfl rfl rfl rfl (by first | exact Nat.zero_le _ | omega) rfl ?_
          | refine W_load (agg := true) (d := .agg [_, _]) rfl rfl rfl rfl (by first | exact Nat.zero_le _ | omega) rfl ?_)
      | (refine I_call ?_; first
          | refine W_skip rfl ?_)
      | (refine I_pick ?_; first
          | refine W_pick (v := .int _ _) rfl rfl rfl rfl ?_
          | refine W_pick (v := .bool _) rfl rfl rfl rfl ?_
          | refine W_pick (v := .slice _ _ _) rfl rfl rfl rfl ?_
          | refine W_pick (v := .agg _) rfl rfl rfl rfl ?_
          | refine W_skip rfl ?_)
      | (refine I_box ?_; first
          | refine W_boxA rfl rfl rfl rfl rfl ?_
          | refine W_box1 (v := .slice _ _ _) rfl rfl rfl rfl rfl ?_
          | refine W_box1 (v := .int _ _) rfl rfl rfl rfl rfl ?_
          | refine W_box1 (v := .bool _) rfl rfl rfl rfl rfl ?_
          | refine W_box1 (v := .ptr _ _) rfl rfl rfl rfl rfl ?_
          | refine W_skip rfl ?_)
      | (refine I_store ?_; first
          | refine W_store (cs' := [_, _]) rfl rfl (upd_same _ _ _) rfl (by first | exact Nat.zero_le _ | assumption | exact Nat.le_trans hlim (Nat.zero_le _) | omega) rfl rfl rfl ?_
          | refine W_store (cs' := [_, _]) rfl rfl ((upd_ne _ _ (by omega)).trans (upd_same _ _ _)) rfl (by first | exact Nat.zero_le _ | assumption | exact Nat.le_trans hlim (Nat.zero_le _) | omega) rfl rfl rfl ?_
          | refine W_store (cs' := [_, _]) rfl rfl rfl rfl (by first | exact Nat.zero_le _ | omega) rfl rfl rfl ?_
          | refine W_skip0 rfl ?_)
      | refine W_lenS0 rfl rfl rfl ?_
      | refine W_lenM rfl rfl rfl ?_
      | refine W_lenS rfl rfl rfl ?_
      | refine W_lenR rfl rfl rfl ?_
      | refine W_faddr rfl rfl rfl ?_
      | refine W_faddrE rfl rfl rfl ?_
      | refine W_nilCheckM rfl rfl ?_
      | refine W_nilCheckE rfl rfl rfl ?_
      | refine W_nilCheckF rfl rfl rfl ?_
      | refine W_faddrM rfl rfl ?_
      | refine W_skip rfl ?_
      | refine W_iaddr rfl rfl rfl rfl (by first | rfl | exact sz_of (by assumption) (by omega)) (by first | decide | (simp only [List.length_map]; omega)) ?_
      | refine W_iaddrRN rfl rfl rfl rfl rfl (by decide) ?_
      | refine W_iaddrR rfl rfl rfl rfl (by first | decide | omega) ?_
      | refine W_bsliceS (ds := [.slice _ _ _]) (ys := [.slice _ _ _]) rfl rfl rfl rfl (by decide) rfl ?_
      | refine W_bsliceS (ds := [.slice _ _ _, .slice _ _ _]) (ys := [.slice _ _ _, .slice _ _ _]) rfl rfl rfl rfl (by decide) rfl ?_
      | refine W_bsliceS (ds := [.slice _ _ _, .slice _ _ _, .slice _ _ _]) (ys := [.slice _ _ _, .slice _ _ _, .slice _ _ _]) rfl rfl rfl rfl (by decide) rfl ?_
      | refine W_bslice (ys := []) rfl rfl rfl (by decide) rfl ?_
      | refine W_bslice (ys := [_]) rfl rfl rfl (by decide) rfl ?_
      | refine W_bslice (ys := [_, _]) rfl rfl rfl (by decide) rfl ?_
      | refine W_bslice (ys := [_, _, _]) rfl rfl rfl (by decide) rfl ?_
      | (refine W_sliceLoN rfl rfl (by first | exact .inl rfl | assumption) rfl (by first | omega | (simp; omega)) rfl ?_ <;> intro _)
      | (refine W_sliceHiN rfl rfl (by first | exact .inl rfl | assumption) rfl (by first | omega | (simp; omega)) rfl ?_ <;> intro _)
      | (refine W_sliceLo rfl rfl (by first | exact .inl rfl | assumption) rfl (by first | omega | (simp; omega)) rfl ?_ <;> intro _)
      | (refine W_sliceHi rfl rfl (by first | exact .inl rfl | assumption) rfl (by first | omega | (simp; omega)) rfl ?_ <;> intro _)
      | refine W_skip rfl ?_
      | refine WS_nil ?_)
    | refine WC_seq ?_
    | refine WC_opsS ?_
    | refine WC_drawS ?_
    | refine WC_skip ?_
    | refine WC_condT rfl ?_
    | refine WC_condF rfl ?_
    | refine WC_block ?_
    | refine WC_exit ?_
    | refine WC_ret ?_
    | refine okF_intro rfl ?_)
  refine ⟨.inl rfl, _, rfl, rfl, ⟨hl6, ?_, c5, .own k3, 2, ?_, .inl rfl⟩, ⟨?_, ?_, ?_, fun q hq hqg => ?_⟩⟩
  · show g < st3.next; rw [c2, b2, a2]; exact Nat.lt_succ_of_lt hnx
  · have : ([] ++ (s.take pre.length).map Rd.e ++ [r.e] ++ (s.drop pre.length).map Rd.e) = (ins r s).map Rd.e := by rw [e1, e2, hins]; simp
    rw [← this]
    exact upd_same _ _ _
  · show st3.lim = _; rw [c3, b3, a3]
  · show st3.tlim = _; rw [c4, b4, a4]
  · show st.next ≤ st3.next; rw [c2, b2, a2]; exact Nat.le_succ _
  · refine (upd_ne _ _ hqg).trans ?_
    rw [c1, b1, a1]
    exact upd_ne _ _ (Nat.ne_of_lt hq)
end Go.Hea
