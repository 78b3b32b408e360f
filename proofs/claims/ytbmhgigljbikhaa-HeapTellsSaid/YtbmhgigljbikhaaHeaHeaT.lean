/-
  What the heap's functions come to: a heap in memory; two change their places.
-/
import Derived.Test.YtbmhgigljbikhaaHeaHeaS
set_option linter.unusedVariables false
set_option linter.unusedSimpArgs false
set_option linter.unnecessarySimpa false
namespace Go.Hea
open Go.Ev
set_option linter.unusedVariables false
set_option linter.unusedSimpArgs false
/-- A heap, and the row that it holds. -/
structure HW (st : Store) (h : Nat) (o : Option Nat) (xs : List Rd) : Prop where
  lim : st.lim ≤ h
  nx : h < st.next
  sl : (o = none ∧ xs = [] ∧ st.boxes h = some (.cells [.slice .isnil 0 []])) ∨ (∃ r c, o = some r ∧ r ≠ h ∧ st.boxes h = some (.cells [.rs r 0 2 xs.length c]) ∧ RowIs st r 2 (xs.map Rd.e) ∧ xs.length ≤ c)
theorem HW.of {st st' : Store} {h : Nat} {o : Option Nat} {xs : List Rd} (H : HW st h o xs) (hl : st'.lim = st.lim) (hn : st.next ≤ st'.next) (hb : ∀ q, q < st.next → q = h ∨ some q = o → st'.boxes q = st.boxes q) : HW st' h o xs := by
  obtain ⟨h1, h2, h3⟩ := H
  refine ⟨by rw [hl]; exact h1, Nat.lt_of_lt_of_le h2 hn, ?_⟩
  rcases h3 with ⟨e1, e2, e3⟩ | ⟨r, c, e1, e2, e3, e4, e5⟩
  · exact .inl ⟨e1, e2, by rw [hb h h2 (.inl rfl)]; exact e3⟩
  · exact .inr ⟨r, c, e1, e2, by rw [hb h h2 (.inl rfl)]; exact e3, e4.of (by rw [hl]; exact e4.1) (Nat.lt_of_lt_of_le e4.2.1 hn) (hb r e4.2.1 (.inr e1.symm)), e5⟩
/-- All else is as it was. -/
structure Fr (st st' : Store) (h : Nat) (o o' : Option Nat) : Prop where
  lim : st'.lim = st.lim
  tlim : st'.tlim = st.tlim
  toks : st'.toks = st.toks
  ntok : st'.ntok = st.ntok
  next : st.next ≤ st'.next
  box : ∀ q, q < st.next → q ≠ h → some q ≠ o → st'.boxes q = st.boxes q
  own : o' = o ∨ ∃ r, o' = some r ∧ st.next ≤ r
theorem Fr.refl (st : Store) (h : Nat) (o : Option Nat) : Fr st st h o o := ⟨rfl, rfl, rfl, rfl, Nat.le_refl _, fun _ _ _ _ => rfl, .inl rfl⟩
theorem Fr.trans {st st1 st2 : Store} {h : Nat} {o o1 o2 : Option Nat} (a : Fr st st1 h o o1) (b : Fr st1 st2 h o1 o2) : Fr st st2 h o o2 where
  lim := b.lim.trans a.lim
  tlim := b.tlim.trans a.tlim
  toks := b.toks.trans a.toks
  ntok := b.ntok.trans a.ntok
  next := Nat.le_trans a.next b.next
  box q hq h1 h2 := by
    refine (b.box q (Nat.lt_of_lt_of_le hq a.next) h1 (fun e => ?_)).trans (a.box q hq h1 h2)
    rcases a.own with rfl | ⟨r, rfl, hr⟩
    · exact h2 e
    · cases e; omega
  own := by
    rcases b.own with rfl | ⟨r, rfl, hr⟩
    · exact a.own
    · exact .inr ⟨r, rfl, Nat.le_trans a.next hr⟩
/-- Two change their places. -/
def swp (xs : List Rd) (i k : Nat) (a b : Rd) : List Rd := (xs.set i b).set k a
theorem s_swap (xs : List Rd) (hx : xs.length ≤ 1073741824) (st : Store) (h : Nat) (o : Option Nat) (i k : Nat) (a b : Rd) (hH : HW st h o xs) (ha : xs[i]? = some a) (hk : xs[k]? = some b) :
    EvRWX Γ 45 [.ptr h 0, .int .i64 i, .int .i64 k] st (fun r st' => r = .tuple [] ∧ HW st' h o (swp xs i k a b) ∧ Fr st st' h o o) := by
  have hi' : i < xs.length := (List.getElem?_eq_some_iff.mp ha).1
  have hk' : k < xs.length := (List.getElem?_eq_some_iff.mp hk).1
  obtain ⟨hlim, hnx, ⟨rfl, rfl, _⟩ | ⟨r, c, rfl, hrh, hb, hR, hcap⟩⟩ := hH
  · simp at hi'
  have hb1 : (st.boxes h).bind Box.cs = some [.rs r 0 2 xs.length c] := by rw [hb]; rfl
  have ha' := rd_at ha
  have hb' := rd_at hk
  have hi2 : i < (xs.map Rd.e).length := by simpa using hi'
  refine EvRWX_code rfl rfl ?_
  repeat' (first
    | (refine I_WS ?_; first
      | refine W_iaddrR (j := i) rfl rfl rfl rfl hi' ?_
      | refine W_iaddrR (j := k) rfl rfl rfl rfl hk' ?_
      | (refine I_mov ?_; first
          | refine W_skip rfl ?_
          | refine W_mov (v := .int _ _) rfl rfl rfl ?_
          | refine W_mov (v := .bool _) rfl rfl rfl ?_
          | refine W_mov (v := .slice _ _ _) rfl rfl rfl ?_
          | refine W_mov (v := .agg _) rfl rfl rfl ?_
          | refine W_mov (v := .ptr _ _) rfl rfl rfl ?_
          | refine W_mov (v := .func _ _) rfl rfl rfl ?_
          | refine W_mov (v := .eptr _ _ _ _) rfl rfl rfl ?_
          | refine W_mov (v := .rs _ _ _ _ _) rfl rfl rfl ?_
          | refine W_mov (v := .tuple _) rfl rfl rfl ?_
          | refine W_mov (v := .map _) rfl rfl rfl ?_
          | refine W_mov (v := .str _) rfl rfl rfl ?_
          | refine W_mov (v := .nilptr) rfl rfl rfl ?_)
      | (refine I_load ?_; first
          | refine W_skip rfl ?_
          | refine W_load (agg := false) (d := .rs r 0 2 xs.length c) rfl rfl rfl hb1 hlim rfl ?_
          | refine W_loadRow (j := i) rfl rfl hR.at (Nat.zero_add _) rd_cells ha' rfl ?_
          | refine W_loadRow (j := k) rfl rfl hR.at (Nat.zero_add _) rd_cells hb' rfl ?_
          | refine W_load (agg := false) (d := .int _ _) rfl rfl rfl rfl (by first | exact Nat.zero_le _ | omega) rfl ?_
          | refine W_load (agg := false) (d := .bool _) rfl rfl rfl rfl (by first | exact Nat.zero_le _ | omega) rfl ?_
          | refine W_load (agg := false) (d := .slice _ _ _) rfl rfl rfl rfl (by first | exact Nat.zero_le _ | omega) rfl ?_
          | refine W_load (agg := false) (d := .ptr _ _) rfl rfl rfl rfl (by first | exact Nat.zero_le _ | omega) rfl ?_
          | refine W_load (agg := false) (d := .func _ _) rfl rfl rfl rfl (by first | exact Nat.zero_le _ | omega) rfl ?_
          | refine W_load (agg := true) (d := .agg [_, _]) rfl rfl rfl rfl (by first | exact Nat.zero_le _ | omega) rfl ?_)
      | (refine I_store ?_; first
          | (refine W_storeRow (j := i) rfl rfl rfl hR (Nat.zero_add _) rd_cells hi2 rfl rfl rfl ?_ <;> intro st1 e1 e2 e3 e4 e5 hR1 hb2)
          | refine W_store (cs' := [_, _]) rfl rfl rfl rfl (by first | exact Nat.zero_le _ | omega) rfl rfl rfl ?_
          | refine W_skip0 rfl ?_)
      | refine W_faddr rfl rfl rfl ?_
      | refine W_faddrE rfl rfl rfl ?_
      | refine W_nilCheckM rfl rfl ?_
      | refine W_nilCheckE rfl rfl rfl ?_
      | refine W_nilCheckF rfl rfl rfl ?_
      | refine W_faddrM rfl rfl ?_
      | refine W_skip rfl ?_
      | refine W_iaddr rfl rfl rfl rfl (by first | rfl | exact sz_of (by assumption) (by omega)) (by first | decide | (simp only [List.length_map]; omega)) ?_
      | refine W_iaddrRN rfl rfl rfl rfl rfl (by decide) ?_
      | refine W_iaddrR rfl rfl rfl rfl (by first | decide | omega) ?_
      | refine W_skip rfl ?_
      | refine WS_nil ?_)
    | refine WC_seq ?_
    | refine WC_opsS ?_
    | refine WC_drawS ?_
    | refine WC_skip ?_
    | refine WC_ret ?_
    | refine okF_intro rfl ?_)
  have hk2 : k < ((xs.map Rd.e).set i (.agg [.int .i64 b.node, .int .i64 b.at'])).length := by simpa using hk'
  refine W_storeRow (j := k) rfl rfl rfl hR1 (Nat.zero_add _) ?_ hk2 rfl rfl rfl ?_
  · intro d hd
    rcases List.mem_or_eq_of_mem_set hd with hd | rfl
    · exact rd_cells d hd
    · rfl
  intro st2 f1 f2 f3 f4 f5 hR2 hb3
  have hsw : ((xs.map Rd.e).set i (.agg [.int .i64 b.node, .int .i64 b.at'])).set k (.agg [.int .i64 a.node, .int .i64 a.at']) = (swp xs i k a b).map Rd.e := by
    simp [swp, List.map_set, Rd.e]
  rw [hsw] at hR2
  repeat' (first
    | (refine I_WS ?_; first
      | (refine I_mov ?_; first
          | refine W_skip rfl ?_
          | refine W_mov (v := .int _ _) rfl rfl rfl ?_
          | refine W_mov (v := .bool _) rfl rfl rfl ?_
          | refine W_mov (v := .slice _ _ _) rfl rfl rfl ?_
          | refine W_mov (v := .agg _) rfl rfl rfl ?_
          | refine W_mov (v := .ptr _ _) rfl rfl rfl ?_
          | refine W_mov (v := .func _ _) rfl rfl rfl ?_
          | refine W_mov (v := .eptr _ _ _ _) rfl rfl rfl ?_
          | refine W_mov (v := .rs _ _ _ _ _) rfl rfl rfl ?_
          | refine W_mov (v := .tuple _) rfl rfl rfl ?_
          | refine W_mov (v := .map _) rfl rfl rfl ?_
          | refine W_mov (v := .str _) rfl rfl rfl ?_
          | refine W_mov (v := .nilptr) rfl rfl rfl ?_)
      | (refine I_load ?_; first
          | refine W_skip rfl ?_
          | refine W_load (agg := false) (d := .int _ _) rfl rfl rfl rfl (by first | exact Nat.zero_le _ | omega) rfl ?_
          | refine W_load (agg := false) (d := .bool _) rfl rfl rfl rfl (by first | exact Nat.zero_le _ | omega) rfl ?_
          | refine W_load (agg := false) (d := .slice _ _ _) rfl rfl rfl rfl (by first | exact Nat.zero_le _ | omega) rfl ?_
          | refine W_load (agg := false) (d := .ptr _ _) rfl rfl rfl rfl (by first | exact Nat.zero_le _ | omega) rfl ?_
          | refine W_load (agg := false) (d := .func _ _) rfl rfl rfl rfl (by first | exact Nat.zero_le _ | omega) rfl ?_
          | refine W_load (agg := true) (d := .agg [_, _]) rfl rfl rfl rfl (by first | exact Nat.zero_le _ | omega) rfl ?_)
      | (refine I_store ?_; first
          | refine W_store (cs' := [_, _]) rfl rfl rfl rfl (by first | exact Nat.zero_le _ | omega) rfl rfl rfl ?_
          | refine W_skip0 rfl ?_)
      | refine W_faddr rfl rfl rfl ?_
      | refine W_faddrE rfl rfl rfl ?_
      | refine W_nilCheckM rfl rfl ?_
      | refine W_nilCheckE rfl rfl rfl ?_
      | refine W_nilCheckF rfl rfl rfl ?_
      | refine W_faddrM rfl rfl ?_
      | refine W_skip rfl ?_
      | refine W_iaddr rfl rfl rfl rfl (by first | rfl | exact sz_of (by assumption) (by omega)) (by first | decide | (simp only [List.length_map]; omega)) ?_
      | refine W_iaddrRN rfl rfl rfl rfl rfl (by decide) ?_
      | refine W_iaddrR rfl rfl rfl rfl (by first | decide | omega) ?_
      | refine W_skip rfl ?_
      | refine WS_nil ?_)
    | refine WC_seq ?_
    | refine WC_opsS ?_
    | refine WC_drawS ?_
    | refine WC_skip ?_
    | refine WC_ret ?_
    | refine okF_intro rfl ?_)
  refine ⟨.inl rfl, _, rfl, rfl, ⟨by rw [f1, e1]; exact hlim, by rw [f5, e5]; exact hnx, .inr ⟨r, c, rfl, hrh, ?_, hR2, by rw [show (swp xs i k a b).length = xs.length by simp [swp]]; exact hcap⟩⟩, ⟨f1.trans e1, f2.trans e2, f3.trans e3, f4.trans e4, Nat.le_of_eq (f5.trans e5).symm, fun q hq h1 h2 => ?_, .inl rfl⟩⟩
  · rw [hb3 h (Ne.symm hrh), hb2 h (Ne.symm hrh), hb]
    simp [swp]
  · have : q ≠ r := fun e => h2 (by rw [e])
    rw [hb3 q this, hb2 q this]
end Go.Hea
