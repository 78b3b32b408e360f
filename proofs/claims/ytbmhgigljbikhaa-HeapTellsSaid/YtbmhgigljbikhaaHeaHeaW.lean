/-
  What the heap's functions come to: the first one is taken; a heap of some.
-/
import Derived.Test.YtbmhgigljbikhaaHeaHeaV
set_option linter.unusedVariables false
set_option linter.unusedSimpArgs false
set_option linter.unnecessarySimpa false
namespace Go.Hea
open Go.Ev
set_option linter.unusedVariables false
set_option linter.unusedSimpArgs false
theorem resPop {ρ : Nat → D} {st : Store} {p : Nat} {a b : D} {t : Bool} (h2 : ρ 2 = .ptr p 0) (h3 : ρ 3 = .bool t) (hb : (st.boxes p).bind Box.cs = some [a, b]) (hl : st.lim ≤ p) : resAll ρ st c_heap_Heap_Pop.res = some (.tuple [.agg [a, b], .bool t]) := by
  simp [resAll, resD, c_heap_Heap_Pop, h2, h3, Store.cellsAt, hb, Nat.not_lt.mpr hl, cut]
theorem s_Pop (xs : List Rd) (hx : xs.length ≤ 1073741823) (st : Store) (h : Nat) (o : Option Nat) (hH : HW st h o xs) (hX : hp xs) :
    EvRWX Γ 18 [.ptr h 0] st (fun r st' => (xs = [] ∧ r = .tuple [.agg [.int .i64 0, .int .i64 0], .bool false] ∧ HW st' h o [] ∧ Fr st st' h o o) ∨ (0 < xs.length ∧ r = .tuple [(atR xs 0).e, .bool true] ∧ ∃ ys, HW st' h o ys ∧ hp ys ∧ xs.Perm (atR xs 0 :: ys) ∧ Fr st st' h o o)) := by
  have hlim := hH.lim
  have hnx := hH.nx
  have hl2 : st.lim ≤ st.next := Nat.le_trans hlim (Nat.le_of_lt hnx)
  have hne : h ≠ st.next := Nat.ne_of_lt hnx
  have hne1 : st.next ≠ st.next + 1 := by omega
  have H1 : ∀ {x : Option Box}, HW { st with boxes := upd st.boxes st.next x, next := st.next + 1 } h o xs := fun {x} => hH.of rfl (Nat.le_succ _) (fun q hq _ => upd_ne _ _ (Nat.ne_of_lt hq))
  have hpk := fun {x} => s_Peek xs (by omega) _ h o (H1 (x := x))
  by_cases h0 : xs = []
  · subst h0
    refine EvRWX_code rfl rfl ?_
    repeat' (first
    | (refine I_WS ?_; first
      | refine W_store (cs' := [_, _]) rfl rfl (upd_same _ _ _) rfl (Nat.le_succ_of_le hl2) rfl rfl rfl ?_
      | refine W_store (cs' := [_, _]) rfl rfl ((upd_ne _ _ hne1).trans ((upd_ne _ _ hne1).trans (upd_same _ _ _))) rfl hl2 rfl rfl rfl ?_
      | (refine I_mov ?_; first
          | refine W_skip rfl ?_
          | refine W_mov (v := .int _ _) rfl rfl rfl ?_
          | refine W_mov (v := .bool _) rfl rfl rfl ?_
          | refine W_mov (v := .slice _ _ _) rfl rfl rfl ?_
          | refine W_mov (v := .agg _) rfl rfl rfl ?_
          | refine W_mov (v := .ptr _ _) rfl rfl rfl ?_
          | refine W_mov (v := .func _ _) rfl rfl rfl ?_
          | refine W_mov (v := .eptr _ _ _ _) rfl rfl rfl ?_
          | refine W_mov (v := .rs _ _ _ _ _) rfl rfl rfl ?_
          | refine W_mov (v := .tuple _) rfl rfl rfl ?_
          | refine W_mov (v := .map _) rfl rfl rfl ?_
          | refine W_mov (v := .str _) rfl rfl rfl ?_
          | refine W_mov (v := .nilptr) rfl rfl rfl ?_)
      | (refine I_bin ?_; first
          | refine W_skip rfl ?_
          | refine W_sub rfl rfl rfl rfl (by first | exact w64 (by omega) | rfl) ?_)
      | (refine I_load ?_; first
          | refine W_skip rfl ?_
          | refine W_load (agg := true) (d := .agg [_, _]) rfl rfl rfl (bxc rfl) (Nat.le_succ_of_le hl2) rfl ?_
          | refine W_load (agg := false) (d := .int _ _) rfl rfl rfl rfl (by first | exact Nat.zero_le _ | omega) rfl ?_
          | refine W_load (agg := false) (d := .bool _) rfl rfl rfl rfl (by first | exact Nat.zero_le _ | omega) rfl ?_
          | refine W_load (agg := false) (d := .slice _ _ _) rfl rfl rfl rfl (by first | exact Nat.zero_le _ | omega) rfl ?_
          | refine W_load (agg := false) (d := .ptr _ _) rfl rfl rfl rfl (by first | exact Nat.zero_le _ | omega) rfl ?_
          | refine W_load (agg := false) (d := .func _ _) rfl rfl rfl rfl (by first | exact Nat.zero_le _ | omega) rfl ?_
          | refine W_load (agg := true) (d := .agg [_, _]) rfl rfl rfl rfl (by first | exact Nat.zero_le _ | omega) rfl ?_)
      | (refine I_call ?_; first
          | refine W_skip rfl ?_
          | refine W_callRO rfl rfl rfl hpk rfl rfl ?_)
      | (refine I_extract ?_; first
          | refine W_extract (d := .int _ _) rfl rfl rfl rfl ?_
          | refine W_extract (d := .bool _) rfl rfl rfl rfl ?_
          | refine W_extract (d := .slice _ _ _) rfl rfl rfl rfl ?_
          | refine W_extract (d := .agg _) rfl rfl rfl rfl ?_
          | refine W_extract (d := .ptr _ _) rfl rfl rfl rfl ?_
          | refine W_extract (d := .func _ _) rfl rfl rfl rfl ?_
          | refine W_skip rfl ?_)
      | (refine I_store ?_; first
          | refine W_store (cs' := [_, _]) rfl rfl rfl rfl (by first | exact Nat.zero_le _ | omega) rfl rfl rfl ?_
          | refine W_skip0 rfl ?_)
      | refine W_not rfl rfl rfl ?_
      | refine W_lenS0 rfl rfl rfl ?_
      | refine W_lenM rfl rfl rfl ?_
      | refine W_lenS rfl rfl rfl ?_
      | refine W_lenR rfl rfl rfl ?_
      | refine W_faddr rfl rfl rfl ?_
      | refine W_faddrE rfl rfl rfl ?_
      | refine W_nilCheckM rfl rfl ?_
      | refine W_nilCheckE rfl rfl rfl ?_
      | refine W_nilCheckF rfl rfl rfl ?_
      | refine W_faddrM rfl rfl ?_
      | refine W_alloc rfl rfl ?_
      | (refine W_sliceLoN rfl rfl (by first | exact .inl rfl | assumption) rfl (by first | omega | (simp; omega)) rfl ?_ <;> intro _)
      | (refine W_sliceHiN rfl rfl (by first | exact .inl rfl | assumption) rfl (by first | omega | (simp; omega)) rfl ?_ <;> intro _)
      | (refine W_sliceLo rfl rfl (by first | exact .inl rfl | assumption) rfl (by first | omega | (simp; omega)) rfl ?_ <;> intro _)
      | (refine W_sliceHi rfl rfl (by first | exact .inl rfl | assumption) rfl (by first | omega | (simp; omega)) rfl ?_ <;> intro _)
      | refine W_skip rfl ?_
      | refine WS_nil ?_)
    | refine WC_seq ?_
    | refine WC_opsS ?_
    | refine WC_skip ?_
    | refine WC_condT rfl ?_
    | refine WC_condF rfl ?_
    | refine WC_ret ?_)
    refine ⟨.inr rfl, _, resPop rfl rfl (bxc rfl) hl2, .inl ⟨rfl, rfl, hH.of rfl ?_ (fun q hq _ => ?_), ⟨rfl, rfl, rfl, rfl, ?_, fun q hq _ _ => ?_, .inl rfl⟩⟩⟩
    · show st.next ≤ st.next + 1 + 1; omega
    · have k1 : q ≠ st.next := Nat.ne_of_lt hq
      have k2 : q ≠ st.next + 1 := by omega
      exact (upd_ne _ _ k1).trans ((upd_ne _ _ k2).trans ((upd_ne _ _ k2).trans (upd_ne _ _ k1)))
    · show st.next ≤ st.next + 1 + 1; omega
    · have k1 : q ≠ st.next := Nat.ne_of_lt hq
      have k2 : q ≠ st.next + 1 := by omega
      exact (upd_ne _ _ k1).trans ((upd_ne _ _ k2).trans ((upd_ne _ _ k2).trans (upd_ne _ _ k1)))
  · have hl : 0 < xs.length := List.length_pos_iff.mpr h0
    have hl1 : xs.length - 1 < xs.length := by omega
    have hok : (decide (0 < xs.length)) = true := by simp [hl]
    obtain ⟨_, _, ⟨rfl, rfl, hb⟩ | ⟨r, c, rfl, hrh, hb, hR, hcap⟩⟩ := id hH
    · exact absurd rfl h0
    rw [hok] at hpk
    have hbh : ∀ {x y z : Option Box}, ((upd (upd (upd st.boxes st.next x) (st.next + 1) y) (st.next + 1) z) h).bind Box.cs = some [.rs r 0 2 xs.length c] := fun {x y z} => by
      rw [upd_ne _ _ (by omega), upd_ne _ _ (by omega), upd_ne _ _ (by omega), hb]; rfl
    have H2 : ∀ {x y z : Option Box}, HW { st with boxes := upd (upd (upd st.boxes st.next x) (st.next + 1) y) (st.next + 1) z, next := st.next + 1 + 1 } h (some r) xs := fun {x y z} => hH.of rfl (by show st.next ≤ st.next + 1 + 1; omega) (fun q hq _ => (upd_ne _ _ (by omega)).trans ((upd_ne _ _ (by omega)).trans (upd_ne _ _ (by omega))))
    have hsw := fun {x y z} => swp_hw (by omega) (H2 (x := x) (y := y) (z := z)) hl hl1
    have hcast : ((xs.length : Int) - 1) = ((xs.length - 1 : Nat) : Int) := by omega
    refine EvRWX_code rfl rfl ?_
    repeat' (first
    | (refine I_WS ?_; first
      | refine W_sub rfl rfl rfl rfl (s := ((xs.length - 1 : Nat) : Int)) (by rw [hcast]; exact w64 (by omega)) ?_
      | refine W_store (cs' := [_, _]) rfl rfl (upd_same _ _ _) rfl (Nat.le_succ_of_le hl2) rfl rfl rfl ?_
      | (refine I_mov ?_; first
          | refine W_skip rfl ?_
          | refine W_mov (v := .int _ _) rfl rfl rfl ?_
          | refine W_mov (v := .bool _) rfl rfl rfl ?_
          | refine W_mov (v := .slice _ _ _) rfl rfl rfl ?_
          | refine W_mov (v := .agg _) rfl rfl rfl ?_
          | refine W_mov (v := .ptr _ _) rfl rfl rfl ?_
          | refine W_mov (v := .func _ _) rfl rfl rfl ?_
          | refine W_mov (v := .eptr _ _ _ _) rfl rfl rfl ?_
          | refine W_mov (v := .rs _ _ _ _ _) rfl rfl rfl ?_
          | refine W_mov (v := .tuple _) rfl rfl rfl ?_
          | refine W_mov (v := .map _) rfl rfl rfl ?_
          | refine W_mov (v := .str _) rfl rfl rfl ?_
          | refine W_mov (v := .nilptr) rfl rfl rfl ?_)
      | (refine I_bin ?_; first
          | refine W_skip rfl ?_
          | refine W_sub rfl rfl rfl rfl (by first | exact w64 (by omega) | rfl) ?_)
      | (refine I_load ?_; first
          | refine W_skip rfl ?_
          | refine W_load (agg := false) (d := .rs r 0 2 xs.length c) rfl rfl rfl hbh hlim rfl ?_
          | refine W_load (agg := false) (d := .int _ _) rfl rfl rfl rfl (by first | exact Nat.zero_le _ | omega) rfl ?_
          | refine W_load (agg := false) (d := .bool _) rfl rfl rfl rfl (by first | exact Nat.zero_le _ | omega) rfl ?_
          | refine W_load (agg := false) (d := .slice _ _ _) rfl rfl rfl rfl (by first | exact Nat.zero_le _ | omega) rfl ?_
          | refine W_load (agg := false) (d := .ptr _ _) rfl rfl rfl rfl (by first | exact Nat.zero_le _ | omega) rfl ?_
          | refine W_load (agg := false) (d := .func _ _) rfl rfl rfl rfl (by first | exact Nat.zero_le _ | omega) rfl ?_
          | refine W_load (agg := true) (d := .agg [_, _]) rfl rfl rfl rfl (by first | exact Nat.zero_le _ | omega) rfl ?_)
      | (refine I_call ?_; first
          | refine W_skip rfl ?_
          | refine W_callRO rfl rfl rfl hpk rfl rfl ?_
          | (refine W_callRWX rfl rfl rfl hsw ?_ <;> intro r1 st1 hp1))
      | (refine I_extract ?_; first
          | refine W_extract (d := .int _ _) rfl rfl rfl rfl ?_
          | refine W_extract (d := .bool _) rfl rfl rfl rfl ?_
          | refine W_extract (d := .slice _ _ _) rfl rfl rfl rfl ?_
          | refine W_extract (d := .agg _) rfl rfl rfl rfl ?_
          | refine W_extract (d := .ptr _ _) rfl rfl rfl rfl ?_
          | refine W_extract (d := .func _ _) rfl rfl rfl rfl ?_
          | refine W_skip rfl ?_)
      | (refine I_store ?_; first
          | refine W_store (cs' := [_, _]) rfl rfl rfl rfl (by first | exact Nat.zero_le _ | omega) rfl rfl rfl ?_
          | refine W_skip0 rfl ?_)
      | refine W_not rfl rfl rfl ?_
      | refine W_lenS0 rfl rfl rfl ?_
      | refine W_lenM rfl rfl rfl ?_
      | refine W_lenS rfl rfl rfl ?_
      | refine W_lenR rfl rfl rfl ?_
      | refine W_faddr rfl rfl rfl ?_
      | refine W_faddrE rfl rfl rfl ?_
      | refine W_nilCheckM rfl rfl ?_
      | refine W_nilCheckE rfl rfl rfl ?_
      | refine W_nilCheckF rfl rfl rfl ?_
      | refine W_faddrM rfl rfl ?_
      | refine W_alloc rfl rfl ?_
      | (refine W_sliceLoN rfl rfl (by first | exact .inl rfl | assumption) rfl (by first | omega | (simp; omega)) rfl ?_ <;> intro _)
      | (refine W_sliceHiN rfl rfl (by first | exact .inl rfl | assumption) rfl (by first | omega | (simp; omega)) rfl ?_ <;> intro _)
      | (refine W_sliceLo rfl rfl (by first | exact .inl rfl | assumption) rfl (by first | omega | (simp; omega)) rfl ?_ <;> intro _)
      | (refine W_sliceHi rfl rfl (by first | exact .inl rfl | assumption) rfl (by first | omega | (simp; omega)) rfl ?_ <;> intro _)
      | refine W_skip rfl ?_
      | refine WS_nil ?_)
    | refine WC_seq ?_
    | refine WC_opsS ?_
    | refine WC_skip ?_
    | refine WC_condT rfl ?_
    | refine WC_condF rfl ?_
    | refine WC_ret ?_)
    obtain ⟨rfl, hH1, hF1⟩ := hp1
    have hn1 : st.next + 1 + 1 ≤ st1.next := hF1.next
    have hl3 : st1.lim = st.lim := hF1.lim
    have hzl : (swp xs 0 (xs.length - 1) (atR xs 0) (atR xs (xs.length - 1))).length = xs.length := swp_len _ _ _ _ _
    have hperm := pop_perm hl
    have hpx := pop_hpx hX hl
    generalize hzs : swp xs 0 (xs.length - 1) (atR xs 0) (atR xs (xs.length - 1)) = zs at *
    obtain ⟨hlim1, hnx1, ⟨e, _, _⟩ | ⟨r2, c2, e, hrh2, hb2, hR2, hcap2⟩⟩ := id hH1
    · cases e
    cases e
    have hbN : st1.boxes st.next = some (.cells [.int .i64 0, .int .i64 0]) := by
      have k1 : st.next ≠ st.next + 1 := by omega
      have := hF1.box st.next (by show st.next < st.next + 1 + 1; omega) (Ne.symm hne) (fun e => by cases e; exact absurd hR.2.1 (Nat.lt_irrefl _))
      rw [this]
      exact (upd_ne _ _ k1).trans ((upd_ne _ _ k1).trans (upd_same _ _ _))
    have hbN1 : st1.boxes (st.next + 1) = some (.cells [.int .i64 (atR xs 0).node, .int .i64 (atR xs 0).at']) := by
      have := hF1.box (st.next + 1) (by show st.next + 1 < st.next + 1 + 1; omega) (by omega) (fun e => by cases e; have := hR.2.1; omega)
      rw [this]
      exact upd_same _ _ _
    have hb3 : (st1.boxes h).bind Box.cs = some [.rs r 0 2 zs.length c2] := by rw [hb2]; rfl
    have htl : (zs.take (xs.length - 1)).length = xs.length - 1 := by rw [List.length_take, hzl]; omega
    have H4 : HW { st1 with boxes := upd st1.boxes h (some (.cells [.rs r 0 2 (xs.length - 1) c2])) } h (some r) (zs.take (xs.length - 1)) := by
      refine ⟨hlim1, hnx1, .inr ⟨r, c2, rfl, hrh, by rw [htl]; exact upd_same _ _ _, ?_, by rw [htl]; omega⟩⟩
      have : RowAt st1 r 2 ((zs.take (xs.length - 1)).map Rd.e) := by
        have h1 := hR2.at
        rw [← List.take_append_drop (xs.length - 1) zs, List.map_append] at h1
        exact h1.pre rd_cells
      exact ⟨hR2.1, hR2.2.1, this.of (upd_ne _ _ hrh)⟩
    have hdn := s_down h (some r) (xs.length - 1) 0 _ _ (by rw [htl]; omega) (Nat.zero_le _) (by rw [htl]; omega) H4 hpx
    have hcj : xs.length - 1 ≤ c2 := by omega
    repeat' (first
    | (refine I_WS ?_; first
      | refine W_sliceRHi rfl rfl (asN (xs.length - 1)) hcj rfl ?_
      | refine W_store (cs' := [.rs r 0 2 (xs.length - 1) c2]) rfl rfl hb2 rfl hlim1 rfl rfl rfl ?_
      | (refine I_mov ?_; first
          | refine W_skip rfl ?_
          | refine W_mov (v := .int _ _) rfl rfl rfl ?_
          | refine W_mov (v := .bool _) rfl rfl rfl ?_
          | refine W_mov (v := .slice _ _ _) rfl rfl rfl ?_
          | refine W_mov (v := .agg _) rfl rfl rfl ?_
          | refine W_mov (v := .ptr _ _) rfl rfl rfl ?_
          | refine W_mov (v := .func _ _) rfl rfl rfl ?_
          | refine W_mov (v := .eptr _ _ _ _) rfl rfl rfl ?_
          | refine W_mov (v := .rs _ _ _ _ _) rfl rfl rfl ?_
          | refine W_mov (v := .tuple _) rfl rfl rfl ?_
          | refine W_mov (v := .map _) rfl rfl rfl ?_
          | refine W_mov (v := .str _) rfl rfl rfl ?_
          | refine W_mov (v := .nilptr) rfl rfl rfl ?_)
      | (refine I_bin ?_; first
          | refine W_skip rfl ?_
          | refine W_sub rfl rfl rfl rfl (by first | exact w64 (by omega) | rfl) ?_)
      | (refine I_load ?_; first
          | refine W_skip rfl ?_
          | refine W_load (agg := false) (d := .rs r 0 2 zs.length c2) rfl rfl rfl hb3 hlim1 rfl ?_
          | refine W_load (agg := false) (d := .int _ _) rfl rfl rfl rfl (by first | exact Nat.zero_le _ | omega) rfl ?_
          | refine W_load (agg := false) (d := .bool _) rfl rfl rfl rfl (by first | exact Nat.zero_le _ | omega) rfl ?_
          | refine W_load (agg := false) (d := .slice _ _ _) rfl rfl rfl rfl (by first | exact Nat.zero_le _ | omega) rfl ?_
          | refine W_load (agg := false) (d := .ptr _ _) rfl rfl rfl rfl (by first | exact Nat.zero_le _ | omega) rfl ?_
          | refine W_load (agg := false) (d := .func _ _) rfl rfl rfl rfl (by first | exact Nat.zero_le _ | omega) rfl ?_
          | refine W_load (agg := true) (d := .agg [_, _]) rfl rfl rfl rfl (by first | exact Nat.zero_le _ | omega) rfl ?_)
      | (refine I_call ?_; first
          | refine W_skip rfl ?_
          | (refine W_callRWX rfl rfl rfl hdn ?_ <;> intro r1 st2 hp2))
      | (refine I_extract ?_; first
          | refine W_extract (d := .int _ _) rfl rfl rfl rfl ?_
          | refine W_extract (d := .bool _) rfl rfl rfl rfl ?_
          | refine W_extract (d := .slice _ _ _) rfl rfl rfl rfl ?_
          | refine W_extract (d := .agg _) rfl rfl rfl rfl ?_
          | refine W_extract (d := .ptr _ _) rfl rfl rfl rfl ?_
          | refine W_extract (d := .func _ _) rfl rfl rfl rfl ?_
          | refine W_skip rfl ?_)
      | (refine I_store ?_; first
          | refine W_store (cs' := [_, _]) rfl rfl rfl rfl (by first | exact Nat.zero_le _ | omega) rfl rfl rfl ?_
          | refine W_skip0 rfl ?_)
      | refine W_not rfl rfl rfl ?_
      | refine W_lenS0 rfl rfl rfl ?_
      | refine W_lenM rfl rfl rfl ?_
      | refine W_lenS rfl rfl rfl ?_
      | refine W_lenR rfl rfl rfl ?_
      | refine W_faddr rfl rfl rfl ?_
      | refine W_faddrE rfl rfl rfl ?_
      | refine W_nilCheckM rfl rfl ?_
      | refine W_nilCheckE rfl rfl rfl ?_
      | refine W_nilCheckF rfl rfl rfl ?_
      | refine W_faddrM rfl rfl ?_
      | refine W_alloc rfl rfl ?_
      | (refine W_sliceLoN rfl rfl (by first | exact .inl rfl | assumption) rfl (by first | omega | (simp; omega)) rfl ?_ <;> intro _)
      | (refine W_sliceHiN rfl rfl (by first | exact .inl rfl | assumption) rfl (by first | omega | (simp; omega)) rfl ?_ <;> intro _)
      | (refine W_sliceLo rfl rfl (by first | exact .inl rfl | assumption) rfl (by first | omega | (simp; omega)) rfl ?_ <;> intro _)
      | (refine W_sliceHi rfl rfl (by first | exact .inl rfl | assumption) rfl (by first | omega | (simp; omega)) rfl ?_ <;> intro _)
      | refine W_skip rfl ?_
      | refine WS_nil ?_)
    | refine WC_seq ?_
    | refine WC_opsS ?_
    | refine WC_skip ?_
    | refine WC_condT rfl ?_
    | refine WC_condF rfl ?_
    | refine WC_ret ?_)
    obtain ⟨rfl, ys, hH2, hhp, hperm2, hF2⟩ := hp2
    have hn2 : st1.next ≤ st2.next := hF2.next
    have hl4 : st2.lim = st.lim := hF2.lim.trans hl3
    have hcN : st2.boxes st.next = some (.cells [.int .i64 0, .int .i64 0]) := by
      rw [hF2.box st.next (by show st.next < st1.next; omega) (Ne.symm hne) (fun e => by cases e; exact absurd hR.2.1 (Nat.lt_irrefl _)), ← hbN]
      exact upd_ne _ _ (Ne.symm hne)
    have hcN1 : (st2.boxes (st.next + 1)).bind Box.cs = some [.int .i64 (atR xs 0).node, .int .i64 (atR xs 0).at'] := by
      have k1 : st.next + 1 ≠ h := by omega
      have eN1 : st2.boxes (st.next + 1) = st1.boxes (st.next + 1) := (hF2.box (st.next + 1) (by show st.next + 1 < st1.next; omega) k1 (fun e => by cases e; have := hR.2.1; omega)).trans (upd_ne _ _ k1)
      rw [eN1, hbN1]
      rfl
    repeat' (first
    | (refine I_WS ?_; first
      | refine W_store (cs' := [_, _]) rfl rfl hcN rfl (by rw [hl4]; exact hl2) rfl rfl rfl ?_
      | (refine I_mov ?_; first
          | refine W_skip rfl ?_
          | refine W_mov (v := .int _ _) rfl rfl rfl ?_
          | refine W_mov (v := .bool _) rfl rfl rfl ?_
          | refine W_mov (v := .slice _ _ _) rfl rfl rfl ?_
          | refine W_mov (v := .agg _) rfl rfl rfl ?_
          | refine W_mov (v := .ptr _ _) rfl rfl rfl ?_
          | refine W_mov (v := .func _ _) rfl rfl rfl ?_
          | refine W_mov (v := .eptr _ _ _ _) rfl rfl rfl ?_
          | refine W_mov (v := .rs _ _ _ _ _) rfl rfl rfl ?_
          | refine W_mov (v := .tuple _) rfl rfl rfl ?_
          | refine W_mov (v := .map _) rfl rfl rfl ?_
          | refine W_mov (v := .str _) rfl rfl rfl ?_
          | refine W_mov (v := .nilptr) rfl rfl rfl ?_)
      | (refine I_bin ?_; first
          | refine W_skip rfl ?_
          | refine W_sub rfl rfl rfl rfl (by first | exact w64 (by omega) | rfl) ?_)
      | (refine I_load ?_; first
          | refine W_skip rfl ?_
          | refine W_load (agg := true) (d := .agg [_, _]) rfl rfl rfl hcN1 (by rw [hl4]; exact Nat.le_succ_of_le hl2) rfl ?_
          | refine W_load (agg := false) (d := .int _ _) rfl rfl rfl rfl (by first | exact Nat.zero_le _ | omega) rfl ?_
          | refine W_load (agg := false) (d := .bool _) rfl rfl rfl rfl (by first | exact Nat.zero_le _ | omega) rfl ?_
          | refine W_load (agg := false) (d := .slice _ _ _) rfl rfl rfl rfl (by first | exact Nat.zero_le _ | omega) rfl ?_
          | refine W_load (agg := false) (d := .ptr _ _) rfl rfl rfl rfl (by first | exact Nat.zero_le _ | omega) rfl ?_
          | refine W_load (agg := false) (d := .func _ _) rfl rfl rfl rfl (by first | exact Nat.zero_le _ | omega) rfl ?_
          | refine W_load (agg := true) (d := .agg [_, _]) rfl rfl rfl rfl (by first | exact Nat.zero_le _ | omega) rfl ?_)
      | (refine I_call ?_; first
          | refine W_skip rfl ?_)
      | (refine I_extract ?_; first
          | refine W_extract (d := .int _ _) rfl rfl rfl rfl ?_
          | refine W_extract (d := .bool _) rfl rfl rfl rfl ?_
          | refine W_extract (d := .slice _ _ _) rfl rfl rfl rfl ?_
          | refine W_extract (d := .agg _) rfl rfl rfl rfl ?_
          | refine W_extract (d := .ptr _ _) rfl rfl rfl rfl ?_
          | refine W_extract (d := .func _ _) rfl rfl rfl rfl ?_
          | refine W_skip rfl ?_)
      | (refine I_store ?_; first
          | refine W_store (cs' := [_, _]) rfl rfl rfl rfl (by first | exact Nat.zero_le _ | omega) rfl rfl rfl ?_
          | refine W_skip0 rfl ?_)
      | refine W_not rfl rfl rfl ?_
      | refine W_lenS0 rfl rfl rfl ?_
      | refine W_lenM rfl rfl rfl ?_
      | refine W_lenS rfl rfl rfl ?_
      | refine W_lenR rfl rfl rfl ?_
      | refine W_faddr rfl rfl rfl ?_
      | refine W_faddrE rfl rfl rfl ?_
      | refine W_nilCheckM rfl rfl ?_
      | refine W_nilCheckE rfl rfl rfl ?_
      | refine W_nilCheckF rfl rfl rfl ?_
      | refine W_faddrM rfl rfl ?_
      | refine W_alloc rfl rfl ?_
      | (refine W_sliceLoN rfl rfl (by first | exact .inl rfl | assumption) rfl (by first | omega | (simp; omega)) rfl ?_ <;> intro _)
      | (refine W_sliceHiN rfl rfl (by first | exact .inl rfl | assumption) rfl (by first | omega | (simp; omega)) rfl ?_ <;> intro _)
      | (refine W_sliceLo rfl rfl (by first | exact .inl rfl | assumption) rfl (by first | omega | (simp; omega)) rfl ?_ <;> intro _)
      | (refine W_sliceHi rfl rfl (by first | exact .inl rfl | assumption) rfl (by first | omega | (simp; omega)) rfl ?_ <;> intro _)
      | refine W_skip rfl ?_
      | refine WS_nil ?_)
    | refine WC_seq ?_
    | refine WC_opsS ?_
    | refine WC_skip ?_
    | refine WC_condT rfl ?_
    | refine WC_condF rfl ?_
    | refine WC_ret ?_)
    refine ⟨.inr rfl, _, resPop rfl rfl (bxc rfl) (by show st2.lim ≤ _; rw [hl4]; exact hl2), .inr ⟨hl, rfl, ys, ?_, hhp, hperm.trans (List.Perm.cons _ hperm2.symm), ?_⟩⟩
    · refine hH2.of rfl (Nat.le_refl _) (fun q hq hq2 => upd_ne _ _ ?_)
      rcases hq2 with rfl | hq2
      · exact hne
      · cases hq2
        exact Nat.ne_of_lt hR.2.1
    · refine ⟨hl4, hF2.tlim.trans hF1.tlim, hF2.toks.trans hF1.toks, hF2.ntok.trans hF1.ntok, by show st.next ≤ st2.next; omega, fun q hq q1 q2 => ?_, .inl rfl⟩
      have k1 : q ≠ st.next := Nat.ne_of_lt hq
      have k2 : q ≠ st.next + 1 := by omega
      refine (upd_ne _ _ k1).trans ?_
      rw [hF2.box q (by show q < st1.next; omega) q1 q2]
      refine (upd_ne _ _ q1).trans ?_
      rw [hF1.box q (by show q < st.next + 1 + 1; omega) q1 q2]
      exact (upd_ne _ _ k2).trans ((upd_ne _ _ k2).trans (upd_ne _ _ k1))
end Go.Hea
