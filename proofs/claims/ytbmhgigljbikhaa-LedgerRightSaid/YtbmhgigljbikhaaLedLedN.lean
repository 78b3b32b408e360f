/-
  LedgerBounds, as the evaluator runs it.
-/
import Derived.Test.YtbmhgigljbikhaaLedLedB
import Derived.Test.YtbmhgigljbikhaaEvEvX6
set_option linter.unusedVariables false
set_option linter.unusedSimpArgs false
set_option linter.unnecessarySimpa false
namespace Go.Led
open Go.Ev
set_option linter.unusedVariables false
set_option linter.unusedSimpArgs false
/-- An act. -/
structure Ac where
  do' : Int
  c : Co
  k : Int
  n : Int
def Ac.e (a : Ac) : D := .agg [.int .i64 a.do', .int .i64 a.c.id, .int .i64 a.c.fr, .int .i64 a.c.to, .int .i64 a.c.st, .int .i64 a.c.en, .int .i64 a.c.ra, .int .i64 a.k, .int .i64 a.n]
/-- All is booked on this contact alone, and none of it is more than its volume. -/
def PB (c : Co) (l : List Bk) : Prop := Inv l ∧ (∀ b ∈ l, b.id = c.id) ∧ ∀ k, (getB l c.id).at k ≤ c.vol
theorem at_plus (b : Bk) {k : Int} (n j : Int) (hk : 0 ≤ k ∧ k < 3) : (b.plus k n).at j = if j = k ∨ (k = 2 ∧ j ≠ 0 ∧ j ≠ 1) then b.at j + n else b.at j := by
  have hk' : k = 0 ∨ k = 1 ∨ k = 2 := by omega
  rcases hk' with rfl | rfl | rfl <;> simp only [Bk.plus, Bk.at] <;> grind
theorem PB.book {c : Co} {l : List Bk} (h : PB c l) (k n : Int) : PB c (bookM l c k n) := by
  obtain ⟨h1, h2, h3⟩ := h
  refine ⟨h1.book c k n, fun b hb => ?_, fun j => ?_⟩
  · rw [bookM_put h1] at hb
    split at hb
    · rcases (mem_put h1.1).mp hb with ⟨rfl, _⟩ | h4
      · rw [Bk.plus_id, getB_id]
      · exact h2 b h4.1
    · exact h2 b hb
  · rw [get_book h1]
    split
    · rename_i hb
      have hb := hb.2
      have hc := (bookC_B h1 c k n).mp hb
      obtain ⟨_, c2, c3, c4⟩ := hc
      have hg := bkl_ge (h1.getU c.id) c2
      have hv := vol_in c
      have hi := h1.at_in c.id k
      have h3k := h3 k
      have h3j := h3 j
      have hat : (getB l c.id).at k + n ≤ c.vol := by
        unfold roomB at c4
        rw [if_pos c2] at c4
        split at c4 <;> omega
      rw [at_plus _ _ _ c2]
      split
      · rename_i hj
        have : (getB l c.id).at j = (getB l c.id).at k := by
          rcases hj with rfl | ⟨rfl, hj1, hj2⟩
          · rfl
          · unfold Bk.at; simp [hj1, hj2]
        rw [this]
        exact hat
      · exact h3j
    · exact h3 j
theorem PB.rel {c : Co} {l : List Bk} (h : PB c l) (k n : Int) : PB c (relM l c.id k n) := by
  obtain ⟨h1, h2, h3⟩ := h
  refine ⟨h1.rel c.id k n, fun b hb => ?_, fun j => ?_⟩
  · rw [relM_put h1] at hb
    split at hb
    · rcases (mem_put h1.1).mp hb with ⟨rfl, _⟩ | h4
      · rw [Bk.plus_id, getB_id]
      · exact h2 b h4.1
    · exact h2 b hb
  · rw [get_rel h1]
    split
    · rename_i hb
      have hc := (relC_B h1 c.id k n).mp hb.2
      have h3j := h3 j
      rw [at_plus _ _ _ hc.1]
      split <;> omega
    · exact h3 j
theorem PB.len {c : Co} {l : List Bk} (h : PB c l) : l.length ≤ 1 := by
  obtain ⟨h1, h2, _⟩ := h
  match l, h1, h2 with
  | [], _, _ => simp
  | [_], _, _ => simp
  | a :: b :: l, h1, h2 =>
    have := (Srt.cons.mp h1.1).1 b (by simp)
    have e1 := h2 a (by simp)
    have e2 := h2 b (by simp)
    omega
/-- What the law asks of a ledger. -/
def QB (v : Int) (b : Bk) (r0 r1 r2 : Int) : Prop := ((0 ≤ b.u0 ∧ b.u0 ≤ v) ∧ (0 ≤ b.u1 ∧ b.u1 ≤ v) ∧ (0 ≤ b.u2 ∧ b.u2 ≤ v)) ∧ (r0 ≤ v - b.u0 ∧ r1 ≤ v - b.u1 ∧ r2 ≤ v - b.u2) ∧ r0 ≤ r1 ∧ r1 ≤ r2 ∧ r2 = v - b.u2 ∧ (0 ≤ v ∧ v ≤ 4611686014132420609)
theorem stp_or {s n : Int} (hs : 0 ≤ s ∧ s ≤ 4611686018427387904) (hn : 0 ≤ n ∧ n ≤ 4611686018427387904) : (stp s n = s + n ∧ s + n ≤ 4611686018427387904) ∨ (stp s n = 4611686018427387904 ∧ 4611686018427387904 < s + n) := by
  unfold stp
  split <;> omega
theorem roomB_or (b : Bk) (c : Co) {k : Int} (hk : 0 ≤ k ∧ k < 3) : (roomB b c k = 0 ∧ c.vol < bkl b k) ∨ (roomB b c k = c.vol - bkl b k ∧ bkl b k ≤ c.vol) := by
  unfold roomB
  rw [if_pos hk]
  split <;> omega
theorem PB.qb {c : Co} {l : List Bk} (h : PB c l) : QB c.vol (row l c.id) (roomM l c 0) (roomM l c 1) (roomM l c 2) := by
  obtain ⟨h1, _, h3⟩ := h
  have k0 : (getB l c.id).u0 ≤ c.vol := h3 0
  have k1 : (getB l c.id).u1 ≤ c.vol := h3 1
  have k2 : (getB l c.id).u2 ≤ c.vol := h3 2
  have hv := vol_in c
  have hU := h1.getU c.id
  rw [roomM_B h1, roomM_B h1, roomM_B h1, row_get h1.1]
  unfold QB
  generalize getB l c.id = b at *
  have m0 := roomB_or b c (k := 0) (by decide)
  have m1 := roomB_or b c (k := 1) (by decide)
  have m2 := roomB_or b c (k := 2) (by decide)
  have w : ∀ {n : Int}, 0 ≤ n ∧ n ≤ 4611686018427387904 → stp 0 n = n := fun h => by unfold stp; split <;> omega
  unfold Bk.U at hU
  have b0 : bkl b 0 = stp (stp b.u0 b.u1) b.u2 := by show stp (stp (stp 0 b.u0) b.u1) b.u2 = _; rw [w hU.1]
  have b1 : bkl b 1 = stp b.u1 b.u2 := by show stp (stp 0 b.u1) b.u2 = _; rw [w hU.2.1]
  have b2 : bkl b 2 = b.u2 := by show stp 0 b.u2 = _; rw [w hU.2.2]
  have z2 := stp_or hU.1 hU.2.1
  have z2' : 0 ≤ stp b.u0 b.u1 ∧ stp b.u0 b.u1 ≤ 4611686018427387904 := by omega
  have z3 := stp_or z2' hU.2.2
  have y2 := stp_or hU.2.1 hU.2.2
  rw [← b0] at z3
  rw [← b1] at y2
  rw [b2] at m2
  clear b0 b1 b2 h3
  generalize roomB b c 0 = r0 at *
  generalize roomB b c 1 = r1 at *
  generalize roomB b c 2 = r2 at *
  generalize bkl b 0 = s0 at *
  generalize bkl b 1 = s1 at *
  generalize stp b.u0 b.u1 = t0 at *
  refine ⟨⟨⟨by omega, by omega⟩, ⟨by omega, by omega⟩, ⟨by omega, by omega⟩⟩, ⟨?_, ?_, ?_⟩, ?_, ?_, by omega, hv⟩ <;> omega
/-- What an act makes of a ledger. -/
def actM (c : Co) (l : List Bk) (a : Ac) : List Bk := if a.do' = 1 then bookM l c a.k a.n else relM l c.id a.k a.n
theorem PB.act {c : Co} {l : List Bk} (h : PB c l) (a : Ac) : PB c (actM c l a) := by
  unfold actM
  split
  · exact h.book _ _
  · exact h.rel _ _
def t_feluccalaw09_LedgerBounds_s0 : C := (.seq (.block 3 (.seq (.draw [[], [0], [1, 0], [2, 1, 0], [3, 2, 1, 0], [4, 3, 2, 1, 0], [5, 4, 3, 2, 1, 0], [6, 5, 4, 3, 2, 1, 0], [4, 3, 2, 1, 0], [7, 6, 5, 4, 3, 2, 1, 0, 8], [4, 3, 2, 1, 0, 9, 7, 6, 5, 8], [10, 4, 3, 2, 1, 0, 9, 7, 6, 5, 8], [11, 10, 4, 3, 2, 1, 0, 9, 7, 6, 5, 8], [11, 10, 4, 3, 2, 1, 0, 9, 7, 6, 5, 8], [11, 10, 4, 3, 2, 1, 0, 9, 7, 6, 5, 8], [12, 11, 10, 4, 3, 2, 1, 0, 9, 7, 6, 5, 8, 13, 14], [11, 10, 4, 3, 2, 1, 0, 9, 7, 6, 5, 8], [11, 10, 4, 3, 2, 1, 0, 9, 7, 6, 5, 8], [17, 11, 10, 4, 3, 2, 1, 0, 9, 7, 6, 5, 8], [18, 17, 11, 10, 4, 3, 2, 1, 0, 9, 7, 6, 5, 8], [16, 11, 10, 4, 3, 2, 1, 0, 9, 7, 6, 5, 8, 19, 18, 17], [15, 12, 11, 10, 4, 3, 2, 1, 0, 9, 7, 6, 5, 8, 13, 14, 20, 16, 19, 18, 17], [11, 10, 4, 3, 2, 1, 0, 9, 7, 6, 5, 8, 21, 15, 12, 13, 14, 20, 16, 19, 18, 17]] [⟨(.some 80), .none, .false, (.mov (.tmp 12))⟩, ⟨(.some 81), .none, .false, (.iaddrA 3 1 (.tmp 10) (.tmp 80))⟩, ⟨(.some 82), .none, .false, (.load .false 1 (.tmp 81))⟩, ⟨(.some 83), .none, .false, (.bin .lss (.tmp 82) (.lit (.int .i64 0)))⟩, ⟨(.some 84), .none, .false, (.mov (.tmp 83))⟩, ⟨(.some 85), (.some (84, .false)), .false, (.mov (.tmp 12))⟩, ⟨(.some 86), (.some (84, .false)), .false, (.iaddrA 3 1 (.tmp 10) (.tmp 85))⟩, ⟨(.some 87), (.some (84, .false)), .false, (.load .false 1 (.tmp 86))⟩, ⟨(.some 88), (.some (84, .false)), .false, (.mov (.tmp 11))⟩, ⟨(.some 89), (.some (84, .false)), .false, (.bin .gtr (.tmp 87) (.tmp 88))⟩, ⟨(.some 90), .none, .false, (.pick (.tmp 84) (.lit (.bool .true)) (.tmp 89))⟩, ⟨(.some 91), .none, .false, (.mov (.tmp 90))⟩, ⟨(.some 92), (.some (91, .false)), .false, (.mov (.tmp 6))⟩, ⟨(.some 93), (.some (91, .false)), .false, (.load .true 6 (.tmp 2))⟩, ⟨(.some 94), (.some (91, .false)), .false, (.mov (.tmp 12))⟩, ⟨(.some 95), (.some (91, .false)), .false, (.call (.lit (.func 40 [])) [(.tmp 92), (.tmp 93), (.tmp 94)])⟩, ⟨(.some 96), (.some (91, .false)), .false, (.mov (.tmp 11))⟩, ⟨(.some 97), (.some (91, .false)), .false, (.mov (.tmp 12))⟩, ⟨(.some 98), (.some (91, .false)), .false, (.iaddrA 3 1 (.tmp 10) (.tmp 97))⟩, ⟨(.some 99), (.some (91, .false)), .false, (.load .false 1 (.tmp 98))⟩, ⟨(.some 100), (.some (91, .false)), .false, (.bin .sub (.tmp 96) (.tmp 99))⟩, ⟨(.some 101), (.some (91, .false)), .false, (.bin .gtr (.tmp 95) (.tmp 100))⟩, ⟨(.some 102), .none, .false, (.pick (.tmp 91) (.lit (.bool .true)) (.tmp 101))⟩]) (.cond (.tmp 102) (.seq (.ops .false [⟨(.some 4), .none, .false, (.mov (.lit (.bool .false)))⟩]) .ret) .skip))) (.ops .false [⟨(.some 78), .none, .false, (.mov (.tmp 12))⟩, ⟨(.some 79), .none, .false, (.bin .add (.tmp 78) (.lit (.int .i64 1)))⟩, ⟨(.some 12), .none, .false, (.mov (.tmp 79))⟩]))
def t_feluccalaw09_LedgerBounds_s1 : C := (.seq (.draw [[], [], [0, 1], [], [], [3, 4, 2, 0, 1], [2, 0, 1, 5, 3, 4], [6, 2, 0, 1, 5, 3, 4], [7, 6, 2, 0, 1, 5, 3, 4], [7, 6, 2, 0, 1, 5, 3, 4], [8, 7, 6, 2, 0, 1, 5, 3, 4, 9], [7, 6, 2, 0, 1, 5, 3, 4], [7, 6, 2, 0, 1, 5, 3, 4], [11, 7, 6, 2, 0, 1, 5, 3, 4, 12, 10, 8, 9], [10, 8, 7, 6, 2, 0, 1, 5, 3, 4, 9, 13, 11, 12], [7, 6, 2, 0, 1, 5, 3, 4, 14, 10, 8, 9, 13, 11, 12], [15, 7, 6, 2, 0, 1, 5, 3, 4, 14, 10, 8, 9, 13, 11, 12], [16, 15, 7, 6, 2, 0, 1, 5, 3, 4, 14, 10, 8, 9, 13, 11, 12], [16, 15, 7, 6, 2, 0, 1, 5, 3, 4, 14, 10, 8, 9, 13, 11, 12], [17, 16, 15, 7, 6, 2, 0, 1, 5, 3, 4, 14, 10, 8, 9, 13, 11, 12, 18], [16, 15, 7, 6, 2, 0, 1, 5, 3, 4, 14, 10, 8, 9, 13, 11, 12], [16, 15, 7, 6, 2, 0, 1, 5, 3, 4, 14, 10, 8, 9, 13, 11, 12], [21, 16, 15, 7, 6, 2, 0, 1, 5, 3, 4, 14, 10, 8, 9, 13, 11, 12], [20, 16, 15, 7, 6, 2, 0, 1, 5, 3, 4, 14, 10, 8, 9, 13, 11, 12, 22, 21], [19, 17, 16, 15, 7, 6, 2, 0, 1, 5, 3, 4, 14, 10, 8, 9, 13, 11, 12, 18, 23, 20, 22, 21], [16, 15, 7, 6, 2, 0, 1, 5, 3, 4, 14, 10, 8, 9, 13, 11, 12, 24, 19, 17, 18, 23, 20, 22, 21]] [⟨(.some 103), .none, .false, (.mov (.tmp 6))⟩, ⟨(.some 104), .none, .false, (.load .true 6 (.tmp 2))⟩, ⟨(.some 105), .none, .false, (.call (.lit (.func 40 [])) [(.tmp 103), (.tmp 104), (.lit (.int .i64 0))])⟩, ⟨(.some 106), .none, .false, (.mov (.tmp 6))⟩, ⟨(.some 107), .none, .false, (.load .true 6 (.tmp 2))⟩, ⟨(.some 108), .none, .false, (.call (.lit (.func 40 [])) [(.tmp 106), (.tmp 107), (.lit (.int .i64 1))])⟩, ⟨(.some 109), .none, .false, (.bin .gtr (.tmp 105) (.tmp 108))⟩, ⟨(.some 110), .none, .false, (.mov (.tmp 109))⟩, ⟨(.some 111), (.some (110, .false)), .false, (.mov (.tmp 6))⟩, ⟨(.some 112), (.some (110, .false)), .false, (.load .true 6 (.tmp 2))⟩, ⟨(.some 113), (.some (110, .false)), .false, (.call (.lit (.func 40 [])) [(.tmp 111), (.tmp 112), (.lit (.int .i64 1))])⟩, ⟨(.some 114), (.some (110, .false)), .false, (.mov (.tmp 6))⟩, ⟨(.some 115), (.some (110, .false)), .false, (.load .true 6 (.tmp 2))⟩, ⟨(.some 116), (.some (110, .false)), .false, (.call (.lit (.func 40 [])) [(.tmp 114), (.tmp 115), (.lit (.int .i64 2))])⟩, ⟨(.some 117), (.some (110, .false)), .false, (.bin .gtr (.tmp 113) (.tmp 116))⟩, ⟨(.some 118), .none, .false, (.pick (.tmp 110) (.lit (.bool .true)) (.tmp 117))⟩, ⟨(.some 119), .none, .false, (.mov (.tmp 118))⟩, ⟨(.some 120), (.some (119, .false)), .false, (.mov (.tmp 6))⟩, ⟨(.some 121), (.some (119, .false)), .false, (.load .true 6 (.tmp 2))⟩, ⟨(.some 122), (.some (119, .false)), .false, (.call (.lit (.func 40 [])) [(.tmp 120), (.tmp 121), (.lit (.int .i64 2))])⟩, ⟨(.some 123), (.some (119, .false)), .false, (.mov (.tmp 11))⟩, ⟨(.some 124), (.some (119, .false)), .false, (.iaddrA 3 1 (.tmp 10) (.lit (.int .i64 2)))⟩, ⟨(.some 125), (.some (119, .false)), .false, (.load .false 1 (.tmp 124))⟩, ⟨(.some 126), (.some (119, .false)), .false, (.bin .sub (.tmp 123) (.tmp 125))⟩, ⟨(.some 127), (.some (119, .false)), .false, (.bin .neq (.tmp 122) (.tmp 126))⟩, ⟨(.some 128), .none, .false, (.pick (.tmp 119) (.lit (.bool .true)) (.tmp 127))⟩]) (.cond (.tmp 128) (.seq (.ops .false [⟨(.some 4), .none, .false, (.mov (.lit (.bool .false)))⟩]) .ret) .skip))
def t_feluccalaw09_LedgerBounds_s2 : C := (.seq (.ops .false [⟨(.some 70), .none, .false, (.mov (.tmp 6))⟩, ⟨(.some 71), .none, .false, (.faddr 0 (.tmp 2))⟩, ⟨(.some 72), .none, .false, (.load .false 1 (.tmp 71))⟩, ⟨(.some 73), .none, .false, (.call (.lit (.func 36 [])) [(.tmp 70), (.tmp 72)])⟩, ⟨(.some 10), .none, .false, (.alloc [(.int .i64 0), (.int .i64 0), (.int .i64 0)])⟩, ⟨.none, .none, .false, (.store 3 (.tmp 10) (.tmp 73))⟩]) (.seq (.ops .false [⟨(.some 74), .none, .false, (.load .true 6 (.tmp 2))⟩, ⟨(.some 75), .none, .false, (.call (.lit (.func 43 [])) [(.tmp 74)])⟩, ⟨(.some 11), .none, .false, (.mov (.tmp 75))⟩]) (.seq (.seq (.ops .false [⟨(.some 12), .none, .false, (.mov (.lit (.int .i64 0)))⟩]) (.block 2 (.loop (.seq (.seq (.ops .false [⟨(.some 76), .none, .false, (.mov (.tmp 12))⟩, ⟨(.some 77), .none, .false, (.bin .lss (.tmp 76) (.lit (.int .i64 3)))⟩]) (.cond (.tmp 77) .skip (.exit 2))) t_feluccalaw09_LedgerBounds_s0)))) t_feluccalaw09_LedgerBounds_s1)))
def t_feluccalaw09_LedgerBounds_s3 : C := (.seq (.seq (.ops .false [⟨(.some 68), .none, .false, (.mov (.tmp 9))⟩]) (.cond (.tmp 68) (.ops .false [⟨(.some 69), .none, .false, (.mov (.tmp 8))⟩, ⟨(.some 6), .none, .false, (.mov (.tmp 69))⟩]) .skip)) t_feluccalaw09_LedgerBounds_s2)
def t_feluccalaw09_LedgerBounds_s4 : C := (.seq (.seq (.ops .false [⟨(.some 45), .none, .false, (.mov (.tmp 1))⟩, ⟨(.some 46), .none, .false, (.mov (.tmp 7))⟩, ⟨(.some 47), .none, .false, (.iaddrS 9 (.tmp 45) (.tmp 46))⟩, ⟨(.some 48), .none, .false, (.faddr 0 (.tmp 47))⟩, ⟨(.some 49), .none, .false, (.load .false 1 (.tmp 48))⟩, ⟨(.some 50), .none, .false, (.bin .neq (.tmp 49) (.lit (.int .i64 1)))⟩]) (.cond (.tmp 50) (.draw [[], [], [1], [], [], [3, 4], [5, 3, 4], [6, 5, 3, 4], [], [], [8, 9], [10, 8, 9], [11, 10, 8, 9], [0, 2, 1, 7, 6, 5, 3, 4, 12, 11, 10, 8, 9], [13, 0, 2, 1, 7, 6, 5, 3, 4, 12, 11, 10, 8, 9], [14, 13, 0, 2, 1, 7, 6, 5, 3, 4, 12, 11, 10, 8, 9], [14, 13, 0, 2, 1, 7, 6, 5, 3, 4, 12, 11, 10, 8, 9], [15, 14, 13, 0, 2, 1, 7, 6, 5, 3, 4, 12, 11, 10, 8, 9], [16, 14, 13, 0, 2, 1, 7, 6, 5, 3, 4, 12, 11, 10, 8, 9, 17, 15]] [⟨(.some 52), .none, .false, (.mov (.tmp 6))⟩, ⟨(.some 53), .none, .false, (.faddr 0 (.tmp 2))⟩, ⟨(.some 54), .none, .false, (.load .false 1 (.tmp 53))⟩, ⟨(.some 55), .none, .false, (.mov (.tmp 1))⟩, ⟨(.some 56), .none, .false, (.mov (.tmp 7))⟩, ⟨(.some 57), .none, .false, (.iaddrS 9 (.tmp 55) (.tmp 56))⟩, ⟨(.some 58), .none, .false, (.faddr 7 (.tmp 57))⟩, ⟨(.some 59), .none, .false, (.load .false 1 (.tmp 58))⟩, ⟨(.some 60), .none, .false, (.mov (.tmp 1))⟩, ⟨(.some 61), .none, .false, (.mov (.tmp 7))⟩, ⟨(.some 62), .none, .false, (.iaddrS 9 (.tmp 60) (.tmp 61))⟩, ⟨(.some 63), .none, .false, (.faddr 8 (.tmp 62))⟩, ⟨(.some 64), .none, .false, (.load .false 1 (.tmp 63))⟩, ⟨(.some 65), .none, .false, (.call (.lit (.func 30 [])) [(.tmp 52), (.tmp 54), (.tmp 59), (.tmp 64)])⟩, ⟨(.some 51), .none, .false, (.mov (.tmp 65))⟩, ⟨(.some 66), .none, .false, (.extract (.tmp 51) 0)⟩, ⟨(.some 67), .none, .false, (.extract (.tmp 51) 1)⟩, ⟨(.some 8), .none, .false, (.mov (.tmp 66))⟩, ⟨(.some 9), .none, .false, (.mov (.tmp 67))⟩]) .skip)) t_feluccalaw09_LedgerBounds_s3)
def t_feluccalaw09_LedgerBounds_s5 : C := (.seq (.block 1 (.seq (.draw [[], [], [], [], [2, 3], [4, 2, 3], [5, 4, 2, 3], [], [], [7, 8], [9, 7, 8], [10, 9, 7, 8], [0, 1, 6, 5, 4, 2, 3, 11, 10, 9, 7, 8], [12, 0, 1, 6, 5, 4, 2, 3, 11, 10, 9, 7, 8], [13, 12, 0, 1, 6, 5, 4, 2, 3, 11, 10, 9, 7, 8], [13, 12, 0, 1, 6, 5, 4, 2, 3, 11, 10, 9, 7, 8], [14, 13, 12, 0, 1, 6, 5, 4, 2, 3, 11, 10, 9, 7, 8], [15, 13, 12, 0, 1, 6, 5, 4, 2, 3, 11, 10, 9, 7, 8, 16, 14]] [⟨(.some 30), .none, .false, (.mov (.tmp 6))⟩, ⟨(.some 31), .none, .false, (.load .true 6 (.tmp 2))⟩, ⟨(.some 32), .none, .false, (.mov (.tmp 1))⟩, ⟨(.some 33), .none, .false, (.mov (.tmp 7))⟩, ⟨(.some 34), .none, .false, (.iaddrS 9 (.tmp 32) (.tmp 33))⟩, ⟨(.some 35), .none, .false, (.faddr 7 (.tmp 34))⟩, ⟨(.some 36), .none, .false, (.load .false 1 (.tmp 35))⟩, ⟨(.some 37), .none, .false, (.mov (.tmp 1))⟩, ⟨(.some 38), .none, .false, (.mov (.tmp 7))⟩, ⟨(.some 39), .none, .false, (.iaddrS 9 (.tmp 37) (.tmp 38))⟩, ⟨(.some 40), .none, .false, (.faddr 8 (.tmp 39))⟩, ⟨(.some 41), .none, .false, (.load .false 1 (.tmp 40))⟩, ⟨(.some 42), .none, .false, (.call (.lit (.func 32 [])) [(.tmp 30), (.tmp 31), (.tmp 36), (.tmp 41)])⟩, ⟨(.some 29), .none, .false, (.mov (.tmp 42))⟩, ⟨(.some 43), .none, .false, (.extract (.tmp 29) 0)⟩, ⟨(.some 44), .none, .false, (.extract (.tmp 29) 1)⟩, ⟨(.some 8), .none, .false, (.mov (.tmp 43))⟩, ⟨(.some 9), .none, .false, (.mov (.tmp 44))⟩]) t_feluccalaw09_LedgerBounds_s4)) (.ops .false [⟨(.some 27), .none, .false, (.mov (.tmp 7))⟩, ⟨(.some 28), .none, .false, (.bin .add (.tmp 27) (.lit (.int .i64 1)))⟩, ⟨(.some 7), .none, .false, (.mov (.tmp 28))⟩]))
def t_feluccalaw09_LedgerBounds_s6 : C := (.seq (.ops .false [⟨(.some 129), .none, .false, (.mov (.tmp 5))⟩, ⟨(.some 130), .none, .false, (.mov (.tmp 129))⟩, ⟨(.some 131), (.some (130, .true)), .false, (.mov (.tmp 6))⟩, ⟨(.some 132), (.some (130, .true)), .false, (.lenS (.tmp 131))⟩, ⟨(.some 133), (.some (130, .true)), .false, (.bin .leq (.tmp 132) (.lit (.int .i64 1)))⟩, ⟨(.some 134), .none, .false, (.pick (.tmp 130) (.tmp 133) (.lit (.bool .false)))⟩, ⟨(.some 4), .none, .false, (.mov (.tmp 134))⟩]) .ret)
def t_feluccalaw09_LedgerBounds_s7 : C := (.seq (.ops .false [⟨(.some 6), .none, .false, (.mov (.lit (.slice .isnil 0 [])))⟩]) (.seq (.seq (.ops .false [⟨(.some 7), .none, .false, (.mov (.lit (.int .i64 0)))⟩]) (.block 0 (.loop (.seq (.seq (.ops .false [⟨(.some 23), .none, .false, (.mov (.tmp 7))⟩, ⟨(.some 24), .none, .false, (.mov (.tmp 1))⟩, ⟨(.some 25), .none, .false, (.lenS (.tmp 24))⟩, ⟨(.some 26), .none, .false, (.bin .lss (.tmp 23) (.tmp 25))⟩]) (.cond (.tmp 26) .skip (.exit 0))) t_feluccalaw09_LedgerBounds_s5)))) t_feluccalaw09_LedgerBounds_s6))
set_option maxHeartbeats 4000000 in
theorem l_in (c : Co) (la : List Bk) (v : Int) (rm : Int → Int) (hR : ∀ (k : Int) (t : Tok) (sz : Nat), (sz = 4 ∨ la = []) → EvP Γ 40 [.slice t sz (la.map Bk.e), .agg [.int .i64 c.id, .int .i64 c.fr, .int .i64 c.to, .int .i64 c.st, .int .i64 c.en, .int .i64 c.ra], .int .i64 k] (.int .i64 (rm k)))
    (u0 u1 u2 : Int) (q0 : 0 ≤ u0 ∧ u0 ≤ v) (q1 : 0 ≤ u1 ∧ u1 ≤ v) (q2 : 0 ≤ u2 ∧ u2 ≤ v) (r0 : rm 0 ≤ v - u0) (r1 : rm 1 ≤ v - u1) (r2 : rm 2 ≤ v - u2) (hv : v ≤ 4611686014132420609)
    (ρ : Nat → D) (st : Store) (p : Nat) (t t' : Tok) (s' : Nat) (hs : s' = 4 ∨ la = []) (acts : D) (n7 : Int) (hlim : st.lim ≤ 0) (hb0 : (st.boxes 0).bind Box.cs = some [.int .i64 c.id, .int .i64 c.fr, .int .i64 c.to, .int .i64 c.st, .int .i64 c.en, .int .i64 c.ra]) (hbp : (st.boxes p).bind Box.cs = some [.int .i64 u0, .int .i64 u1, .int .i64 u2])
    (h1 : ρ 1 = acts) (h2 : ρ 2 = .ptr 0 0) (h5 : ρ 5 = .bool true) (h6 : ρ 6 = .slice t' s' (la.map Bk.e)) (h7 : ρ 7 = .int .i64 n7) (h10 : ρ 10 = .ptr p 0) (h11 : ρ 11 = .int .i64 v) (h12 : ρ 12 = .int .i64 0) (Q : X → (Nat → D) → Store → Prop)
    (hQ : ∀ ρ', ρ' 1 = acts → ρ' 2 = .ptr 0 0 → ρ' 5 = .bool true → ρ' 6 = .slice t' s' (la.map Bk.e) → ρ' 7 = .int .i64 n7 → ρ' 10 = .ptr p 0 → ρ' 11 = .int .i64 v → Q (.exit 2) ρ' st) : WC Γ (.loop c_feluccalaw09_LedgerBounds_l0) ρ st Q := by
  rw [← upd_self h1, ← upd_self h2, ← upd_self h5, ← upd_self h6, ← upd_self h7, ← upd_self h10, ← upd_self h11, ← upd_self h12]
  refine WC_loop ?_
  repeat' (first
    | (refine I_WS ?_; first
      | refine W_add (s := 1) rfl rfl rfl rfl rfl ?_
      | refine W_add (s := 2) rfl rfl rfl rfl rfl ?_
      | refine W_add (s := 3) rfl rfl rfl rfl rfl ?_
      | (refine I_mov ?_; first
          | refine W_skip rfl ?_
          | refine W_mov (v := .int _ _) rfl rfl rfl ?_
          | refine W_mov (v := .bool _) rfl rfl rfl ?_
          | refine W_mov (v := .slice _ _ _) rfl rfl rfl ?_
          | refine W_mov (v := .agg _) rfl rfl rfl ?_
          | refine W_mov (v := .ptr _ _) rfl rfl rfl ?_
          | refine W_mov (v := .func _ _) rfl rfl rfl ?_
          | refine W_mov (v := .eptr _ _ _ _) rfl rfl rfl ?_
          | refine W_mov (v := .rs _ _ _ _ _) rfl rfl rfl ?_
          | refine W_mov (v := .tuple _) rfl rfl rfl ?_
          | refine W_mov (v := .map _) rfl rfl rfl ?_
          | refine W_mov (v := .str _) rfl rfl rfl ?_
          | refine W_mov (v := .nilptr) rfl rfl rfl ?_)
      | (refine I_bin ?_; first
          | refine W_skip rfl ?_
          | refine W_lssT rfl rfl rfl rfl (by omega) ?_
          | refine W_lssF rfl rfl rfl rfl (by omega) ?_
          | (refine W_lss rfl rfl rfl rfl ?_ ?_ <;> intro _)
          | refine W_leqT rfl rfl rfl rfl (by omega) ?_
          | refine W_leqF rfl rfl rfl rfl (by omega) ?_
          | (refine W_leq rfl rfl rfl rfl ?_ ?_ <;> intro _)
          | refine W_gtrT rfl rfl rfl rfl (by omega) ?_
          | refine W_gtrF rfl rfl rfl rfl (by omega) ?_
          | (refine W_gtr rfl rfl rfl rfl ?_ ?_ <;> intro _)
          | refine W_neqT rfl rfl rfl rfl (by omega) ?_
          | refine W_neqF rfl rfl rfl rfl (by omega) ?_
          | (refine W_neq rfl rfl rfl rfl ?_ ?_ <;> intro _)
          | refine W_add rfl rfl rfl rfl (by first | exact w64 (by omega) | rfl) ?_
          | refine W_sub rfl rfl rfl rfl (by first | exact w64 (by omega) | rfl) ?_)
      | (refine I_load ?_; first
          | refine W_skip rfl ?_
          | refine W_load (agg := true) (d := .agg [_, _, _, _, _, _]) rfl rfl rfl hb0 hlim rfl ?_
          | refine W_load (agg := false) (d := .int _ _) rfl rfl rfl hb0 hlim rfl ?_
          | refine W_load (agg := false) (d := .int _ _) rfl rfl rfl hbp (Nat.le_trans hlim (Nat.zero_le _)) rfl ?_
          | refine W_load (agg := false) (d := .int _ _) rfl rfl rfl (bxc rfl) (by first | exact Nat.zero_le _ | assumption | exact Nat.le_trans hlim (Nat.zero_le _) | omega) rfl ?_
          | refine W_load (agg := false) (d := .bool _) rfl rfl rfl (bxc rfl) (by first | exact Nat.zero_le _ | assumption | exact Nat.le_trans hlim (Nat.zero_le _) | omega) rfl ?_
          | refine W_load (agg := false) (d := .slice _ _ _) rfl rfl rfl (bxc rfl) (by first | exact Nat.zero_le _ | assumption | exact Nat.le_trans hlim (Nat.zero_le _) | omega) rfl ?_
          | refine W_load (agg := false) (d := .ptr _ _) rfl rfl rfl (bxc rfl) (by first | exact Nat.zero_le _ | assumption | exact Nat.le_trans hlim (Nat.zero_le _) | omega) rfl ?_
          | refine W_load (agg := false) (d := .func _ _) rfl rfl rfl (bxc rfl) (by first | exact Nat.zero_le _ | assumption | exact Nat.le_trans hlim (Nat.zero_le _) | omega) rfl ?_
          | refine W_load (agg := true) (d := .agg [_, _, _]) rfl rfl rfl (bxc rfl) (by first | exact Nat.zero_le _ | assumption | exact Nat.le_trans hlim (Nat.zero_le _) | omega) rfl ?_
          | refine W_load (agg := true) (d := .agg [_, _, _, _, _, _]) rfl rfl rfl (bxc rfl) (by first | exact Nat.zero_le _ | assumption | exact Nat.le_trans hlim (Nat.zero_le _) | omega) rfl ?_
          | refine W_load (agg := false) (d := .int _ _) rfl rfl rfl (bxs (by omega) (bxc rfl)) (by first | exact Nat.zero_le _ | assumption | exact Nat.le_trans hlim (Nat.zero_le _) | omega) rfl ?_
          | refine W_load (agg := false) (d := .bool _) rfl rfl rfl (bxs (by omega) (bxc rfl)) (by first | exact Nat.zero_le _ | assumption | exact Nat.le_trans hlim (Nat.zero_le _) | omega) rfl ?_
          | refine W_load (agg := false) (d := .slice _ _ _) rfl rfl rfl (bxs (by omega) (bxc rfl)) (by first | exact Nat.zero_le _ | assumption | exact Nat.le_trans hlim (Nat.zero_le _) | omega) rfl ?_
          | refine W_load (agg := false) (d := .ptr _ _) rfl rfl rfl (bxs (by omega) (bxc rfl)) (by first | exact Nat.zero_le _ | assumption | exact Nat.le_trans hlim (Nat.zero_le _) | omega) rfl ?_
          | refine W_load (agg := false) (d := .func _ _) rfl rfl rfl (bxs (by omega) (bxc rfl)) (by first | exact Nat.zero_le _ | assumption | exact Nat.le_trans hlim (Nat.zero_le _) | omega) rfl ?_
          | refine W_load (agg := true) (d := .agg [_, _, _]) rfl rfl rfl (bxs (by omega) (bxc rfl)) (by first | exact Nat.zero_le _ | assumption | exact Nat.le_trans hlim (Nat.zero_le _) | omega) rfl ?_
          | refine W_load (agg := true) (d := .agg [_, _, _, _, _, _]) rfl rfl rfl (bxs (by omega) (bxc rfl)) (by first | exact Nat.zero_le _ | assumption | exact Nat.le_trans hlim (Nat.zero_le _) | omega) rfl ?_
          | refine W_load (agg := false) (d := .int _ _) rfl rfl rfl rfl (by first | exact Nat.zero_le _ | omega) rfl ?_
          | refine W_load (agg := false) (d := .bool _) rfl rfl rfl rfl (by first | exact Nat.zero_le _ | omega) rfl ?_
          | refine W_load (agg := false) (d := .slice _ _ _) rfl rfl rfl rfl (by first | exact Nat.zero_le _ | omega) rfl ?_
          | refine W_load (agg := false) (d := .ptr _ _) rfl rfl rfl rfl (by first | exact Nat.zero_le _ | omega) rfl ?_
          | refine W_load (agg := false) (d := .func _ _) rfl rfl rfl rfl (by first | exact Nat.zero_le _ | omega) rfl ?_
          | refine W_load (agg := true) (d := .agg [_, _, _]) rfl rfl rfl rfl (by first | exact Nat.zero_le _ | omega) rfl ?_
          | refine W_load (agg := true) (d := .agg [_, _, _, _, _, _]) rfl rfl rfl rfl (by first | exact Nat.zero_le _ | omega) rfl ?_)
      | (refine I_call ?_; first
          | refine W_skip rfl ?_
          | refine W_call rfl rfl rfl (hR _ _ _ hs) rfl rfl ?_)
      | (refine I_pick ?_; first
          | refine W_pick (v := .int _ _) rfl rfl rfl rfl ?_
          | refine W_pick (v := .bool _) rfl rfl rfl rfl ?_
          | refine W_pick (v := .slice _ _ _) rfl rfl rfl rfl ?_
          | refine W_pick (v := .agg _) rfl rfl rfl rfl ?_
          | refine W_skip rfl ?_)
      | (refine I_extract ?_; first
          | refine W_extract (d := .int _ _) rfl rfl rfl rfl ?_
          | refine W_extract (d := .bool _) rfl rfl rfl rfl ?_
          | refine W_extract (d := .slice _ _ _) rfl rfl rfl rfl ?_
          | refine W_extract (d := .agg _) rfl rfl rfl rfl ?_
          | refine W_extract (d := .ptr _ _) rfl rfl rfl rfl ?_
          | refine W_extract (d := .func _ _) rfl rfl rfl rfl ?_
          | refine W_skip rfl ?_)
      | (refine I_box ?_; first
          | refine W_boxA rfl rfl rfl rfl rfl ?_
          | refine W_box1 (v := .slice _ _ _) rfl rfl rfl rfl rfl ?_
          | refine W_box1 (v := .int _ _) rfl rfl rfl rfl rfl ?_
          | refine W_box1 (v := .bool _) rfl rfl rfl rfl rfl ?_
          | refine W_box1 (v := .ptr _ _) rfl rfl rfl rfl rfl ?_
          | refine W_skip rfl ?_)
      | (refine I_store ?_; first
          | refine W_store (cs' := [_, _, _]) rfl rfl (upd_same _ _ _) rfl (by first | exact Nat.zero_le _ | assumption | exact Nat.le_trans hlim (Nat.zero_le _) | omega) rfl rfl rfl ?_
          | refine W_store (cs' := [_, _, _]) rfl rfl ((upd_ne _ _ (by omega)).trans (upd_same _ _ _)) rfl (by first | exact Nat.zero_le _ | assumption | exact Nat.le_trans hlim (Nat.zero_le _) | omega) rfl rfl rfl ?_
          | refine W_store (cs' := [_, _, _, _, _, _]) rfl rfl (upd_same _ _ _) rfl (by first | exact Nat.zero_le _ | assumption | exact Nat.le_trans hlim (Nat.zero_le _) | omega) rfl rfl rfl ?_
          | refine W_store (cs' := [_, _, _, _, _, _]) rfl rfl ((upd_ne _ _ (by omega)).trans (upd_same _ _ _)) rfl (by first | exact Nat.zero_le _ | assumption | exact Nat.le_trans hlim (Nat.zero_le _) | omega) rfl rfl rfl ?_
          | refine W_store (cs' := [_, _, _]) rfl rfl rfl rfl (by first | exact Nat.zero_le _ | omega) rfl rfl rfl ?_
          | refine W_store (cs' := [_, _, _, _, _, _]) rfl rfl rfl rfl (by first | exact Nat.zero_le _ | omega) rfl rfl rfl ?_
          | refine W_skip0 rfl ?_)
      | refine W_not rfl rfl rfl ?_
      | refine W_lenM rfl rfl rfl ?_
      | refine W_lenS rfl rfl rfl ?_
      | refine W_lenR rfl rfl rfl ?_
      | refine W_faddr rfl rfl rfl ?_
      | refine W_faddrE rfl rfl rfl ?_
      | refine W_alloc rfl rfl ?_
      | refine W_iaddrA rfl rfl rfl rfl (by decide) ?_
      | refine W_iaddrAE rfl rfl rfl rfl (by decide) ?_
      | refine W_skip rfl ?_
      | refine W_iaddr rfl rfl rfl rfl (by first | rfl | exact sz_of (by assumption) (by omega)) (by first | decide | (simp only [List.length_map]; omega)) ?_
      | refine W_iaddrRN rfl rfl rfl rfl rfl (by decide) ?_
      | refine W_iaddrR rfl rfl rfl rfl (by first | decide | omega) ?_
      | (refine W_sliceLoN rfl rfl (by first | exact .inl rfl | assumption) rfl (by first | omega | (simp; omega)) rfl ?_ <;> intro _)
      | (refine W_sliceHiN rfl rfl (by first | exact .inl rfl | assumption) rfl (by first | omega | (simp; omega)) rfl ?_ <;> intro _)
      | (refine W_sliceLo rfl rfl (by first | exact .inl rfl | assumption) rfl (by first | omega | (simp; omega)) rfl ?_ <;> intro _)
      | (refine W_sliceHi rfl rfl (by first | exact .inl rfl | assumption) rfl (by first | omega | (simp; omega)) rfl ?_ <;> intro _)
      | refine W_skip rfl ?_
      | refine WS_nil ?_)
    | refine WC_loop (b := c_feluccalaw09_LedgerBounds_l0) ?_
    | refine WC_seq ?_
    | refine WC_opsS ?_
    | refine WC_drawS ?_
    | refine WC_skip ?_
    | refine WC_condT rfl ?_
    | refine WC_condF rfl ?_
    | refine WC_block ?_
    | refine WC_exit ?_
    | refine WC_ret ?_
    | refine okF_intro rfl ?_)
  exact hQ _ rfl rfl rfl rfl rfl rfl rfl
set_option maxHeartbeats 4000000 in
theorem l_s1 (c : Co) (la : List Bk) (v : Int) (rm : Int → Int) (hR : ∀ (k : Int) (t : Tok) (sz : Nat), (sz = 4 ∨ la = []) → EvP Γ 40 [.slice t sz (la.map Bk.e), .agg [.int .i64 c.id, .int .i64 c.fr, .int .i64 c.to, .int .i64 c.st, .int .i64 c.en, .int .i64 c.ra], .int .i64 k] (.int .i64 (rm k)))
    (u0 u1 u2 : Int) (q2 : 0 ≤ u2 ∧ u2 ≤ v) (r0 : rm 0 ≤ rm 1) (r1 : rm 1 ≤ rm 2) (r2 : rm 2 = v - u2) (hv : v ≤ 4611686014132420609)
    (ρ : Nat → D) (st : Store) (p : Nat) (t t' : Tok) (s' : Nat) (hs : s' = 4 ∨ la = []) (acts : D) (n7 : Int) (hlim : st.lim ≤ 0) (hb0 : (st.boxes 0).bind Box.cs = some [.int .i64 c.id, .int .i64 c.fr, .int .i64 c.to, .int .i64 c.st, .int .i64 c.en, .int .i64 c.ra]) (hbp : (st.boxes p).bind Box.cs = some [.int .i64 u0, .int .i64 u1, .int .i64 u2])
    (h1 : ρ 1 = acts) (h2 : ρ 2 = .ptr 0 0) (h5 : ρ 5 = .bool true) (h6 : ρ 6 = .slice t' s' (la.map Bk.e)) (h7 : ρ 7 = .int .i64 n7) (h10 : ρ 10 = .ptr p 0) (h11 : ρ 11 = .int .i64 v) (Q : X → (Nat → D) → Store → Prop)
    (hQ : ∀ ρ', ρ' 1 = acts → ρ' 2 = .ptr 0 0 → ρ' 5 = .bool true → ρ' 6 = .slice t' s' (la.map Bk.e) → ρ' 7 = .int .i64 n7 → Q .normal ρ' st) : WC Γ t_feluccalaw09_LedgerBounds_s1 ρ st Q := by
  rw [← upd_self h1, ← upd_self h2, ← upd_self h5, ← upd_self h6, ← upd_self h7, ← upd_self h10, ← upd_self h11]
  repeat' (first
    | (refine I_WS ?_; first
      | (refine I_mov ?_; first
          | refine W_skip rfl ?_
          | refine W_mov (v := .int _ _) rfl rfl rfl ?_
          | refine W_mov (v := .bool _) rfl rfl rfl ?_
          | refine W_mov (v := .slice _ _ _) rfl rfl rfl ?_
          | refine W_mov (v := .agg _) rfl rfl rfl ?_
          | refine W_mov (v := .ptr _ _) rfl rfl rfl ?_
          | refine W_mov (v := .func _ _) rfl rfl rfl ?_
          | refine W_mov (v := .eptr _ _ _ _) rfl rfl rfl ?_
          | refine W_mov (v := .rs _ _ _ _ _) rfl rfl rfl ?_
          | refine W_mov (v := .tuple _) rfl rfl rfl ?_
          | refine W_mov (v := .map _) rfl rfl rfl ?_
          | refine W_mov (v := .str _) rfl rfl rfl ?_
          | refine W_mov (v := .nilptr) rfl rfl rfl ?_)
      | (refine I_bin ?_; first
          | refine W_skip rfl ?_
          | refine W_lssT rfl rfl rfl rfl (by omega) ?_
          | refine W_lssF rfl rfl rfl rfl (by omega) ?_
          | (refine W_lss rfl rfl rfl rfl ?_ ?_ <;> intro _)
          | refine W_leqT rfl rfl rfl rfl (by omega) ?_
          | refine W_leqF rfl rfl rfl rfl (by omega) ?_
          | (refine W_leq rfl rfl rfl rfl ?_ ?_ <;> intro _)
          | refine W_gtrT rfl rfl rfl rfl (by omega) ?_
          | refine W_gtrF rfl rfl rfl rfl (by omega) ?_
          | (refine W_gtr rfl rfl rfl rfl ?_ ?_ <;> intro _)
          | refine W_neqT rfl rfl rfl rfl (by omega) ?_
          | refine W_neqF rfl rfl rfl rfl (by omega) ?_
          | (refine W_neq rfl rfl rfl rfl ?_ ?_ <;> intro _)
          | refine W_add rfl rfl rfl rfl (by first | exact w64 (by omega) | rfl) ?_
          | refine W_sub rfl rfl rfl rfl (by first | exact w64 (by omega) | rfl) ?_)
      | (refine I_load ?_; first
          | refine W_skip rfl ?_
          | refine W_load (agg := true) (d := .agg [_, _, _, _, _, _]) rfl rfl rfl hb0 hlim rfl ?_
          | refine W_load (agg := false) (d := .int _ _) rfl rfl rfl hb0 hlim rfl ?_
          | refine W_load (agg := false) (d := .int _ _) rfl rfl rfl hbp (Nat.le_trans hlim (Nat.zero_le _)) rfl ?_
          | refine W_load (agg := false) (d := .int _ _) rfl rfl rfl (bxc rfl) (by first | exact Nat.zero_le _ | assumption | exact Nat.le_trans hlim (Nat.zero_le _) | omega) rfl ?_
          | refine W_load (agg := false) (d := .bool _) rfl rfl rfl (bxc rfl) (by first | exact Nat.zero_le _ | assumption | exact Nat.le_trans hlim (Nat.zero_le _) | omega) rfl ?_
          | refine W_load (agg := false) (d := .slice _ _ _) rfl rfl rfl (bxc rfl) (by first | exact Nat.zero_le _ | assumption | exact Nat.le_trans hlim (Nat.zero_le _) | omega) rfl ?_
          | refine W_load (agg := false) (d := .ptr _ _) rfl rfl rfl (bxc rfl) (by first | exact Nat.zero_le _ | assumption | exact Nat.le_trans hlim (Nat.zero_le _) | omega) rfl ?_
          | refine W_load (agg := false) (d := .func _ _) rfl rfl rfl (bxc rfl) (by first | exact Nat.zero_le _ | assumption | exact Nat.le_trans hlim (Nat.zero_le _) | omega) rfl ?_
          | refine W_load (agg := true) (d := .agg [_, _, _]) rfl rfl rfl (bxc rfl) (by first | exact Nat.zero_le _ | assumption | exact Nat.le_trans hlim (Nat.zero_le _) | omega) rfl ?_
          | refine W_load (agg := true) (d := .agg [_, _, _, _, _, _]) rfl rfl rfl (bxc rfl) (by first | exact Nat.zero_le _ | assumption | exact Nat.le_trans hlim (Nat.zero_le _) | omega) rfl ?_
          | refine W_load (agg := false) (d := .int _ _) rfl rfl rfl (bxs (by omega) (bxc rfl)) (by first | exact Nat.zero_le _ | assumption | exact Nat.le_trans hlim (Nat.zero_le _) | omega) rfl ?_
          | refine W_load (agg := false) (d := .bool _) rfl rfl rfl (bxs (by omega) (bxc rfl)) (by first | exact Nat.zero_le _ | assumption | exact Nat.le_trans hlim (Nat.zero_le _) | omega) rfl ?_
          | refine W_load (agg := false) (d := .slice _ _ _) rfl rfl rfl (bxs (by omega) (bxc rfl)) (by first | exact Nat.zero_le _ | assumption | exact Nat.le_trans hlim (Nat.zero_le _) | omega) rfl ?_
          | refine W_load (agg := false) (d := .ptr _ _) rfl rfl rfl (bxs (by omega) (bxc rfl)) (by first | exact Nat.zero_le _ | assumption | exact Nat.le_trans hlim (Nat.zero_le _) | omega) rfl ?_
          | refine W_load (agg := false) (d := .func _ _) rfl rfl rfl (bxs (by omega) (bxc rfl)) (by first | exact Nat.zero_le _ | assumption | exact Nat.le_trans hlim (Nat.zero_le _) | omega) rfl ?_
          | refine W_load (agg := true) (d := .agg [_, _, _]) rfl rfl rfl (bxs (by omega) (bxc rfl)) (by first | exact Nat.zero_le _ | assumption | exact Nat.le_trans hlim (Nat.zero_le _) | omega) rfl ?_
          | refine W_load (agg := true) (d := .agg [_, _, _, _, _, _]) rfl rfl rfl (bxs (by omega) (bxc rfl)) (by first | exact Nat.zero_le _ | assumption | exact Nat.le_trans hlim (Nat.zero_le _) | omega) rfl ?_
          | refine W_load (agg := false) (d := .int _ _) rfl rfl rfl rfl (by first | exact Nat.zero_le _ | omega) rfl ?_
          | refine W_load (agg := false) (d := .bool _) rfl rfl rfl rfl (by first | exact Nat.zero_le _ | omega) rfl ?_
          | refine W_load (agg := false) (d := .slice _ _ _) rfl rfl rfl rfl (by first | exact Nat.zero_le _ | omega) rfl ?_
          | refine W_load (agg := false) (d := .ptr _ _) rfl rfl rfl rfl (by first | exact Nat.zero_le _ | omega) rfl ?_
          | refine W_load (agg := false) (d := .func _ _) rfl rfl rfl rfl (by first | exact Nat.zero_le _ | omega) rfl ?_
          | refine W_load (agg := true) (d := .agg [_, _, _]) rfl rfl rfl rfl (by first | exact Nat.zero_le _ | omega) rfl ?_
          | refine W_load (agg := true) (d := .agg [_, _, _, _, _, _]) rfl rfl rfl rfl (by first | exact Nat.zero_le _ | omega) rfl ?_)
      | (refine I_call ?_; first
          | refine W_skip rfl ?_
          | refine W_call rfl rfl rfl (hR _ _ _ hs) rfl rfl ?_)
      | (refine I_pick ?_; first
          | refine W_pick (v := .int _ _) rfl rfl rfl rfl ?_
          | refine W_pick (v := .bool _) rfl rfl rfl rfl ?_
          | refine W_pick (v := .slice _ _ _) rfl rfl rfl rfl ?_
          | refine W_pick (v := .agg _) rfl rfl rfl rfl ?_
          | refine W_skip rfl ?_)
      | (refine I_extract ?_; first
          | refine W_extract (d := .int _ _) rfl rfl rfl rfl ?_
          | refine W_extract (d := .bool _) rfl rfl rfl rfl ?_
          | refine W_extract (d := .slice _ _ _) rfl rfl rfl rfl ?_
          | refine W_extract (d := .agg _) rfl rfl rfl rfl ?_
          | refine W_extract (d := .ptr _ _) rfl rfl rfl rfl ?_
          | refine W_extract (d := .func _ _) rfl rfl rfl rfl ?_
          | refine W_skip rfl ?_)
      | (refine I_box ?_; first
          | refine W_boxA rfl rfl rfl rfl rfl ?_
          | refine W_box1 (v := .slice _ _ _) rfl rfl rfl rfl rfl ?_
          | refine W_box1 (v := .int _ _) rfl rfl rfl rfl rfl ?_
          | refine W_box1 (v := .bool _) rfl rfl rfl rfl rfl ?_
          | refine W_box1 (v := .ptr _ _) rfl rfl rfl rfl rfl ?_
          | refine W_skip rfl ?_)
      | (refine I_store ?_; first
          | refine W_store (cs' := [_, _, _]) rfl rfl (upd_same _ _ _) rfl (by first | exact Nat.zero_le _ | assumption | exact Nat.le_trans hlim (Nat.zero_le _) | omega) rfl rfl rfl ?_
          | refine W_store (cs' := [_, _, _]) rfl rfl ((upd_ne _ _ (by omega)).trans (upd_same _ _ _)) rfl (by first | exact Nat.zero_le _ | assumption | exact Nat.le_trans hlim (Nat.zero_le _) | omega) rfl rfl rfl ?_
          | refine W_store (cs' := [_, _, _, _, _, _]) rfl rfl (upd_same _ _ _) rfl (by first | exact Nat.zero_le _ | assumption | exact Nat.le_trans hlim (Nat.zero_le _) | omega) rfl rfl rfl ?_
          | refine W_store (cs' := [_, _, _, _, _, _]) rfl rfl ((upd_ne _ _ (by omega)).trans (upd_same _ _ _)) rfl (by first | exact Nat.zero_le _ | assumption | exact Nat.le_trans hlim (Nat.zero_le _) | omega) rfl rfl rfl ?_
          | refine W_store (cs' := [_, _, _]) rfl rfl rfl rfl (by first | exact Nat.zero_le _ | omega) rfl rfl rfl ?_
          | refine W_store (cs' := [_, _, _, _, _, _]) rfl rfl rfl rfl (by first | exact Nat.zero_le _ | omega) rfl rfl rfl ?_
          | refine W_skip0 rfl ?_)
      | refine W_not rfl rfl rfl ?_
      | refine W_lenM rfl rfl rfl ?_
      | refine W_lenS rfl rfl rfl ?_
      | refine W_lenR rfl rfl rfl ?_
      | refine W_faddr rfl rfl rfl ?_
      | refine W_faddrE rfl rfl rfl ?_
      | refine W_alloc rfl rfl ?_
      | refine W_iaddrA rfl rfl rfl rfl (by decide) ?_
      | refine W_iaddrAE rfl rfl rfl rfl (by decide) ?_
      | refine W_skip rfl ?_
      | refine W_iaddr rfl rfl rfl rfl (by first | rfl | exact sz_of (by assumption) (by omega)) (by first | decide | (simp only [List.length_map]; omega)) ?_
      | refine W_iaddrRN rfl rfl rfl rfl rfl (by decide) ?_
      | refine W_iaddrR rfl rfl rfl rfl (by first | decide | omega) ?_
      | (refine W_sliceLoN rfl rfl (by first | exact .inl rfl | assumption) rfl (by first | omega | (simp; omega)) rfl ?_ <;> intro _)
      | (refine W_sliceHiN rfl rfl (by first | exact .inl rfl | assumption) rfl (by first | omega | (simp; omega)) rfl ?_ <;> intro _)
      | (refine W_sliceLo rfl rfl (by first | exact .inl rfl | assumption) rfl (by first | omega | (simp; omega)) rfl ?_ <;> intro _)
      | (refine W_sliceHi rfl rfl (by first | exact .inl rfl | assumption) rfl (by first | omega | (simp; omega)) rfl ?_ <;> intro _)
      | refine W_skip rfl ?_
      | refine WS_nil ?_)
    | refine WC_seq ?_
    | refine WC_opsS ?_
    | refine WC_drawS ?_
    | refine WC_skip ?_
    | refine WC_condT rfl ?_
    | refine WC_condF rfl ?_
    | refine WC_block ?_
    | refine WC_exit ?_
    | refine WC_ret ?_
    | refine okF_intro rfl ?_)
  exact hQ _ rfl rfl rfl rfl rfl
set_option maxHeartbeats 4000000 in
theorem l_s2 (c : Co) (la : List Bk) (v : Int) (rm : Int → Int) (rb : Bk) (hR : ∀ (k : Int) (t : Tok) (sz : Nat), (sz = 4 ∨ la = []) → EvP Γ 40 [.slice t sz (la.map Bk.e), .agg [.int .i64 c.id, .int .i64 c.fr, .int .i64 c.to, .int .i64 c.st, .int .i64 c.en, .int .i64 c.ra], .int .i64 k] (.int .i64 (rm k)))
    (hU : ∀ (t : Tok) (sz : Nat), (sz = 4 ∨ la = []) → EvP Γ 36 [.slice t sz (la.map Bk.e), .int .i64 c.id] (.agg [.int .i64 rb.u0, .int .i64 rb.u1, .int .i64 rb.u2])) (hV : EvP Γ 43 [.agg [.int .i64 c.id, .int .i64 c.fr, .int .i64 c.to, .int .i64 c.st, .int .i64 c.en, .int .i64 c.ra]] (.int .i64 v))
    (hq : QB v rb (rm 0) (rm 1) (rm 2))
    (ρ : Nat → D) (st : Store) (t t' : Tok) (s' : Nat) (hs : s' = 4 ∨ la = []) (acts : D) (n7 : Int) (hlim : st.lim ≤ 0) (hnx : 1 ≤ st.next) (hb0 : (st.boxes 0).bind Box.cs = some [.int .i64 c.id, .int .i64 c.fr, .int .i64 c.to, .int .i64 c.st, .int .i64 c.en, .int .i64 c.ra])
    (h1 : ρ 1 = acts) (h2 : ρ 2 = .ptr 0 0) (h5 : ρ 5 = .bool true) (h6 : ρ 6 = .slice t' s' (la.map Bk.e)) (h7 : ρ 7 = .int .i64 n7) (Q : X → (Nat → D) → Store → Prop)
    (hQ : ∀ ρ' st', st'.lim ≤ 0 → 1 ≤ st'.next → (st'.boxes 0).bind Box.cs = some [.int .i64 c.id, .int .i64 c.fr, .int .i64 c.to, .int .i64 c.st, .int .i64 c.en, .int .i64 c.ra] → ρ' 1 = acts → ρ' 2 = .ptr 0 0 → ρ' 5 = .bool true → ρ' 6 = .slice t' s' (la.map Bk.e) → ρ' 7 = .int .i64 n7 → Q .normal ρ' st') : WC Γ t_feluccalaw09_LedgerBounds_s2 ρ st Q := by
  rw [← upd_self h1, ← upd_self h2, ← upd_self h5, ← upd_self h6, ← upd_self h7]
  obtain ⟨⟨q0, q1, q2⟩, ⟨r0, r1, r2⟩, m0, m1, m2, hv0, hv⟩ := hq
  repeat' (first
    | (refine I_WS ?_; first
      | (refine I_mov ?_; first
          | refine W_skip rfl ?_
          | refine W_mov (v := .int _ _) rfl rfl rfl ?_
          | refine W_mov (v := .bool _) rfl rfl rfl ?_
          | refine W_mov (v := .slice _ _ _) rfl rfl rfl ?_
          | refine W_mov (v := .agg _) rfl rfl rfl ?_
          | refine W_mov (v := .ptr _ _) rfl rfl rfl ?_
          | refine W_mov (v := .func _ _) rfl rfl rfl ?_
          | refine W_mov (v := .eptr _ _ _ _) rfl rfl rfl ?_
          | refine W_mov (v := .rs _ _ _ _ _) rfl rfl rfl ?_
          | refine W_mov (v := .tuple _) rfl rfl rfl ?_
          | refine W_mov (v := .map _) rfl rfl rfl ?_
          | refine W_mov (v := .str _) rfl rfl rfl ?_
          | refine W_mov (v := .nilptr) rfl rfl rfl ?_)
      | (refine I_bin ?_; first
          | refine W_skip rfl ?_
          | refine W_lssT rfl rfl rfl rfl (by omega) ?_
          | refine W_lssF rfl rfl rfl rfl (by omega) ?_
          | (refine W_lss rfl rfl rfl rfl ?_ ?_ <;> intro _)
          | refine W_leqT rfl rfl rfl rfl (by omega) ?_
          | refine W_leqF rfl rfl rfl rfl (by omega) ?_
          | (refine W_leq rfl rfl rfl rfl ?_ ?_ <;> intro _)
          | refine W_gtrT rfl rfl rfl rfl (by omega) ?_
          | refine W_gtrF rfl rfl rfl rfl (by omega) ?_
          | (refine W_gtr rfl rfl rfl rfl ?_ ?_ <;> intro _)
          | refine W_neqT rfl rfl rfl rfl (by omega) ?_
          | refine W_neqF rfl rfl rfl rfl (by omega) ?_
          | (refine W_neq rfl rfl rfl rfl ?_ ?_ <;> intro _)
          | refine W_add rfl rfl rfl rfl (by first | exact w64 (by omega) | rfl) ?_
          | refine W_sub rfl rfl rfl rfl (by first | exact w64 (by omega) | rfl) ?_)
      | (refine I_load ?_; first
          | refine W_skip rfl ?_
          | refine W_load (agg := true) (d := .agg [_, _, _, _, _, _]) rfl rfl rfl hb0 hlim rfl ?_
          | refine W_load (agg := false) (d := .int _ _) rfl rfl rfl hb0 hlim rfl ?_
          | refine W_load (agg := true) (d := .agg [_, _, _, _, _, _]) rfl rfl rfl (bxs (by omega) (bxs (by omega) hb0)) hlim rfl ?_
          | refine W_load (agg := false) (d := .int _ _) rfl rfl rfl (bxs (by omega) (bxs (by omega) hb0)) hlim rfl ?_
          | refine W_load (agg := false) (d := .int _ _) rfl rfl rfl (bxc rfl) (by first | exact Nat.zero_le _ | assumption | exact Nat.le_trans hlim (Nat.zero_le _) | omega) rfl ?_
          | refine W_load (agg := false) (d := .bool _) rfl rfl rfl (bxc rfl) (by first | exact Nat.zero_le _ | assumption | exact Nat.le_trans hlim (Nat.zero_le _) | omega) rfl ?_
          | refine W_load (agg := false) (d := .slice _ _ _) rfl rfl rfl (bxc rfl) (by first | exact Nat.zero_le _ | assumption | exact Nat.le_trans hlim (Nat.zero_le _) | omega) rfl ?_
          | refine W_load (agg := false) (d := .ptr _ _) rfl rfl rfl (bxc rfl) (by first | exact Nat.zero_le _ | assumption | exact Nat.le_trans hlim (Nat.zero_le _) | omega) rfl ?_
          | refine W_load (agg := false) (d := .func _ _) rfl rfl rfl (bxc rfl) (by first | exact Nat.zero_le _ | assumption | exact Nat.le_trans hlim (Nat.zero_le _) | omega) rfl ?_
          | refine W_load (agg := true) (d := .agg [_, _, _]) rfl rfl rfl (bxc rfl) (by first | exact Nat.zero_le _ | assumption | exact Nat.le_trans hlim (Nat.zero_le _) | omega) rfl ?_
          | refine W_load (agg := true) (d := .agg [_, _, _, _, _, _]) rfl rfl rfl (bxc rfl) (by first | exact Nat.zero_le _ | assumption | exact Nat.le_trans hlim (Nat.zero_le _) | omega) rfl ?_
          | refine W_load (agg := false) (d := .int _ _) rfl rfl rfl (bxs (by omega) (bxc rfl)) (by first | exact Nat.zero_le _ | assumption | exact Nat.le_trans hlim (Nat.zero_le _) | omega) rfl ?_
          | refine W_load (agg := false) (d := .bool _) rfl rfl rfl (bxs (by omega) (bxc rfl)) (by first | exact Nat.zero_le _ | assumption | exact Nat.le_trans hlim (Nat.zero_le _) | omega) rfl ?_
          | refine W_load (agg := false) (d := .slice _ _ _) rfl rfl rfl (bxs (by omega) (bxc rfl)) (by first | exact Nat.zero_le _ | assumption | exact Nat.le_trans hlim (Nat.zero_le _) | omega) rfl ?_
          | refine W_load (agg := false) (d := .ptr _ _) rfl rfl rfl (bxs (by omega) (bxc rfl)) (by first | exact Nat.zero_le _ | assumption | exact Nat.le_trans hlim (Nat.zero_le _) | omega) rfl ?_
          | refine W_load (agg := false) (d := .func _ _) rfl rfl rfl (bxs (by omega) (bxc rfl)) (by first | exact Nat.zero_le _ | assumption | exact Nat.le_trans hlim (Nat.zero_le _) | omega) rfl ?_
          | refine W_load (agg := true) (d := .agg [_, _, _]) rfl rfl rfl (bxs (by omega) (bxc rfl)) (by first | exact Nat.zero_le _ | assumption | exact Nat.le_trans hlim (Nat.zero_le _) | omega) rfl ?_
          | refine W_load (agg := true) (d := .agg [_, _, _, _, _, _]) rfl rfl rfl (bxs (by omega) (bxc rfl)) (by first | exact Nat.zero_le _ | assumption | exact Nat.le_trans hlim (Nat.zero_le _) | omega) rfl ?_
          | refine W_load (agg := false) (d := .int _ _) rfl rfl rfl rfl (by first | exact Nat.zero_le _ | omega) rfl ?_
          | refine W_load (agg := false) (d := .bool _) rfl rfl rfl rfl (by first | exact Nat.zero_le _ | omega) rfl ?_
          | refine W_load (agg := false) (d := .slice _ _ _) rfl rfl rfl rfl (by first | exact Nat.zero_le _ | omega) rfl ?_
          | refine W_load (agg := false) (d := .ptr _ _) rfl rfl rfl rfl (by first | exact Nat.zero_le _ | omega) rfl ?_
          | refine W_load (agg := false) (d := .func _ _) rfl rfl rfl rfl (by first | exact Nat.zero_le _ | omega) rfl ?_
          | refine W_load (agg := true) (d := .agg [_, _, _]) rfl rfl rfl rfl (by first | exact Nat.zero_le _ | omega) rfl ?_
          | refine W_load (agg := true) (d := .agg [_, _, _, _, _, _]) rfl rfl rfl rfl (by first | exact Nat.zero_le _ | omega) rfl ?_)
      | (refine I_call ?_; first
          | refine W_skip rfl ?_
          | refine W_call rfl rfl rfl (hU _ _ hs) rfl rfl ?_
          | refine W_call rfl rfl rfl hV rfl rfl ?_)
      | (refine I_pick ?_; first
          | refine W_pick (v := .int _ _) rfl rfl rfl rfl ?_
          | refine W_pick (v := .bool _) rfl rfl rfl rfl ?_
          | refine W_pick (v := .slice _ _ _) rfl rfl rfl rfl ?_
          | refine W_pick (v := .agg _) rfl rfl rfl rfl ?_
          | refine W_skip rfl ?_)
      | (refine I_extract ?_; first
          | refine W_extract (d := .int _ _) rfl rfl rfl rfl ?_
          | refine W_extract (d := .bool _) rfl rfl rfl rfl ?_
          | refine W_extract (d := .slice _ _ _) rfl rfl rfl rfl ?_
          | refine W_extract (d := .agg _) rfl rfl rfl rfl ?_
          | refine W_extract (d := .ptr _ _) rfl rfl rfl rfl ?_
          | refine W_extract (d := .func _ _) rfl rfl rfl rfl ?_
          | refine W_skip rfl ?_)
      | (refine I_box ?_; first
          | refine W_boxA rfl rfl rfl rfl rfl ?_
          | refine W_box1 (v := .slice _ _ _) rfl rfl rfl rfl rfl ?_
          | refine W_box1 (v := .int _ _) rfl rfl rfl rfl rfl ?_
          | refine W_box1 (v := .bool _) rfl rfl rfl rfl rfl ?_
          | refine W_box1 (v := .ptr _ _) rfl rfl rfl rfl rfl ?_
          | refine W_skip rfl ?_)
      | (refine I_store ?_; first
          | refine W_store (cs' := [_, _, _]) rfl rfl (upd_same _ _ _) rfl (by first | exact Nat.zero_le _ | assumption | exact Nat.le_trans hlim (Nat.zero_le _) | omega) rfl rfl rfl ?_
          | refine W_store (cs' := [_, _, _]) rfl rfl ((upd_ne _ _ (by omega)).trans (upd_same _ _ _)) rfl (by first | exact Nat.zero_le _ | assumption | exact Nat.le_trans hlim (Nat.zero_le _) | omega) rfl rfl rfl ?_
          | refine W_store (cs' := [_, _, _, _, _, _]) rfl rfl (upd_same _ _ _) rfl (by first | exact Nat.zero_le _ | assumption | exact Nat.le_trans hlim (Nat.zero_le _) | omega) rfl rfl rfl ?_
          | refine W_store (cs' := [_, _, _, _, _, _]) rfl rfl ((upd_ne _ _ (by omega)).trans (upd_same _ _ _)) rfl (by first | exact Nat.zero_le _ | assumption | exact Nat.le_trans hlim (Nat.zero_le _) | omega) rfl rfl rfl ?_
          | refine W_store (cs' := [_, _, _]) rfl rfl rfl rfl (by first | exact Nat.zero_le _ | omega) rfl rfl rfl ?_
          | refine W_store (cs' := [_, _, _, _, _, _]) rfl rfl rfl rfl (by first | exact Nat.zero_le _ | omega) rfl rfl rfl ?_
          | refine W_skip0 rfl ?_)
      | refine W_not rfl rfl rfl ?_
      | refine W_lenM rfl rfl rfl ?_
      | refine W_lenS rfl rfl rfl ?_
      | refine W_lenR rfl rfl rfl ?_
      | refine W_faddr rfl rfl rfl ?_
      | refine W_faddrE rfl rfl rfl ?_
      | refine W_alloc rfl rfl ?_
      | refine W_iaddrA rfl rfl rfl rfl (by decide) ?_
      | refine W_iaddrAE rfl rfl rfl rfl (by decide) ?_
      | refine W_skip rfl ?_
      | refine W_iaddr rfl rfl rfl rfl (by first | rfl | exact sz_of (by assumption) (by omega)) (by first | decide | (simp only [List.length_map]; omega)) ?_
      | refine W_iaddrRN rfl rfl rfl rfl rfl (by decide) ?_
      | refine W_iaddrR rfl rfl rfl rfl (by first | decide | omega) ?_
      | (refine W_sliceLoN rfl rfl (by first | exact .inl rfl | assumption) rfl (by first | omega | (simp; omega)) rfl ?_ <;> intro _)
      | (refine W_sliceHiN rfl rfl (by first | exact .inl rfl | assumption) rfl (by first | omega | (simp; omega)) rfl ?_ <;> intro _)
      | (refine W_sliceLo rfl rfl (by first | exact .inl rfl | assumption) rfl (by first | omega | (simp; omega)) rfl ?_ <;> intro _)
      | (refine W_sliceHi rfl rfl (by first | exact .inl rfl | assumption) rfl (by first | omega | (simp; omega)) rfl ?_ <;> intro _)
      | refine W_skip rfl ?_
      | refine WS_nil ?_)
    | refine WC_seq ?_
    | refine WC_opsS ?_
    | refine WC_drawS ?_
    | refine WC_skip ?_
    | refine WC_condT rfl ?_
    | refine WC_condF rfl ?_
    | refine WC_block ?_
    | refine WC_exit ?_
    | refine WC_ret ?_
    | refine okF_intro rfl ?_)
  refine l_in c la v rm hR rb.u0 rb.u1 rb.u2 q0 q1 q2 r0 r1 r2 hv _ _ st.next .no t' s' hs acts n7 ?_ ?_ ?_ rfl rfl rfl rfl rfl rfl rfl rfl _ ?_
  · exact hlim
  · exact bxs (by omega) (bxs (by omega) hb0)
  · exact bxc rfl
  intro ρ1 h1 h2 h5 h6 h7 h10 h11
  refine l_s1 c la v rm hR rb.u0 rb.u1 rb.u2 q2 m0 m1 m2 hv _ _ st.next .no t' s' hs acts n7 ?_ ?_ ?_ h1 h2 h5 h6 h7 h10 h11 _ ?_
  · exact hlim
  · exact bxs (by omega) (bxs (by omega) hb0)
  · exact bxc rfl
  intro ρ2 h1 h2 h5 h6 h7
  exact hQ _ _ hlim (Nat.le_succ_of_le hnx) (bxs (by omega) (bxs (by omega) hb0)) h1 h2 h5 h6 h7
set_option maxHeartbeats 8000000 in
theorem l_bounds (c : Co) (hc : I64 c.en) (acts : List Ac) (h50 : acts.length ≤ 50) (t : Tok) : ∀ (post pre : List Ac) (l : List Bk), acts = pre ++ post → PB c l →
    ∀ (ρ : Nat → D) (st : Store) (t' : Tok) (s' : Nat) (hlim : st.lim ≤ 0) (hnx : 1 ≤ st.next) (hb0 : (st.boxes 0).bind Box.cs = some [.int .i64 c.id, .int .i64 c.fr, .int .i64 c.to, .int .i64 c.st, .int .i64 c.en, .int .i64 c.ra])
      (h1 : ρ 1 = .slice t 9 (acts.map Ac.e)) (h2 : ρ 2 = .ptr 0 0) (h5 : ρ 5 = .bool true) (h6 : ρ 6 = .slice t' s' (l.map Bk.e)) (hs : s' = 4 ∨ l = []) (h7 : ρ 7 = .int .i64 pre.length) (Q : X → (Nat → D) → Store → Prop),
    (∀ (ρ' : Nat → D) (st' : Store) (t' : Tok) (s' : Nat) (l' : List Bk), l'.length ≤ 1 → ρ' 5 = .bool true → ρ' 6 = .slice t' s' (l'.map Bk.e) → Q (.exit 0) ρ' st') → WC Γ (.loop c_feluccalaw09_LedgerBounds_l1) ρ st Q := by
  intro post
  induction post with
  | nil =>
    intro pre l hp hP ρ st t' s' hlim hnx hb0 h1 h2 h5 h6 hs h7 Q hQ
    rw [List.append_nil] at hp
    subst hp
    rw [← upd_self h1, ← upd_self h2, ← upd_self h5, ← upd_self h6, ← upd_self h7]
    refine WC_loop ?_
    repeat' (first
    | (refine I_WS ?_; first
      | (refine I_mov ?_; first
          | refine W_skip rfl ?_
          | refine W_mov (v := .int _ _) rfl rfl rfl ?_
          | refine W_mov (v := .bool _) rfl rfl rfl ?_
          | refine W_mov (v := .slice _ _ _) rfl rfl rfl ?_
          | refine W_mov (v := .agg _) rfl rfl rfl ?_
          | refine W_mov (v := .ptr _ _) rfl rfl rfl ?_
          | refine W_mov (v := .func _ _) rfl rfl rfl ?_
          | refine W_mov (v := .eptr _ _ _ _) rfl rfl rfl ?_
          | refine W_mov (v := .rs _ _ _ _ _) rfl rfl rfl ?_
          | refine W_mov (v := .tuple _) rfl rfl rfl ?_
          | refine W_mov (v := .map _) rfl rfl rfl ?_
          | refine W_mov (v := .str _) rfl rfl rfl ?_
          | refine W_mov (v := .nilptr) rfl rfl rfl ?_)
      | (refine I_bin ?_; first
          | refine W_skip rfl ?_
          | refine W_lssT rfl rfl rfl rfl (by omega) ?_
          | refine W_lssF rfl rfl rfl rfl (by omega) ?_
          | (refine W_lss rfl rfl rfl rfl ?_ ?_ <;> intro _)
          | refine W_leqT rfl rfl rfl rfl (by omega) ?_
          | refine W_leqF rfl rfl rfl rfl (by omega) ?_
          | (refine W_leq rfl rfl rfl rfl ?_ ?_ <;> intro _)
          | refine W_gtrT rfl rfl rfl rfl (by omega) ?_
          | refine W_gtrF rfl rfl rfl rfl (by omega) ?_
          | (refine W_gtr rfl rfl rfl rfl ?_ ?_ <;> intro _)
          | refine W_neqT rfl rfl rfl rfl (by omega) ?_
          | refine W_neqF rfl rfl rfl rfl (by omega) ?_
          | (refine W_neq rfl rfl rfl rfl ?_ ?_ <;> intro _)
          | refine W_add rfl rfl rfl rfl (by first | exact w64 (by omega) | rfl) ?_
          | refine W_sub rfl rfl rfl rfl (by first | exact w64 (by omega) | rfl) ?_)
      | (refine I_load ?_; first
          | refine W_skip rfl ?_
          | refine W_load (agg := false) (d := .int _ _) rfl rfl rfl (bxc rfl) (by first | exact Nat.zero_le _ | assumption | exact Nat.le_trans hlim (Nat.zero_le _) | omega) rfl ?_
          | refine W_load (agg := false) (d := .bool _) rfl rfl rfl (bxc rfl) (by first | exact Nat.zero_le _ | assumption | exact Nat.le_trans hlim (Nat.zero_le _) | omega) rfl ?_
          | refine W_load (agg := false) (d := .slice _ _ _) rfl rfl rfl (bxc rfl) (by first | exact Nat.zero_le _ | assumption | exact Nat.le_trans hlim (Nat.zero_le _) | omega) rfl ?_
          | refine W_load (agg := false) (d := .ptr _ _) rfl rfl rfl (bxc rfl) (by first | exact Nat.zero_le _ | assumption | exact Nat.le_trans hlim (Nat.zero_le _) | omega) rfl ?_
          | refine W_load (agg := false) (d := .func _ _) rfl rfl rfl (bxc rfl) (by first | exact Nat.zero_le _ | assumption | exact Nat.le_trans hlim (Nat.zero_le _) | omega) rfl ?_
          | refine W_load (agg := true) (d := .agg [_, _, _]) rfl rfl rfl (bxc rfl) (by first | exact Nat.zero_le _ | assumption | exact Nat.le_trans hlim (Nat.zero_le _) | omega) rfl ?_
          | refine W_load (agg := true) (d := .agg [_, _, _, _, _, _]) rfl rfl rfl (bxc rfl) (by first | exact Nat.zero_le _ | assumption | exact Nat.le_trans hlim (Nat.zero_le _) | omega) rfl ?_
          | refine W_load (agg := false) (d := .int _ _) rfl rfl rfl (bxs (by omega) (bxc rfl)) (by first | exact Nat.zero_le _ | assumption | exact Nat.le_trans hlim (Nat.zero_le _) | omega) rfl ?_
          | refine W_load (agg := false) (d := .bool _) rfl rfl rfl (bxs (by omega) (bxc rfl)) (by first | exact Nat.zero_le _ | assumption | exact Nat.le_trans hlim (Nat.zero_le _) | omega) rfl ?_
          | refine W_load (agg := false) (d := .slice _ _ _) rfl rfl rfl (bxs (by omega) (bxc rfl)) (by first | exact Nat.zero_le _ | assumption | exact Nat.le_trans hlim (Nat.zero_le _) | omega) rfl ?_
          | refine W_load (agg := false) (d := .ptr _ _) rfl rfl rfl (bxs (by omega) (bxc rfl)) (by first | exact Nat.zero_le _ | assumption | exact Nat.le_trans hlim (Nat.zero_le _) | omega) rfl ?_
          | refine W_load (agg := false) (d := .func _ _) rfl rfl rfl (bxs (by omega) (bxc rfl)) (by first | exact Nat.zero_le _ | assumption | exact Nat.le_trans hlim (Nat.zero_le _) | omega) rfl ?_
          | refine W_load (agg := true) (d := .agg [_, _, _]) rfl rfl rfl (bxs (by omega) (bxc rfl)) (by first | exact Nat.zero_le _ | assumption | exact Nat.le_trans hlim (Nat.zero_le _) | omega) rfl ?_
          | refine W_load (agg := true) (d := .agg [_, _, _, _, _, _]) rfl rfl rfl (bxs (by omega) (bxc rfl)) (by first | exact Nat.zero_le _ | assumption | exact Nat.le_trans hlim (Nat.zero_le _) | omega) rfl ?_
          | refine W_load (agg := false) (d := .int _ _) rfl rfl rfl rfl (by first | exact Nat.zero_le _ | omega) rfl ?_
          | refine W_load (agg := false) (d := .bool _) rfl rfl rfl rfl (by first | exact Nat.zero_le _ | omega) rfl ?_
          | refine W_load (agg := false) (d := .slice _ _ _) rfl rfl rfl rfl (by first | exact Nat.zero_le _ | omega) rfl ?_
          | refine W_load (agg := false) (d := .ptr _ _) rfl rfl rfl rfl (by first | exact Nat.zero_le _ | omega) rfl ?_
          | refine W_load (agg := false) (d := .func _ _) rfl rfl rfl rfl (by first | exact Nat.zero_le _ | omega) rfl ?_
          | refine W_load (agg := true) (d := .agg [_, _, _]) rfl rfl rfl rfl (by first | exact Nat.zero_le _ | omega) rfl ?_
          | refine W_load (agg := true) (d := .agg [_, _, _, _, _, _]) rfl rfl rfl rfl (by first | exact Nat.zero_le _ | omega) rfl ?_)
      | (refine I_call ?_; first
          | refine W_skip rfl ?_)
      | (refine I_pick ?_; first
          | refine W_pick (v := .int _ _) rfl rfl rfl rfl ?_
          | refine W_pick (v := .bool _) rfl rfl rfl rfl ?_
          | refine W_pick (v := .slice _ _ _) rfl rfl rfl rfl ?_
          | refine W_pick (v := .agg _) rfl rfl rfl rfl ?_
          | refine W_skip rfl ?_)
      | (refine I_extract ?_; first
          | refine W_extract (d := .int _ _) rfl rfl rfl rfl ?_
          | refine W_extract (d := .bool _) rfl rfl rfl rfl ?_
          | refine W_extract (d := .slice _ _ _) rfl rfl rfl rfl ?_
          | refine W_extract (d := .agg _) rfl rfl rfl rfl ?_
          | refine W_extract (d := .ptr _ _) rfl rfl rfl rfl ?_
          | refine W_extract (d := .func _ _) rfl rfl rfl rfl ?_
          | refine W_skip rfl ?_)
      | (refine I_box ?_; first
          | refine W_boxA rfl rfl rfl rfl rfl ?_
          | refine W_box1 (v := .slice _ _ _) rfl rfl rfl rfl rfl ?_
          | refine W_box1 (v := .int _ _) rfl rfl rfl rfl rfl ?_
          | refine W_box1 (v := .bool _) rfl rfl rfl rfl rfl ?_
          | refine W_box1 (v := .ptr _ _) rfl rfl rfl rfl rfl ?_
          | refine W_skip rfl ?_)
      | (refine I_store ?_; first
          | refine W_store (cs' := [_, _, _]) rfl rfl (upd_same _ _ _) rfl (by first | exact Nat.zero_le _ | assumption | exact Nat.le_trans hlim (Nat.zero_le _) | omega) rfl rfl rfl ?_
          | refine W_store (cs' := [_, _, _]) rfl rfl ((upd_ne _ _ (by omega)).trans (upd_same _ _ _)) rfl (by first | exact Nat.zero_le _ | assumption | exact Nat.le_trans hlim (Nat.zero_le _) | omega) rfl rfl rfl ?_
          | refine W_store (cs' := [_, _, _, _, _, _]) rfl rfl (upd_same _ _ _) rfl (by first | exact Nat.zero_le _ | assumption | exact Nat.le_trans hlim (Nat.zero_le _) | omega) rfl rfl rfl ?_
          | refine W_store (cs' := [_, _, _, _, _, _]) rfl rfl ((upd_ne _ _ (by omega)).trans (upd_same _ _ _)) rfl (by first | exact Nat.zero_le _ | assumption | exact Nat.le_trans hlim (Nat.zero_le _) | omega) rfl rfl rfl ?_
          | refine W_store (cs' := [_, _, _]) rfl rfl rfl rfl (by first | exact Nat.zero_le _ | omega) rfl rfl rfl ?_
          | refine W_store (cs' := [_, _, _, _, _, _]) rfl rfl rfl rfl (by first | exact Nat.zero_le _ | omega) rfl rfl rfl ?_
          | refine W_skip0 rfl ?_)
      | refine W_not rfl rfl rfl ?_
      | refine W_lenM rfl rfl rfl ?_
      | refine W_lenS rfl rfl rfl ?_
      | refine W_lenR rfl rfl rfl ?_
      | refine W_faddr rfl rfl rfl ?_
      | refine W_faddrE rfl rfl rfl ?_
      | refine W_alloc rfl rfl ?_
      | refine W_iaddrA rfl rfl rfl rfl (by decide) ?_
      | refine W_iaddrAE rfl rfl rfl rfl (by decide) ?_
      | refine W_skip rfl ?_
      | refine W_iaddr rfl rfl rfl rfl (by first | rfl | exact sz_of (by assumption) (by omega)) (by first | decide | (simp only [List.length_map]; omega)) ?_
      | refine W_iaddrRN rfl rfl rfl rfl rfl (by decide) ?_
      | refine W_iaddrR rfl rfl rfl rfl (by first | decide | omega) ?_
      | (refine W_sliceLoN rfl rfl (by first | exact .inl rfl | assumption) rfl (by first | omega | (simp; omega)) rfl ?_ <;> intro _)
      | (refine W_sliceHiN rfl rfl (by first | exact .inl rfl | assumption) rfl (by first | omega | (simp; omega)) rfl ?_ <;> intro _)
      | (refine W_sliceLo rfl rfl (by first | exact .inl rfl | assumption) rfl (by first | omega | (simp; omega)) rfl ?_ <;> intro _)
      | (refine W_sliceHi rfl rfl (by first | exact .inl rfl | assumption) rfl (by first | omega | (simp; omega)) rfl ?_ <;> intro _)
      | refine W_skip rfl ?_
      | refine WS_nil ?_)
    | refine WC_seq ?_
    | refine WC_opsS ?_
    | refine WC_drawS ?_
    | refine WC_skip ?_
    | refine WC_condT rfl ?_
    | refine WC_condF rfl ?_
    | refine WC_block ?_
    | refine WC_exit ?_
    | refine WC_ret ?_
    | refine okF_intro rfl ?_)
    exact hQ _ _ _ _ l hP.len rfl rfl
  | cons a post ih =>
    intro pre l hp hP ρ st t' s' hlim hnx hb0 h1 h2 h5 h6 hs h7 Q hQ
    have hv := at_mid hp
    have hlen : acts.length = pre.length + (post.length + 1) := by rw [hp]; simp
    have hP' := hP.act a
    have hq := hP'.qb
    have hl1 := hP.len
    have hl2 := hP'.len
    have hIl := hP.1
    have hI' := hP'.1
    have hB := fun t sz hs => s_Book l c a.k a.n hc hIl.1 (by omega) (hIl.rowU _) t sz hs
    have hRl := fun t sz hs => s_Release l c.id a.k a.n hIl.1 (by omega) (hIl.rowU _) t sz hs
    have hU := fun t sz hsz => s_Used (actM c l a) c.id hI'.1 (by omega) t sz hsz
    have hR := fun k t sz hsz => s_Room (actM c l a) c.id c.fr c.to c.st c.en c.ra k hc hI'.1 (by omega) (hI'.rowU _) t sz hsz
    have hV := s_check_Volume c.id c.fr c.to c.st c.en c.ra hc
    have hstep : ∀ (ρ' : Nat → D) (st' : Store) (t' : Tok) (s' : Nat), st'.lim ≤ 0 → 1 ≤ st'.next → (st'.boxes 0).bind Box.cs = some [.int .i64 c.id, .int .i64 c.fr, .int .i64 c.to, .int .i64 c.st, .int .i64 c.en, .int .i64 c.ra] →
        ρ' 1 = .slice t 9 (acts.map Ac.e) → ρ' 2 = .ptr 0 0 → ρ' 5 = .bool true → ρ' 6 = .slice t' s' ((actM c l a).map Bk.e) → (s' = 4 ∨ actM c l a = []) → ρ' 7 = .int .i64 (pre.length + 1 : Nat) → WC Γ (.loop c_feluccalaw09_LedgerBounds_l1) ρ' st' Q :=
      fun ρ' st' t' s' e1 e2 e3 e4 e5 e6 e7 e8 e9 => ih (pre ++ [a]) (actM c l a) (by simp [hp]) hP' ρ' st' t' s' e1 e2 e3 e4 e5 e6 e7 e8 (by rw [e9]; simp) Q hQ
    have eb : a.do' = 1 → bookM l c a.k a.n = actM c l a := fun h => by unfold actM; rw [if_pos h]
    have er : a.do' ≠ 1 → relM l c.id a.k a.n = actM c l a := fun h => by unfold actM; rw [if_neg h]
    have nb : ¬ bookC l c a.k a.n → bookM l c a.k a.n = l := fun h => by unfold bookM; rw [if_neg h]
    have nr : ¬ relC l c.id a.k a.n → relM l c.id a.k a.n = l := fun h => by unfold relM; rw [if_neg h]
    clear hQ ih hP hP' hI' hIl
    change QB (volC c.id c.fr c.to c.st c.en c.ra) _ (room _ _ _ _ _ _ _ _) (room _ _ _ _ _ _ _ _) (room _ _ _ _ _ _ _ _) at hq
    generalize actM c l a = la at *
    generalize row la c.id = rb at *
    generalize hrm : room la c.id c.fr c.to c.st c.en c.ra = rm at *
    generalize volC c.id c.fr c.to c.st c.en c.ra = v at *
    rw [← upd_self h1, ← upd_self h2, ← upd_self h5, ← upd_self h6, ← upd_self h7]
    have key : ∃ (lx ly : List Bk) (qx qy : Bool), (∀ t sz, (sz = 4 ∨ l = []) → EvX Γ 32 [.slice t sz (l.map Bk.e), c.e, .int .i64 a.k, .int .i64 a.n] (IsTD Bk.e 4 lx [.bool qx])) ∧
        (∀ t sz, (sz = 4 ∨ l = []) → EvX Γ 30 [.slice t sz (l.map Bk.e), .int .i64 c.id, .int .i64 a.k, .int .i64 a.n] (IsTD Bk.e 4 ly [.bool qy])) ∧
        ((a.do' = 1 ∧ qx = true ∧ lx = la) ∨ (a.do' = 1 ∧ qx = false ∧ la = l) ∨ (a.do' ≠ 1 ∧ qy = true ∧ ly = la) ∨ (a.do' ≠ 1 ∧ qy = false ∧ la = l)) := by
      refine ⟨_, _, _, _, hB, hRl, ?_⟩
      by_cases hdo : a.do' = 1
      · by_cases hb : bookC l c a.k a.n
        · exact .inl ⟨hdo, decide_eq_true hb, eb hdo⟩
        · exact .inr (.inl ⟨hdo, decide_eq_false hb, (eb hdo).symm.trans (nb hb)⟩)
      · by_cases hb : relC l c.id a.k a.n
        · exact .inr (.inr (.inl ⟨hdo, decide_eq_true hb, er hdo⟩))
        · exact .inr (.inr (.inr ⟨hdo, decide_eq_false hb, (er hdo).symm.trans (nr hb)⟩))
    clear hB hRl eb er nb nr
    obtain ⟨lx, ly, qx, qy, hB, hRl, key⟩ := key
    rcases key with ⟨hdo, rfl, rfl⟩ | ⟨hdo, rfl, rfl⟩ | ⟨hdo, rfl, rfl⟩ | ⟨hdo, rfl, rfl⟩
    all_goals
      refine WC_loop ?_
      repeat' (first
    | (refine I_WS ?_; first
      | (refine I_mov ?_; first
          | refine W_skip rfl ?_
          | refine W_mov (v := .int _ _) rfl rfl rfl ?_
          | refine W_mov (v := .bool _) rfl rfl rfl ?_
          | refine W_mov (v := .slice _ _ _) rfl rfl rfl ?_
          | refine W_mov (v := .agg _) rfl rfl rfl ?_
          | refine W_mov (v := .ptr _ _) rfl rfl rfl ?_
          | refine W_mov (v := .func _ _) rfl rfl rfl ?_
          | refine W_mov (v := .eptr _ _ _ _) rfl rfl rfl ?_
          | refine W_mov (v := .rs _ _ _ _ _) rfl rfl rfl ?_
          | refine W_mov (v := .tuple _) rfl rfl rfl ?_
          | refine W_mov (v := .map _) rfl rfl rfl ?_
          | refine W_mov (v := .str _) rfl rfl rfl ?_
          | refine W_mov (v := .nilptr) rfl rfl rfl ?_)
      | (refine I_bin ?_; first
          | refine W_skip rfl ?_
          | refine W_lssT rfl rfl rfl rfl (by omega) ?_
          | refine W_lssF rfl rfl rfl rfl (by omega) ?_
          | (refine W_lss rfl rfl rfl rfl ?_ ?_ <;> intro _)
          | refine W_leqT rfl rfl rfl rfl (by omega) ?_
          | refine W_leqF rfl rfl rfl rfl (by omega) ?_
          | (refine W_leq rfl rfl rfl rfl ?_ ?_ <;> intro _)
          | refine W_gtrT rfl rfl rfl rfl (by omega) ?_
          | refine W_gtrF rfl rfl rfl rfl (by omega) ?_
          | (refine W_gtr rfl rfl rfl rfl ?_ ?_ <;> intro _)
          | refine W_neqT rfl rfl rfl rfl (by omega) ?_
          | refine W_neqF rfl rfl rfl rfl (by omega) ?_
          | (refine W_neq rfl rfl rfl rfl ?_ ?_ <;> intro _)
          | refine W_add rfl rfl rfl rfl (by first | exact w64 (by omega) | rfl) ?_
          | refine W_sub rfl rfl rfl rfl (by first | exact w64 (by omega) | rfl) ?_)
      | (refine I_load ?_; first
          | refine W_skip rfl ?_
          | refine W_loadE (agg := false) (d := .int _ _) rfl rfl rfl hv rfl ?_
          | refine W_load (agg := true) (d := .agg [_, _, _, _, _, _]) rfl rfl rfl hb0 hlim rfl ?_
          | refine W_load (agg := false) (d := .int _ _) rfl rfl rfl hb0 hlim rfl ?_
          | refine W_load (agg := false) (d := .int _ _) rfl rfl rfl (bxc rfl) (by first | exact Nat.zero_le _ | assumption | exact Nat.le_trans hlim (Nat.zero_le _) | omega) rfl ?_
          | refine W_load (agg := false) (d := .bool _) rfl rfl rfl (bxc rfl) (by first | exact Nat.zero_le _ | assumption | exact Nat.le_trans hlim (Nat.zero_le _) | omega) rfl ?_
          | refine W_load (agg := false) (d := .slice _ _ _) rfl rfl rfl (bxc rfl) (by first | exact Nat.zero_le _ | assumption | exact Nat.le_trans hlim (Nat.zero_le _) | omega) rfl ?_
          | refine W_load (agg := false) (d := .ptr _ _) rfl rfl rfl (bxc rfl) (by first | exact Nat.zero_le _ | assumption | exact Nat.le_trans hlim (Nat.zero_le _) | omega) rfl ?_
          | refine W_load (agg := false) (d := .func _ _) rfl rfl rfl (bxc rfl) (by first | exact Nat.zero_le _ | assumption | exact Nat.le_trans hlim (Nat.zero_le _) | omega) rfl ?_
          | refine W_load (agg := true) (d := .agg [_, _, _]) rfl rfl rfl (bxc rfl) (by first | exact Nat.zero_le _ | assumption | exact Nat.le_trans hlim (Nat.zero_le _) | omega) rfl ?_
          | refine W_load (agg := true) (d := .agg [_, _, _, _, _, _]) rfl rfl rfl (bxc rfl) (by first | exact Nat.zero_le _ | assumption | exact Nat.le_trans hlim (Nat.zero_le _) | omega) rfl ?_
          | refine W_load (agg := false) (d := .int _ _) rfl rfl rfl (bxs (by omega) (bxc rfl)) (by first | exact Nat.zero_le _ | assumption | exact Nat.le_trans hlim (Nat.zero_le _) | omega) rfl ?_
          | refine W_load (agg := false) (d := .bool _) rfl rfl rfl (bxs (by omega) (bxc rfl)) (by first | exact Nat.zero_le _ | assumption | exact Nat.le_trans hlim (Nat.zero_le _) | omega) rfl ?_
          | refine W_load (agg := false) (d := .slice _ _ _) rfl rfl rfl (bxs (by omega) (bxc rfl)) (by first | exact Nat.zero_le _ | assumption | exact Nat.le_trans hlim (Nat.zero_le _) | omega) rfl ?_
          | refine W_load (agg := false) (d := .ptr _ _) rfl rfl rfl (bxs (by omega) (bxc rfl)) (by first | exact Nat.zero_le _ | assumption | exact Nat.le_trans hlim (Nat.zero_le _) | omega) rfl ?_
          | refine W_load (agg := false) (d := .func _ _) rfl rfl rfl (bxs (by omega) (bxc rfl)) (by first | exact Nat.zero_le _ | assumption | exact Nat.le_trans hlim (Nat.zero_le _) | omega) rfl ?_
          | refine W_load (agg := true) (d := .agg [_, _, _]) rfl rfl rfl (bxs (by omega) (bxc rfl)) (by first | exact Nat.zero_le _ | assumption | exact Nat.le_trans hlim (Nat.zero_le _) | omega) rfl ?_
          | refine W_load (agg := true) (d := .agg [_, _, _, _, _, _]) rfl rfl rfl (bxs (by omega) (bxc rfl)) (by first | exact Nat.zero_le _ | assumption | exact Nat.le_trans hlim (Nat.zero_le _) | omega) rfl ?_
          | refine W_load (agg := false) (d := .int _ _) rfl rfl rfl rfl (by first | exact Nat.zero_le _ | omega) rfl ?_
          | refine W_load (agg := false) (d := .bool _) rfl rfl rfl rfl (by first | exact Nat.zero_le _ | omega) rfl ?_
          | refine W_load (agg := false) (d := .slice _ _ _) rfl rfl rfl rfl (by first | exact Nat.zero_le _ | omega) rfl ?_
          | refine W_load (agg := false) (d := .ptr _ _) rfl rfl rfl rfl (by first | exact Nat.zero_le _ | omega) rfl ?_
          | refine W_load (agg := false) (d := .func _ _) rfl rfl rfl rfl (by first | exact Nat.zero_le _ | omega) rfl ?_
          | refine W_load (agg := true) (d := .agg [_, _, _]) rfl rfl rfl rfl (by first | exact Nat.zero_le _ | omega) rfl ?_
          | refine W_load (agg := true) (d := .agg [_, _, _, _, _, _]) rfl rfl rfl rfl (by first | exact Nat.zero_le _ | omega) rfl ?_)
      | (refine I_call ?_; first
          | refine W_skip rfl ?_
          | (refine W_callTD rfl rfl rfl (hB _ _ hs) rfl ?_ <;> intro _ _ s1 _)
          | (refine W_callTD rfl rfl rfl (hRl _ _ hs) rfl ?_ <;> intro _ _ s1 _))
      | (refine I_pick ?_; first
          | refine W_pick (v := .int _ _) rfl rfl rfl rfl ?_
          | refine W_pick (v := .bool _) rfl rfl rfl rfl ?_
          | refine W_pick (v := .slice _ _ _) rfl rfl rfl rfl ?_
          | refine W_pick (v := .agg _) rfl rfl rfl rfl ?_
          | refine W_skip rfl ?_)
      | (refine I_extract ?_; first
          | refine W_extract (d := .int _ _) rfl rfl rfl rfl ?_
          | refine W_extract (d := .bool _) rfl rfl rfl rfl ?_
          | refine W_extract (d := .slice _ _ _) rfl rfl rfl rfl ?_
          | refine W_extract (d := .agg _) rfl rfl rfl rfl ?_
          | refine W_extract (d := .ptr _ _) rfl rfl rfl rfl ?_
          | refine W_extract (d := .func _ _) rfl rfl rfl rfl ?_
          | refine W_skip rfl ?_)
      | (refine I_box ?_; first
          | refine W_boxA rfl rfl rfl rfl rfl ?_
          | refine W_box1 (v := .slice _ _ _) rfl rfl rfl rfl rfl ?_
          | refine W_box1 (v := .int _ _) rfl rfl rfl rfl rfl ?_
          | refine W_box1 (v := .bool _) rfl rfl rfl rfl rfl ?_
          | refine W_box1 (v := .ptr _ _) rfl rfl rfl rfl rfl ?_
          | refine W_skip rfl ?_)
      | (refine I_store ?_; first
          | refine W_store (cs' := [_, _, _]) rfl rfl (upd_same _ _ _) rfl (by first | exact Nat.zero_le _ | assumption | exact Nat.le_trans hlim (Nat.zero_le _) | omega) rfl rfl rfl ?_
          | refine W_store (cs' := [_, _, _]) rfl rfl ((upd_ne _ _ (by omega)).trans (upd_same _ _ _)) rfl (by first | exact Nat.zero_le _ | assumption | exact Nat.le_trans hlim (Nat.zero_le _) | omega) rfl rfl rfl ?_
          | refine W_store (cs' := [_, _, _, _, _, _]) rfl rfl (upd_same _ _ _) rfl (by first | exact Nat.zero_le _ | assumption | exact Nat.le_trans hlim (Nat.zero_le _) | omega) rfl rfl rfl ?_
          | refine W_store (cs' := [_, _, _, _, _, _]) rfl rfl ((upd_ne _ _ (by omega)).trans (upd_same _ _ _)) rfl (by first | exact Nat.zero_le _ | assumption | exact Nat.le_trans hlim (Nat.zero_le _) | omega) rfl rfl rfl ?_
          | refine W_store (cs' := [_, _, _]) rfl rfl rfl rfl (by first | exact Nat.zero_le _ | omega) rfl rfl rfl ?_
          | refine W_store (cs' := [_, _, _, _, _, _]) rfl rfl rfl rfl (by first | exact Nat.zero_le _ | omega) rfl rfl rfl ?_
          | refine W_skip0 rfl ?_)
      | refine W_not rfl rfl rfl ?_
      | refine W_lenM rfl rfl rfl ?_
      | refine W_lenS rfl rfl rfl ?_
      | refine W_lenR rfl rfl rfl ?_
      | refine W_faddr rfl rfl rfl ?_
      | refine W_faddrE rfl rfl rfl ?_
      | refine W_alloc rfl rfl ?_
      | refine W_iaddrA rfl rfl rfl rfl (by decide) ?_
      | refine W_iaddrAE rfl rfl rfl rfl (by decide) ?_
      | refine W_skip rfl ?_
      | refine W_iaddr rfl rfl rfl rfl (by first | rfl | exact sz_of (by assumption) (by omega)) (by first | decide | (simp only [List.length_map]; omega)) ?_
      | refine W_iaddrRN rfl rfl rfl rfl rfl (by decide) ?_
      | refine W_iaddrR rfl rfl rfl rfl (by first | decide | omega) ?_
      | (refine W_sliceLoN rfl rfl (by first | exact .inl rfl | assumption) rfl (by first | omega | (simp; omega)) rfl ?_ <;> intro _)
      | (refine W_sliceHiN rfl rfl (by first | exact .inl rfl | assumption) rfl (by first | omega | (simp; omega)) rfl ?_ <;> intro _)
      | (refine W_sliceLo rfl rfl (by first | exact .inl rfl | assumption) rfl (by first | omega | (simp; omega)) rfl ?_ <;> intro _)
      | (refine W_sliceHi rfl rfl (by first | exact .inl rfl | assumption) rfl (by first | omega | (simp; omega)) rfl ?_ <;> intro _)
      | refine W_skip rfl ?_
      | refine WS_nil ?_)
    | (refine l_s2 c _ v rm rb hR hU hV hq _ _ .no _ _ (by assumption) _ _ hlim hnx hb0 rfl rfl rfl rfl rfl _ ?_; intro ρ2 st2 e1 e2 e3 k1 k2 k5 k6 k7; rw [← upd_self k1, ← upd_self k2, ← upd_self k5, ← upd_self k6, ← upd_self k7])
    | refine WC_seq ?_
    | refine WC_opsS ?_
    | refine WC_drawS ?_
    | refine WC_skip ?_
    | refine WC_condT rfl ?_
    | refine WC_condF rfl ?_
    | refine WC_block ?_
    | refine WC_exit ?_
    | refine WC_ret ?_
    | refine okF_intro rfl ?_)
    all_goals exact hstep _ _ _ _ (by assumption) (by assumption) (by assumption) rfl rfl rfl rfl (by assumption) rfl
theorem PB.nil (c : Co) : PB c [] := by
  refine ⟨⟨by simp [Srt], by simp⟩, by simp, fun k => ?_⟩
  have := vol_in c
  simp only [getB, Bk.at]
  split
  · omega
  · split <;> omega
theorem run_Bounds (c : Co) (hc : I64 c.en) (acts : List Ac) : EvP Γ 10 [c.e, .slice .no 9 (acts.map Ac.e)] (.bool true) := by
  refine EvP_code rfl rfl ?_
  have hc' := hc
  unfold I64 at hc'
  have hC := s_check_Contact c.id c.fr c.to c.st c.en c.ra hc'
  repeat' (first
    | (refine I_WS ?_; first
      | (refine I_mov ?_; first
          | refine W_skip rfl ?_
          | refine W_mov (v := .int _ _) rfl rfl rfl ?_
          | refine W_mov (v := .bool _) rfl rfl rfl ?_
          | refine W_mov (v := .slice _ _ _) rfl rfl rfl ?_
          | refine W_mov (v := .agg _) rfl rfl rfl ?_
          | refine W_mov (v := .ptr _ _) rfl rfl rfl ?_
          | refine W_mov (v := .func _ _) rfl rfl rfl ?_
          | refine W_mov (v := .eptr _ _ _ _) rfl rfl rfl ?_
          | refine W_mov (v := .rs _ _ _ _ _) rfl rfl rfl ?_
          | refine W_mov (v := .tuple _) rfl rfl rfl ?_
          | refine W_mov (v := .map _) rfl rfl rfl ?_
          | refine W_mov (v := .str _) rfl rfl rfl ?_
          | refine W_mov (v := .nilptr) rfl rfl rfl ?_)
      | (refine I_bin ?_; first
          | refine W_skip rfl ?_
          | refine W_lssT rfl rfl rfl rfl (by omega) ?_
          | refine W_lssF rfl rfl rfl rfl (by omega) ?_
          | (refine W_lss rfl rfl rfl rfl ?_ ?_ <;> intro _)
          | refine W_leqT rfl rfl rfl rfl (by omega) ?_
          | refine W_leqF rfl rfl rfl rfl (by omega) ?_
          | (refine W_leq rfl rfl rfl rfl ?_ ?_ <;> intro _)
          | refine W_gtrT rfl rfl rfl rfl (by omega) ?_
          | refine W_gtrF rfl rfl rfl rfl (by omega) ?_
          | (refine W_gtr rfl rfl rfl rfl ?_ ?_ <;> intro _)
          | refine W_neqT rfl rfl rfl rfl (by omega) ?_
          | refine W_neqF rfl rfl rfl rfl (by omega) ?_
          | (refine W_neq rfl rfl rfl rfl ?_ ?_ <;> intro _)
          | refine W_add rfl rfl rfl rfl (by first | exact w64 (by omega) | rfl) ?_
          | refine W_sub rfl rfl rfl rfl (by first | exact w64 (by omega) | rfl) ?_)
      | (refine I_load ?_; first
          | refine W_skip rfl ?_
          | refine W_load (agg := false) (d := .int _ _) rfl rfl rfl (bxc rfl) (by first | exact Nat.zero_le _ | assumption | exact Nat.le_trans hlim (Nat.zero_le _) | omega) rfl ?_
          | refine W_load (agg := false) (d := .bool _) rfl rfl rfl (bxc rfl) (by first | exact Nat.zero_le _ | assumption | exact Nat.le_trans hlim (Nat.zero_le _) | omega) rfl ?_
          | refine W_load (agg := false) (d := .slice _ _ _) rfl rfl rfl (bxc rfl) (by first | exact Nat.zero_le _ | assumption | exact Nat.le_trans hlim (Nat.zero_le _) | omega) rfl ?_
          | refine W_load (agg := false) (d := .ptr _ _) rfl rfl rfl (bxc rfl) (by first | exact Nat.zero_le _ | assumption | exact Nat.le_trans hlim (Nat.zero_le _) | omega) rfl ?_
          | refine W_load (agg := false) (d := .func _ _) rfl rfl rfl (bxc rfl) (by first | exact Nat.zero_le _ | assumption | exact Nat.le_trans hlim (Nat.zero_le _) | omega) rfl ?_
          | refine W_load (agg := true) (d := .agg [_, _, _]) rfl rfl rfl (bxc rfl) (by first | exact Nat.zero_le _ | assumption | exact Nat.le_trans hlim (Nat.zero_le _) | omega) rfl ?_
          | refine W_load (agg := true) (d := .agg [_, _, _, _, _, _]) rfl rfl rfl (bxc rfl) (by first | exact Nat.zero_le _ | assumption | exact Nat.le_trans hlim (Nat.zero_le _) | omega) rfl ?_
          | refine W_load (agg := false) (d := .int _ _) rfl rfl rfl (bxs (by omega) (bxc rfl)) (by first | exact Nat.zero_le _ | assumption | exact Nat.le_trans hlim (Nat.zero_le _) | omega) rfl ?_
          | refine W_load (agg := false) (d := .bool _) rfl rfl rfl (bxs (by omega) (bxc rfl)) (by first | exact Nat.zero_le _ | assumption | exact Nat.le_trans hlim (Nat.zero_le _) | omega) rfl ?_
          | refine W_load (agg := false) (d := .slice _ _ _) rfl rfl rfl (bxs (by omega) (bxc rfl)) (by first | exact Nat.zero_le _ | assumption | exact Nat.le_trans hlim (Nat.zero_le _) | omega) rfl ?_
          | refine W_load (agg := false) (d := .ptr _ _) rfl rfl rfl (bxs (by omega) (bxc rfl)) (by first | exact Nat.zero_le _ | assumption | exact Nat.le_trans hlim (Nat.zero_le _) | omega) rfl ?_
          | refine W_load (agg := false) (d := .func _ _) rfl rfl rfl (bxs (by omega) (bxc rfl)) (by first | exact Nat.zero_le _ | assumption | exact Nat.le_trans hlim (Nat.zero_le _) | omega) rfl ?_
          | refine W_load (agg := true) (d := .agg [_, _, _]) rfl rfl rfl (bxs (by omega) (bxc rfl)) (by first | exact Nat.zero_le _ | assumption | exact Nat.le_trans hlim (Nat.zero_le _) | omega) rfl ?_
          | refine W_load (agg := true) (d := .agg [_, _, _, _, _, _]) rfl rfl rfl (bxs (by omega) (bxc rfl)) (by first | exact Nat.zero_le _ | assumption | exact Nat.le_trans hlim (Nat.zero_le _) | omega) rfl ?_
          | refine W_load (agg := false) (d := .int _ _) rfl rfl rfl rfl (by first | exact Nat.zero_le _ | omega) rfl ?_
          | refine W_load (agg := false) (d := .bool _) rfl rfl rfl rfl (by first | exact Nat.zero_le _ | omega) rfl ?_
          | refine W_load (agg := false) (d := .slice _ _ _) rfl rfl rfl rfl (by first | exact Nat.zero_le _ | omega) rfl ?_
          | refine W_load (agg := false) (d := .ptr _ _) rfl rfl rfl rfl (by first | exact Nat.zero_le _ | omega) rfl ?_
          | refine W_load (agg := false) (d := .func _ _) rfl rfl rfl rfl (by first | exact Nat.zero_le _ | omega) rfl ?_
          | refine W_load (agg := true) (d := .agg [_, _, _]) rfl rfl rfl rfl (by first | exact Nat.zero_le _ | omega) rfl ?_
          | refine W_load (agg := true) (d := .agg [_, _, _, _, _, _]) rfl rfl rfl rfl (by first | exact Nat.zero_le _ | omega) rfl ?_)
      | (refine I_call ?_; first
          | refine W_skip rfl ?_
          | refine W_callBT rfl rfl rfl s_small rfl rfl ?_
          | refine W_callB rfl rfl rfl hC rfl ?_ ?_ <;> intro _)
      | (refine I_pick ?_; first
          | refine W_pick (v := .int _ _) rfl rfl rfl rfl ?_
          | refine W_pick (v := .bool _) rfl rfl rfl rfl ?_
          | refine W_pick (v := .slice _ _ _) rfl rfl rfl rfl ?_
          | refine W_pick (v := .agg _) rfl rfl rfl rfl ?_
          | refine W_skip rfl ?_)
      | (refine I_extract ?_; first
          | refine W_extract (d := .int _ _) rfl rfl rfl rfl ?_
          | refine W_extract (d := .bool _) rfl rfl rfl rfl ?_
          | refine W_extract (d := .slice _ _ _) rfl rfl rfl rfl ?_
          | refine W_extract (d := .agg _) rfl rfl rfl rfl ?_
          | refine W_extract (d := .ptr _ _) rfl rfl rfl rfl ?_
          | refine W_extract (d := .func _ _) rfl rfl rfl rfl ?_
          | refine W_skip rfl ?_)
      | (refine I_box ?_; first
          | refine W_boxA rfl rfl rfl rfl rfl ?_
          | refine W_box1 (v := .slice _ _ _) rfl rfl rfl rfl rfl ?_
          | refine W_box1 (v := .int _ _) rfl rfl rfl rfl rfl ?_
          | refine W_box1 (v := .bool _) rfl rfl rfl rfl rfl ?_
          | refine W_box1 (v := .ptr _ _) rfl rfl rfl rfl rfl ?_
          | refine W_skip rfl ?_)
      | (refine I_store ?_; first
          | refine W_store (cs' := [_, _, _]) rfl rfl (upd_same _ _ _) rfl (by first | exact Nat.zero_le _ | assumption | exact Nat.le_trans hlim (Nat.zero_le _) | omega) rfl rfl rfl ?_
          | refine W_store (cs' := [_, _, _]) rfl rfl ((upd_ne _ _ (by omega)).trans (upd_same _ _ _)) rfl (by first | exact Nat.zero_le _ | assumption | exact Nat.le_trans hlim (Nat.zero_le _) | omega) rfl rfl rfl ?_
          | refine W_store (cs' := [_, _, _, _, _, _]) rfl rfl (upd_same _ _ _) rfl (by first | exact Nat.zero_le _ | assumption | exact Nat.le_trans hlim (Nat.zero_le _) | omega) rfl rfl rfl ?_
          | refine W_store (cs' := [_, _, _, _, _, _]) rfl rfl ((upd_ne _ _ (by omega)).trans (upd_same _ _ _)) rfl (by first | exact Nat.zero_le _ | assumption | exact Nat.le_trans hlim (Nat.zero_le _) | omega) rfl rfl rfl ?_
          | refine W_store (cs' := [_, _, _]) rfl rfl rfl rfl (by first | exact Nat.zero_le _ | omega) rfl rfl rfl ?_
          | refine W_store (cs' := [_, _, _, _, _, _]) rfl rfl rfl rfl (by first | exact Nat.zero_le _ | omega) rfl rfl rfl ?_
          | refine W_skip0 rfl ?_)
      | refine W_not rfl rfl rfl ?_
      | refine W_lenM rfl rfl rfl ?_
      | refine W_lenS rfl rfl rfl ?_
      | refine W_lenR rfl rfl rfl ?_
      | refine W_faddr rfl rfl rfl ?_
      | refine W_faddrE rfl rfl rfl ?_
      | refine W_alloc rfl rfl ?_
      | refine W_iaddrA rfl rfl rfl rfl (by decide) ?_
      | refine W_iaddrAE rfl rfl rfl rfl (by decide) ?_
      | refine W_skip rfl ?_
      | refine W_iaddr rfl rfl rfl rfl (by first | rfl | exact sz_of (by assumption) (by omega)) (by first | decide | (simp only [List.length_map]; omega)) ?_
      | refine W_iaddrRN rfl rfl rfl rfl rfl (by decide) ?_
      | refine W_iaddrR rfl rfl rfl rfl (by first | decide | omega) ?_
      | (refine W_sliceLoN rfl rfl (by first | exact .inl rfl | assumption) rfl (by first | omega | (simp; omega)) rfl ?_ <;> intro _)
      | (refine W_sliceHiN rfl rfl (by first | exact .inl rfl | assumption) rfl (by first | omega | (simp; omega)) rfl ?_ <;> intro _)
      | (refine W_sliceLo rfl rfl (by first | exact .inl rfl | assumption) rfl (by first | omega | (simp; omega)) rfl ?_ <;> intro _)
      | (refine W_sliceHi rfl rfl (by first | exact .inl rfl | assumption) rfl (by first | omega | (simp; omega)) rfl ?_ <;> intro _)
      | refine W_skip rfl ?_
      | refine WS_nil ?_)
    | refine WC_seq ?_
    | refine WC_opsS ?_
    | refine WC_drawS ?_
    | refine WC_skip ?_
    | refine WC_condT rfl ?_
    | refine WC_condF rfl ?_
    | refine WC_block ?_
    | refine WC_exit ?_
    | refine WC_ret ?_
    | refine okF_intro rfl ?_)
  · exact fin_bool (by simp) rfl rfl
  · refine l_bounds c hc acts (by omega) .no acts [] [] rfl (PB.nil c) _ _ .isnil 0 ?_ ?_ ?_ rfl rfl rfl rfl (.inr rfl) rfl _ ?_
    · exact Nat.le_refl _
    · exact Nat.le_refl _
    · rfl
    · intro ρ st t' s' l' hl h5 h6
      rw [← upd_self h5, ← upd_self h6]
      repeat' (first
    | (refine I_WS ?_; first
      | (refine I_mov ?_; first
          | refine W_skip rfl ?_
          | refine W_mov (v := .int _ _) rfl rfl rfl ?_
          | refine W_mov (v := .bool _) rfl rfl rfl ?_
          | refine W_mov (v := .slice _ _ _) rfl rfl rfl ?_
          | refine W_mov (v := .agg _) rfl rfl rfl ?_
          | refine W_mov (v := .ptr _ _) rfl rfl rfl ?_
          | refine W_mov (v := .func _ _) rfl rfl rfl ?_
          | refine W_mov (v := .eptr _ _ _ _) rfl rfl rfl ?_
          | refine W_mov (v := .rs _ _ _ _ _) rfl rfl rfl ?_
          | refine W_mov (v := .tuple _) rfl rfl rfl ?_
          | refine W_mov (v := .map _) rfl rfl rfl ?_
          | refine W_mov (v := .str _) rfl rfl rfl ?_
          | refine W_mov (v := .nilptr) rfl rfl rfl ?_)
      | (refine I_bin ?_; first
          | refine W_skip rfl ?_
          | refine W_lssT rfl rfl rfl rfl (by omega) ?_
          | refine W_lssF rfl rfl rfl rfl (by omega) ?_
          | (refine W_lss rfl rfl rfl rfl ?_ ?_ <;> intro _)
          | refine W_leqT rfl rfl rfl rfl (by omega) ?_
          | refine W_leqF rfl rfl rfl rfl (by omega) ?_
          | (refine W_leq rfl rfl rfl rfl ?_ ?_ <;> intro _)
          | refine W_gtrT rfl rfl rfl rfl (by omega) ?_
          | refine W_gtrF rfl rfl rfl rfl (by omega) ?_
          | (refine W_gtr rfl rfl rfl rfl ?_ ?_ <;> intro _)
          | refine W_neqT rfl rfl rfl rfl (by omega) ?_
          | refine W_neqF rfl rfl rfl rfl (by omega) ?_
          | (refine W_neq rfl rfl rfl rfl ?_ ?_ <;> intro _)
          | refine W_add rfl rfl rfl rfl (by first | exact w64 (by omega) | rfl) ?_
          | refine W_sub rfl rfl rfl rfl (by first | exact w64 (by omega) | rfl) ?_)
      | (refine I_load ?_; first
          | refine W_skip rfl ?_
          | refine W_load (agg := false) (d := .int _ _) rfl rfl rfl (bxc rfl) (by first | exact Nat.zero_le _ | assumption | exact Nat.le_trans hlim (Nat.zero_le _) | omega) rfl ?_
          | refine W_load (agg := false) (d := .bool _) rfl rfl rfl (bxc rfl) (by first | exact Nat.zero_le _ | assumption | exact Nat.le_trans hlim (Nat.zero_le _) | omega) rfl ?_
          | refine W_load (agg := false) (d := .slice _ _ _) rfl rfl rfl (bxc rfl) (by first | exact Nat.zero_le _ | assumption | exact Nat.le_trans hlim (Nat.zero_le _) | omega) rfl ?_
          | refine W_load (agg := false) (d := .ptr _ _) rfl rfl rfl (bxc rfl) (by first | exact Nat.zero_le _ | assumption | exact Nat.le_trans hlim (Nat.zero_le _) | omega) rfl ?_
          | refine W_load (agg := false) (d := .func _ _) rfl rfl rfl (bxc rfl) (by first | exact Nat.zero_le _ | assumption | exact Nat.le_trans hlim (Nat.zero_le _) | omega) rfl ?_
          | refine W_load (agg := true) (d := .agg [_, _, _]) rfl rfl rfl (bxc rfl) (by first | exact Nat.zero_le _ | assumption | exact Nat.le_trans hlim (Nat.zero_le _) | omega) rfl ?_
          | refine W_load (agg := true) (d := .agg [_, _, _, _, _, _]) rfl rfl rfl (bxc rfl) (by first | exact Nat.zero_le _ | assumption | exact Nat.le_trans hlim (Nat.zero_le _) | omega) rfl ?_
          | refine W_load (agg := false) (d := .int _ _) rfl rfl rfl (bxs (by omega) (bxc rfl)) (by first | exact Nat.zero_le _ | assumption | exact Nat.le_trans hlim (Nat.zero_le _) | omega) rfl ?_
          | refine W_load (agg := false) (d := .bool _) rfl rfl rfl (bxs (by omega) (bxc rfl)) (by first | exact Nat.zero_le _ | assumption | exact Nat.le_trans hlim (Nat.zero_le _) | omega) rfl ?_
          | refine W_load (agg := false) (d := .slice _ _ _) rfl rfl rfl (bxs (by omega) (bxc rfl)) (by first | exact Nat.zero_le _ | assumption | exact Nat.le_trans hlim (Nat.zero_le _) | omega) rfl ?_
          | refine W_load (agg := false) (d := .ptr _ _) rfl rfl rfl (bxs (by omega) (bxc rfl)) (by first | exact Nat.zero_le _ | assumption | exact Nat.le_trans hlim (Nat.zero_le _) | omega) rfl ?_
          | refine W_load (agg := false) (d := .func _ _) rfl rfl rfl (bxs (by omega) (bxc rfl)) (by first | exact Nat.zero_le _ | assumption | exact Nat.le_trans hlim (Nat.zero_le _) | omega) rfl ?_
          | refine W_load (agg := true) (d := .agg [_, _, _]) rfl rfl rfl (bxs (by omega) (bxc rfl)) (by first | exact Nat.zero_le _ | assumption | exact Nat.le_trans hlim (Nat.zero_le _) | omega) rfl ?_
          | refine W_load (agg := true) (d := .agg [_, _, _, _, _, _]) rfl rfl rfl (bxs (by omega) (bxc rfl)) (by first | exact Nat.zero_le _ | assumption | exact Nat.le_trans hlim (Nat.zero_le _) | omega) rfl ?_
          | refine W_load (agg := false) (d := .int _ _) rfl rfl rfl rfl (by first | exact Nat.zero_le _ | omega) rfl ?_
          | refine W_load (agg := false) (d := .bool _) rfl rfl rfl rfl (by first | exact Nat.zero_le _ | omega) rfl ?_
          | refine W_load (agg := false) (d := .slice _ _ _) rfl rfl rfl rfl (by first | exact Nat.zero_le _ | omega) rfl ?_
          | refine W_load (agg := false) (d := .ptr _ _) rfl rfl rfl rfl (by first | exact Nat.zero_le _ | omega) rfl ?_
          | refine W_load (agg := false) (d := .func _ _) rfl rfl rfl rfl (by first | exact Nat.zero_le _ | omega) rfl ?_
          | refine W_load (agg := true) (d := .agg [_, _, _]) rfl rfl rfl rfl (by first | exact Nat.zero_le _ | omega) rfl ?_
          | refine W_load (agg := true) (d := .agg [_, _, _, _, _, _]) rfl rfl rfl rfl (by first | exact Nat.zero_le _ | omega) rfl ?_)
      | (refine I_call ?_; first
          | refine W_skip rfl ?_)
      | (refine I_pick ?_; first
          | refine W_pick (v := .int _ _) rfl rfl rfl rfl ?_
          | refine W_pick (v := .bool _) rfl rfl rfl rfl ?_
          | refine W_pick (v := .slice _ _ _) rfl rfl rfl rfl ?_
          | refine W_pick (v := .agg _) rfl rfl rfl rfl ?_
          | refine W_skip rfl ?_)
      | (refine I_extract ?_; first
          | refine W_extract (d := .int _ _) rfl rfl rfl rfl ?_
          | refine W_extract (d := .bool _) rfl rfl rfl rfl ?_
          | refine W_extract (d := .slice _ _ _) rfl rfl rfl rfl ?_
          | refine W_extract (d := .agg _) rfl rfl rfl rfl ?_
          | refine W_extract (d := .ptr _ _) rfl rfl rfl rfl ?_
          | refine W_extract (d := .func _ _) rfl rfl rfl rfl ?_
          | refine W_skip rfl ?_)
      | (refine I_box ?_; first
          | refine W_boxA rfl rfl rfl rfl rfl ?_
          | refine W_box1 (v := .slice _ _ _) rfl rfl rfl rfl rfl ?_
          | refine W_box1 (v := .int _ _) rfl rfl rfl rfl rfl ?_
          | refine W_box1 (v := .bool _) rfl rfl rfl rfl rfl ?_
          | refine W_box1 (v := .ptr _ _) rfl rfl rfl rfl rfl ?_
          | refine W_skip rfl ?_)
      | (refine I_store ?_; first
          | refine W_store (cs' := [_, _, _]) rfl rfl (upd_same _ _ _) rfl (by first | exact Nat.zero_le _ | assumption | exact Nat.le_trans hlim (Nat.zero_le _) | omega) rfl rfl rfl ?_
          | refine W_store (cs' := [_, _, _]) rfl rfl ((upd_ne _ _ (by omega)).trans (upd_same _ _ _)) rfl (by first | exact Nat.zero_le _ | assumption | exact Nat.le_trans hlim (Nat.zero_le _) | omega) rfl rfl rfl ?_
          | refine W_store (cs' := [_, _, _, _, _, _]) rfl rfl (upd_same _ _ _) rfl (by first | exact Nat.zero_le _ | assumption | exact Nat.le_trans hlim (Nat.zero_le _) | omega) rfl rfl rfl ?_
          | refine W_store (cs' := [_, _, _, _, _, _]) rfl rfl ((upd_ne _ _ (by omega)).trans (upd_same _ _ _)) rfl (by first | exact Nat.zero_le _ | assumption | exact Nat.le_trans hlim (Nat.zero_le _) | omega) rfl rfl rfl ?_
          | refine W_store (cs' := [_, _, _]) rfl rfl rfl rfl (by first | exact Nat.zero_le _ | omega) rfl rfl rfl ?_
          | refine W_store (cs' := [_, _, _, _, _, _]) rfl rfl rfl rfl (by first | exact Nat.zero_le _ | omega) rfl rfl rfl ?_
          | refine W_skip0 rfl ?_)
      | refine W_not rfl rfl rfl ?_
      | refine W_lenM rfl rfl rfl ?_
      | refine W_lenS rfl rfl rfl ?_
      | refine W_lenR rfl rfl rfl ?_
      | refine W_faddr rfl rfl rfl ?_
      | refine W_faddrE rfl rfl rfl ?_
      | refine W_alloc rfl rfl ?_
      | refine W_iaddrA rfl rfl rfl rfl (by decide) ?_
      | refine W_iaddrAE rfl rfl rfl rfl (by decide) ?_
      | refine W_skip rfl ?_
      | refine W_iaddr rfl rfl rfl rfl (by first | rfl | exact sz_of (by assumption) (by omega)) (by first | decide | (simp only [List.length_map]; omega)) ?_
      | refine W_iaddrRN rfl rfl rfl rfl rfl (by decide) ?_
      | refine W_iaddrR rfl rfl rfl rfl (by first | decide | omega) ?_
      | (refine W_sliceLoN rfl rfl (by first | exact .inl rfl | assumption) rfl (by first | omega | (simp; omega)) rfl ?_ <;> intro _)
      | (refine W_sliceHiN rfl rfl (by first | exact .inl rfl | assumption) rfl (by first | omega | (simp; omega)) rfl ?_ <;> intro _)
      | (refine W_sliceLo rfl rfl (by first | exact .inl rfl | assumption) rfl (by first | omega | (simp; omega)) rfl ?_ <;> intro _)
      | (refine W_sliceHi rfl rfl (by first | exact .inl rfl | assumption) rfl (by first | omega | (simp; omega)) rfl ?_ <;> intro _)
      | refine W_skip rfl ?_
      | refine WS_nil ?_)
    | refine WC_seq ?_
    | refine WC_opsS ?_
    | refine WC_drawS ?_
    | refine WC_skip ?_
    | refine WC_condT rfl ?_
    | refine WC_condF rfl ?_
    | refine WC_block ?_
    | refine WC_exit ?_
    | refine WC_ret ?_
    | refine okF_intro rfl ?_)
      exact fin_bool (by simp) rfl rfl
  · exact fin_bool (by simp) rfl rfl
end Go.Led
