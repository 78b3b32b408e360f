/-
  LedgerRight, as the evaluator runs it.
-/
import Derived.Test.YtbmhgigljbikhaaLedLedE
set_option linter.unusedVariables false
set_option linter.unusedSimpArgs false
set_option linter.unnecessarySimpa false
namespace Go.Led
open Go.Ev
set_option linter.unusedVariables false
set_option linter.unusedSimpArgs false
def t_feluccalaw09_LedgerRight_s0 : C := (.seq (.draw [[], [], [1], [2, 1], [0, 3, 2, 1], [], [4, 0, 3, 2, 1, 5]] [⟨(.some 149), .none, .false, (.mov (.tmp 10))⟩, ⟨(.some 150), .none, .false, (.faddr 1 (.tmp 9))⟩, ⟨(.some 151), .none, .false, (.faddr 0 (.tmp 150))⟩, ⟨(.some 152), .none, .false, (.load .false 1 (.tmp 151))⟩, ⟨(.some 153), .none, .false, (.call (.lit (.func 36 [])) [(.tmp 149), (.tmp 152)])⟩, ⟨(.some 154), .none, .false, (.load .true 3 (.tmp 13))⟩, ⟨(.some 155), .none, .false, (.eqlP .true 3 [0, 1, 2] (.tmp 153) (.tmp 154))⟩]) (.cond (.tmp 155) (.seq (.ops .false [⟨(.some 6), .none, .false, (.mov (.lit (.bool .false)))⟩]) .ret) .skip))
def t_feluccalaw09_LedgerRight_s1 : C := (.seq (.draw [[], [0], [], [2], [3, 2], [4, 3, 2], [], [5, 4, 3, 2, 6], [1, 0, 2, 3, 4, 5, 6, 7], [8, 1, 0, 2, 3, 4, 5, 6, 7]] [⟨(.some 140), .none, .false, (.faddr 7 (.tmp 9))⟩, ⟨(.some 141), .none, .false, (.load .false 1 (.tmp 140))⟩, ⟨(.some 142), .none, .false, (.faddr 7 (.tmp 9))⟩, ⟨(.some 143), .none, .false, (.load .false 1 (.tmp 142))⟩, ⟨(.some 144), .none, .false, (.iaddrA 3 1 (.tmp 13) (.tmp 143))⟩, ⟨(.some 145), .none, .false, (.load .false 1 (.tmp 144))⟩, ⟨(.some 146), .none, .false, (.mov (.tmp 12))⟩, ⟨(.some 147), .none, .false, (.bin .add (.tmp 145) (.tmp 146))⟩, ⟨(.some 148), .none, .false, (.iaddrA 3 1 (.tmp 13) (.tmp 141))⟩, ⟨.none, .none, .false, (.store 1 (.tmp 148) (.tmp 147))⟩]) t_feluccalaw09_LedgerRight_s0)
def t_feluccalaw09_LedgerRight_s2 : C := (.seq (.ops .false [⟨(.some 116), .none, .false, (.mov (.tmp 0))⟩, ⟨(.some 117), .none, .false, (.faddr 1 (.tmp 9))⟩, ⟨(.some 118), .none, .false, (.faddr 0 (.tmp 117))⟩, ⟨(.some 119), .none, .false, (.load .false 1 (.tmp 118))⟩, ⟨(.some 120), .none, .false, (.call (.lit (.func 36 [])) [(.tmp 116), (.tmp 119)])⟩, ⟨(.some 13), .none, .false, (.alloc [(.int .i64 0), (.int .i64 0), (.int .i64 0)])⟩, ⟨.none, .none, .false, (.store 3 (.tmp 13) (.tmp 120))⟩]) (.seq (.seq (.ops .false [⟨(.some 121), .none, .false, (.mov (.tmp 11))⟩, ⟨(.some 122), .none, .false, (.mov (.tmp 121))⟩, ⟨(.some 123), (.some (122, .true)), .false, (.faddr 0 (.tmp 9))⟩, ⟨(.some 124), (.some (122, .true)), .false, (.load .false 1 (.tmp 123))⟩, ⟨(.some 125), (.some (122, .true)), .false, (.bin .eql (.tmp 124) (.lit (.int .i64 1)))⟩, ⟨(.some 126), (.some (122, .true)), .false, (.mov (.tmp 125))⟩, ⟨(.some 127), (.some (126, .false)), .false, (.faddr 0 (.tmp 9))⟩, ⟨(.some 128), (.some (126, .false)), .false, (.load .false 1 (.tmp 127))⟩, ⟨(.some 129), (.some (126, .false)), .false, (.bin .eql (.tmp 128) (.lit (.int .i64 2)))⟩, ⟨(.some 130), (.some (122, .true)), .false, (.pick (.tmp 126) (.lit (.bool .true)) (.tmp 129))⟩, ⟨(.some 131), .none, .false, (.pick (.tmp 122) (.tmp 130) (.lit (.bool .false)))⟩]) (.cond (.tmp 131) (.seq (.seq (.ops .false [⟨(.some 132), .none, .false, (.faddr 7 (.tmp 9))⟩, ⟨(.some 133), .none, .false, (.load .false 1 (.tmp 132))⟩, ⟨(.some 134), .none, .false, (.bin .lss (.tmp 133) (.lit (.int .i64 0)))⟩, ⟨(.some 135), .none, .false, (.mov (.tmp 134))⟩, ⟨(.some 136), (.some (135, .false)), .false, (.faddr 7 (.tmp 9))⟩, ⟨(.some 137), (.some (135, .false)), .false, (.load .false 1 (.tmp 136))⟩, ⟨(.some 138), (.some (135, .false)), .false, (.bin .gtr (.tmp 137) (.lit (.int .i64 2)))⟩, ⟨(.some 139), .none, .false, (.pick (.tmp 135) (.lit (.bool .true)) (.tmp 138))⟩]) (.cond (.tmp 139) (.seq (.ops .false [⟨(.some 6), .none, .false, (.mov (.lit (.bool .false)))⟩]) .ret) .skip)) t_feluccalaw09_LedgerRight_s1) .skip)) (.ops .false [⟨(.some 156), .none, .false, (.mov (.tmp 10))⟩, ⟨(.some 0), .none, .false, (.mov (.tmp 156))⟩])))
def t_feluccalaw09_LedgerRight_s3 : C := (.seq (.seq (.ops .false [⟨(.some 87), .none, .false, (.mov (.tmp 10))⟩, ⟨(.some 88), .none, .false, (.call (.lit (.func 25 [])) [(.tmp 87)])⟩, ⟨(.some 89), .none, .false, (.not (.tmp 88))⟩, ⟨(.some 90), .none, .false, (.mov (.tmp 89))⟩, ⟨(.some 91), (.some (90, .false)), .false, (.mov (.tmp 11))⟩, ⟨(.some 92), (.some (90, .false)), .false, (.not (.tmp 91))⟩, ⟨(.some 93), (.some (90, .false)), .false, (.mov (.tmp 92))⟩, ⟨(.some 94), (.some (93, .true)), .false, (.mov (.tmp 10))⟩, ⟨(.some 95), (.some (93, .true)), .false, (.mov (.tmp 0))⟩, ⟨(.some 96), (.some (93, .true)), .false, (.call (.lit (.func 27 [])) [(.tmp 94), (.tmp 95)])⟩, ⟨(.some 97), (.some (93, .true)), .false, (.not (.tmp 96))⟩, ⟨(.some 98), (.some (90, .false)), .false, (.pick (.tmp 93) (.tmp 97) (.lit (.bool .false)))⟩, ⟨(.some 99), .none, .false, (.pick (.tmp 90) (.lit (.bool .true)) (.tmp 98))⟩, ⟨(.some 100), .none, .false, (.mov (.tmp 99))⟩, ⟨(.some 101), (.some (100, .false)), .false, (.mov (.tmp 2))⟩, ⟨(.some 102), (.some (100, .false)), .false, (.faddr 1 (.tmp 9))⟩, ⟨(.some 103), (.some (100, .false)), .false, (.faddr 0 (.tmp 102))⟩, ⟨(.some 104), (.some (100, .false)), .false, (.load .false 1 (.tmp 103))⟩, ⟨(.some 105), (.some (100, .false)), .false, (.bin .neq (.tmp 101) (.tmp 104))⟩, ⟨(.some 106), (.some (100, .false)), .false, (.mov (.tmp 105))⟩, ⟨(.some 107), (.some (106, .true)), .false, (.mov (.tmp 10))⟩, ⟨(.some 108), (.some (106, .true)), .false, (.mov (.tmp 2))⟩, ⟨(.some 109), (.some (106, .true)), .false, (.call (.lit (.func 36 [])) [(.tmp 107), (.tmp 108)])⟩, ⟨(.some 110), (.some (106, .true)), .false, (.mov (.tmp 0))⟩, ⟨(.some 111), (.some (106, .true)), .false, (.mov (.tmp 2))⟩, ⟨(.some 112), (.some (106, .true)), .false, (.call (.lit (.func 36 [])) [(.tmp 110), (.tmp 111)])⟩, ⟨(.some 113), (.some (106, .true)), .false, (.eqlP .true 3 [0, 1, 2] (.tmp 109) (.tmp 112))⟩, ⟨(.some 114), (.some (100, .false)), .false, (.pick (.tmp 106) (.tmp 113) (.lit (.bool .false)))⟩, ⟨(.some 115), .none, .false, (.pick (.tmp 100) (.lit (.bool .true)) (.tmp 114))⟩]) (.cond (.tmp 115) (.seq (.ops .false [⟨(.some 6), .none, .false, (.mov (.lit (.bool .false)))⟩]) .ret) .skip)) t_feluccalaw09_LedgerRight_s2)
def t_feluccalaw09_LedgerRight_s4 : C := (.seq (.block 1 (.seq (.ops .false [⟨(.some 35), .none, .false, (.mov (.tmp 1))⟩, ⟨(.some 36), .none, .false, (.mov (.tmp 8))⟩, ⟨(.some 37), .none, .false, (.iaddrS 9 (.tmp 35) (.tmp 36))⟩, ⟨(.some 38), .none, .false, (.load .true 9 (.tmp 37))⟩, ⟨(.some 9), .none, .false, (.alloc [(.int .i64 0), (.int .i64 0), (.int .i64 0), (.int .i64 0), (.int .i64 0), (.int .i64 0), (.int .i64 0), (.int .i64 0), (.int .i64 0)])⟩, ⟨.none, .none, .false, (.store 9 (.tmp 9) (.tmp 38))⟩]) (.seq (.ops .false [⟨(.some 39), .none, .false, (.mov (.tmp 0))⟩, ⟨(.some 10), .none, .false, (.mov (.tmp 39))⟩]) (.seq (.ops .false [⟨(.some 11), .none, .false, (.mov (.lit (.bool .true)))⟩]) (.seq (.ops .false [⟨(.some 40), .none, .false, (.faddr 8 (.tmp 9))⟩, ⟨(.some 41), .none, .false, (.load .false 1 (.tmp 40))⟩, ⟨(.some 12), .none, .false, (.mov (.tmp 41))⟩]) (.seq (.seq (.ops .false [⟨(.some 42), .none, .false, (.faddr 0 (.tmp 9))⟩, ⟨(.some 43), .none, .false, (.load .false 1 (.tmp 42))⟩]) (.block 2 (.seq (.ops .false [⟨(.some 58), .none, .false, (.bin .eql (.tmp 43) (.lit (.int .i64 1)))⟩, ⟨(.some 57), .none, .false, (.mov (.tmp 58))⟩]) (.cond (.tmp 57) (.ops .false [⟨(.some 60), .none, .false, (.mov (.tmp 0))⟩, ⟨(.some 61), .none, .false, (.faddr 1 (.tmp 9))⟩, ⟨(.some 62), .none, .false, (.load .true 6 (.tmp 61))⟩, ⟨(.some 63), .none, .false, (.faddr 7 (.tmp 9))⟩, ⟨(.some 64), .none, .false, (.load .false 1 (.tmp 63))⟩, ⟨(.some 65), .none, .false, (.faddr 8 (.tmp 9))⟩, ⟨(.some 66), .none, .false, (.load .false 1 (.tmp 65))⟩, ⟨(.some 67), .none, .false, (.call (.lit (.func 32 [])) [(.tmp 60), (.tmp 62), (.tmp 64), (.tmp 66)])⟩, ⟨(.some 59), .none, .false, (.mov (.tmp 67))⟩, ⟨(.some 68), .none, .false, (.extract (.tmp 59) 0)⟩, ⟨(.some 69), .none, .false, (.extract (.tmp 59) 1)⟩, ⟨(.some 10), .none, .false, (.mov (.tmp 68))⟩, ⟨(.some 11), .none, .false, (.mov (.tmp 69))⟩]) (.seq (.ops .false [⟨(.some 71), .none, .false, (.bin .eql (.tmp 43) (.lit (.int .i64 2)))⟩, ⟨(.some 70), .none, .false, (.mov (.tmp 71))⟩]) (.cond (.tmp 70) (.seq (.ops .false [⟨(.some 73), .none, .false, (.mov (.tmp 0))⟩, ⟨(.some 74), .none, .false, (.faddr 1 (.tmp 9))⟩, ⟨(.some 75), .none, .false, (.faddr 0 (.tmp 74))⟩, ⟨(.some 76), .none, .false, (.load .false 1 (.tmp 75))⟩, ⟨(.some 77), .none, .false, (.faddr 7 (.tmp 9))⟩, ⟨(.some 78), .none, .false, (.load .false 1 (.tmp 77))⟩, ⟨(.some 79), .none, .false, (.faddr 8 (.tmp 9))⟩, ⟨(.some 80), .none, .false, (.load .false 1 (.tmp 79))⟩, ⟨(.some 81), .none, .false, (.call (.lit (.func 30 [])) [(.tmp 73), (.tmp 76), (.tmp 78), (.tmp 80)])⟩, ⟨(.some 72), .none, .false, (.mov (.tmp 81))⟩, ⟨(.some 82), .none, .false, (.extract (.tmp 72) 0)⟩, ⟨(.some 83), .none, .false, (.extract (.tmp 72) 1)⟩, ⟨(.some 10), .none, .false, (.mov (.tmp 82))⟩, ⟨(.some 11), .none, .false, (.mov (.tmp 83))⟩]) (.ops .false [⟨(.some 84), .none, .false, (.faddr 8 (.tmp 9))⟩, ⟨(.some 85), .none, .false, (.load .false 1 (.tmp 84))⟩, ⟨(.some 86), .none, .false, (.neg (.tmp 85))⟩, ⟨(.some 12), .none, .false, (.mov (.tmp 86))⟩])) (.seq (.ops .false [⟨(.some 44), .none, .false, (.mov (.tmp 0))⟩, ⟨(.some 45), .none, .false, (.faddr 1 (.tmp 9))⟩, ⟨(.some 46), .none, .false, (.faddr 0 (.tmp 45))⟩, ⟨(.some 47), .none, .false, (.load .false 1 (.tmp 46))⟩, ⟨(.some 48), .none, .false, (.bslice 1 [(.tmp 47)])⟩, ⟨(.some 49), .none, .false, (.call (.lit (.func 34 [])) [(.tmp 44), (.tmp 48)])⟩, ⟨(.some 10), .none, .false, (.mov (.tmp 49))⟩]) (.seq (.ops .false [⟨(.some 50), .none, .false, (.mov (.tmp 10))⟩, ⟨(.some 51), .none, .false, (.faddr 1 (.tmp 9))⟩, ⟨(.some 52), .none, .false, (.faddr 0 (.tmp 51))⟩, ⟨(.some 53), .none, .false, (.load .false 1 (.tmp 52))⟩, ⟨(.some 54), .none, .false, (.call (.lit (.func 36 [])) [(.tmp 50), (.tmp 53)])⟩, ⟨(.some 55), .none, .false, (.build [(.int .i64 0), (.int .i64 0), (.int .i64 0)] [])⟩, ⟨(.some 56), .none, .false, (.eqlP .true 3 [0, 1, 2] (.tmp 54) (.tmp 55))⟩]) (.cond (.tmp 56) (.seq (.ops .false [⟨(.some 6), .none, .false, (.mov (.lit (.bool .false)))⟩]) .ret) .skip))))))))) t_feluccalaw09_LedgerRight_s3)))))) (.ops .false [⟨(.some 33), .none, .false, (.mov (.tmp 8))⟩, ⟨(.some 34), .none, .false, (.bin .add (.tmp 33) (.lit (.int .i64 1)))⟩, ⟨(.some 8), .none, .false, (.mov (.tmp 34))⟩]))
def t_feluccalaw09_LedgerRight_s5 : C := (.seq (.ops .false [⟨(.some 157), .none, .false, (.mov (.tmp 7))⟩, ⟨(.some 6), .none, .false, (.mov (.tmp 157))⟩]) .ret)
def t_feluccalaw09_LedgerRight_s6 : C := (.seq (.seq (.ops .false [⟨(.some 8), .none, .false, (.mov (.lit (.int .i64 0)))⟩]) (.block 0 (.loop (.seq (.seq (.ops .false [⟨(.some 29), .none, .false, (.mov (.tmp 8))⟩, ⟨(.some 30), .none, .false, (.mov (.tmp 1))⟩, ⟨(.some 31), .none, .false, (.lenS (.tmp 30))⟩, ⟨(.some 32), .none, .false, (.bin .lss (.tmp 29) (.tmp 31))⟩]) (.cond (.tmp 32) .skip (.exit 0))) t_feluccalaw09_LedgerRight_s4)))) t_feluccalaw09_LedgerRight_s5)
theorem W_neqPT {Γ : Nat → Option FD} {ρ : Nat → D} {st : Store} {dr : Bool} {R : (Nat → D) → Store → List (Bool × Bool) → Prop} {l : List Op1} {g : Option (Nat × Bool)} {mv : Bool} {k : Nat} {x y : A} {κ : IntKind} {a b c x' y' z' : Int} (hg : guardV ρ g = some true) (hm : mv = false) (hx : x.ev ρ = .agg [.int κ a, .int κ b, .int κ c]) (hy : y.ev ρ = .agg [.int κ x', .int κ y', .int κ z']) (h1 : a = x') (h2 : b = y') (h3 : c = z')
    (h : WS Γ dr l (upd ρ k (.bool false)) st (nx (false, false) R)) : WS Γ dr (⟨some k, g, mv, .eqlP true 3 [0, 1, 2] x y⟩ :: l) ρ st R :=
  W_neqP hg hm hx hy rfl rfl (eqAt3 _ _ _ _ _ _) (fun _ => h) (fun hf => absurd ⟨h1, h2, h3⟩ (of_decide_eq_false hf))
set_option maxHeartbeats 8000000 in
theorem l_rest (l m : List Bk) (a : Ac) (id by' : Int) (ok : Bool) (acts : D) (n8 : Int) (tl tm : Tok) (sl sm : Nat) (hsl : sl = 4 ∨ l = []) (hsm : sm = 4 ∨ m = []) (p : Nat)
    (hRm : ∀ (t : Tok) (sz : Nat), (sz = 4 ∨ m = []) → EvP Γ 25 [.slice t sz (m.map Bk.e)] (.bool true))
    (hS : ∀ (t t' : Tok) (sa sb : Nat), (sa = 4 ∨ m = []) → (sb = 4 ∨ l = []) → EvP Γ 27 [.slice t sa (m.map Bk.e), .slice t' sb (l.map Bk.e)] (.bool (decide (m = l))))
    (hUm : ∀ (i : Int) (t : Tok) (sz : Nat), (sz = 4 ∨ m = []) → EvP Γ 36 [.slice t sz (m.map Bk.e), .int .i64 i] (.agg [.int .i64 (row m i).u0, .int .i64 (row m i).u1, .int .i64 (row m i).u2]))
    (hUl : ∀ (i : Int) (t : Tok) (sz : Nat), (sz = 4 ∨ l = []) → EvP Γ 36 [.slice t sz (l.map Bk.e), .int .i64 i] (.agg [.int .i64 (row l i).u0, .int .i64 (row l i).u1, .int .i64 (row l i).u2]))
    (h1 : ok = false → m = l) (h2 : id ≠ a.c.id → row m id = row l id) (h3 : ok = true → (a.do' = 1 ∨ a.do' = 2) → (0 ≤ a.k ∧ a.k < 3) ∧ row m a.c.id = (row l a.c.id).plus a.k by' ∧ 0 ≤ (row l a.c.id).at a.k + by' ∧ (row l a.c.id).at a.k + by' ≤ 4611686018427387904)
    (ρ : Nat → D) (st : Store) (hlim : st.lim ≤ 0) (hpl : p < st.next) (hbp : (st.boxes p).bind Box.cs = some [.int .i64 a.do', .int .i64 a.c.id, .int .i64 a.c.fr, .int .i64 a.c.to, .int .i64 a.c.st, .int .i64 a.c.en, .int .i64 a.c.ra, .int .i64 a.k, .int .i64 a.n])
    (e0 : ρ 0 = .slice tl sl (l.map Bk.e)) (e1 : ρ 1 = acts) (e2 : ρ 2 = .int .i64 id) (e7 : ρ 7 = .bool true) (e8 : ρ 8 = .int .i64 n8) (e9 : ρ 9 = .ptr p 0) (e10 : ρ 10 = .slice tm sm (m.map Bk.e)) (e11 : ρ 11 = .bool ok) (e12 : ρ 12 = .int .i64 by') (Q : X → (Nat → D) → Store → Prop)
    (hQ : ∀ ρ' st', st'.lim ≤ 0 → ρ' 0 = .slice tm sm (m.map Bk.e) → ρ' 1 = acts → ρ' 2 = .int .i64 id → ρ' 7 = .bool true → ρ' 8 = .int .i64 n8 → Q .normal ρ' st') : WC Γ t_feluccalaw09_LedgerRight_s3 ρ st Q := by
  have hpn : p ≠ st.next := Nat.ne_of_lt hpl
  have hlim2 : st.lim ≤ st.next := Nat.le_trans hlim (Nat.zero_le _)
  rw [← upd_self e0, ← upd_self e1, ← upd_self e2, ← upd_self e7, ← upd_self e8, ← upd_self e9, ← upd_self e10, ← upd_self e11, ← upd_self e12]
  clear e0 e1 e2 e7 e8 e9 e10 e11 e12
  have fin : ∀ ρ' st', st'.lim ≤ 0 → ρ' 0 = .slice tm sm (m.map Bk.e) → ρ' 1 = acts → ρ' 2 = .int .i64 id → ρ' 7 = .bool true → ρ' 8 = .int .i64 n8 → Q .normal ρ' st' := hQ
  clear hQ
  by_cases hid : id = a.c.id
  · subst hid
    clear h2
    cases ok with
    | false =>
      have hml := h1 rfl
      clear h1 h3
      repeat' (first
    | (refine I_WS ?_; first
      | refine W_neqPT rfl rfl rfl rfl (by first | rfl | (rw [h2]) | (rw [h3]; rfl)) (by first | rfl | (rw [h2]) | (rw [h3]; rfl)) (by first | rfl | (rw [h2]) | (rw [h3]; rfl)) ?_
      | (refine I_mov ?_; first
          | refine W_skip rfl ?_
          | refine W_mov (v := .int _ _) rfl rfl rfl ?_
          | refine W_mov (v := .bool _) rfl rfl rfl ?_
          | refine W_mov (v := .slice _ _ _) rfl rfl rfl ?_
          | refine W_mov (v := .agg _) rfl rfl rfl ?_
          | refine W_mov (v := .ptr _ _) rfl rfl rfl ?_
          | refine W_mov (v := .func _ _) rfl rfl rfl ?_
          | refine W_mov (v := .eptr _ _ _ _) rfl rfl rfl ?_
          | refine W_mov (v := .rs _ _ _ _ _) rfl rfl rfl ?_
          | refine W_mov (v := .tuple _) rfl rfl rfl ?_
          | refine W_mov (v := .map _) rfl rfl rfl ?_
          | refine W_mov (v := .str _) rfl rfl rfl ?_
          | refine W_mov (v := .nilptr) rfl rfl rfl ?_)
      | (refine I_bin ?_; first
          | refine W_skip rfl ?_
          | refine W_lssT rfl rfl rfl rfl (by omega) ?_
          | refine W_lssF rfl rfl rfl rfl (by omega) ?_
          | (refine W_lss rfl rfl rfl rfl ?_ ?_ <;> intro _)
          | refine W_gtrT rfl rfl rfl rfl (by omega) ?_
          | refine W_gtrF rfl rfl rfl rfl (by omega) ?_
          | (refine W_gtr rfl rfl rfl rfl ?_ ?_ <;> intro _)
          | refine W_eqlT rfl rfl rfl rfl (by omega) ?_
          | refine W_eqlF rfl rfl rfl rfl (by omega) ?_
          | (refine W_eql rfl rfl rfl rfl ?_ ?_ <;> intro _)
          | refine W_neqT rfl rfl rfl rfl (by omega) ?_
          | refine W_neqF rfl rfl rfl rfl (by omega) ?_
          | (refine W_neq rfl rfl rfl rfl ?_ ?_ <;> intro _)
          | refine W_add rfl rfl rfl rfl (by first | exact w64 (by omega) | rfl) ?_)
      | (refine I_load ?_; first
          | refine W_skip rfl ?_
          | refine W_load (agg := true) (d := .agg [_, _, _, _, _, _]) rfl rfl rfl hbp (Nat.le_trans hlim (Nat.zero_le _)) rfl ?_
          | refine W_load (agg := false) (d := .int _ _) rfl rfl rfl hbp (Nat.le_trans hlim (Nat.zero_le _)) rfl ?_
          | refine W_load (agg := true) (d := .agg [_, _, _, _, _, _]) rfl rfl rfl (bxs hpn hbp) (Nat.le_trans hlim (Nat.zero_le _)) rfl ?_
          | refine W_load (agg := false) (d := .int _ _) rfl rfl rfl (bxs hpn hbp) (Nat.le_trans hlim (Nat.zero_le _)) rfl ?_
          | refine W_load (agg := true) (d := .agg [_, _, _, _, _, _]) rfl rfl rfl (bxs hpn (bxs hpn hbp)) (Nat.le_trans hlim (Nat.zero_le _)) rfl ?_
          | refine W_load (agg := false) (d := .int _ _) rfl rfl rfl (bxs hpn (bxs hpn hbp)) (Nat.le_trans hlim (Nat.zero_le _)) rfl ?_
          | refine W_load (agg := true) (d := .agg [_, _, _, _, _, _]) rfl rfl rfl (bxs hpn (bxs hpn (bxs hpn hbp))) (Nat.le_trans hlim (Nat.zero_le _)) rfl ?_
          | refine W_load (agg := false) (d := .int _ _) rfl rfl rfl (bxs hpn (bxs hpn (bxs hpn hbp))) (Nat.le_trans hlim (Nat.zero_le _)) rfl ?_
          | refine W_load (agg := false) (d := .int _ _) rfl rfl rfl (bxc rfl) (by first | exact Nat.zero_le _ | assumption | exact Nat.le_trans hlim (Nat.zero_le _) | omega) rfl ?_
          | refine W_load (agg := false) (d := .bool _) rfl rfl rfl (bxc rfl) (by first | exact Nat.zero_le _ | assumption | exact Nat.le_trans hlim (Nat.zero_le _) | omega) rfl ?_
          | refine W_load (agg := false) (d := .slice _ _ _) rfl rfl rfl (bxc rfl) (by first | exact Nat.zero_le _ | assumption | exact Nat.le_trans hlim (Nat.zero_le _) | omega) rfl ?_
          | refine W_load (agg := false) (d := .ptr _ _) rfl rfl rfl (bxc rfl) (by first | exact Nat.zero_le _ | assumption | exact Nat.le_trans hlim (Nat.zero_le _) | omega) rfl ?_
          | refine W_load (agg := false) (d := .func _ _) rfl rfl rfl (bxc rfl) (by first | exact Nat.zero_le _ | assumption | exact Nat.le_trans hlim (Nat.zero_le _) | omega) rfl ?_
          | refine W_load (agg := true) (d := .agg [_, _, _]) rfl rfl rfl (bxc rfl) (by first | exact Nat.zero_le _ | assumption | exact Nat.le_trans hlim (Nat.zero_le _) | omega) rfl ?_
          | refine W_load (agg := true) (d := .agg [_, _, _, _, _, _]) rfl rfl rfl (bxc rfl) (by first | exact Nat.zero_le _ | assumption | exact Nat.le_trans hlim (Nat.zero_le _) | omega) rfl ?_
          | refine W_load (agg := true) (d := .agg [_, _, _, _, _, _, _, _, _]) rfl rfl rfl (bxc rfl) (by first | exact Nat.zero_le _ | assumption | exact Nat.le_trans hlim (Nat.zero_le _) | omega) rfl ?_
          | refine W_load (agg := false) (d := .int _ _) rfl rfl rfl (bxs (by omega) (bxc rfl)) (by first | exact Nat.zero_le _ | assumption | exact Nat.le_trans hlim (Nat.zero_le _) | omega) rfl ?_
          | refine W_load (agg := false) (d := .bool _) rfl rfl rfl (bxs (by omega) (bxc rfl)) (by first | exact Nat.zero_le _ | assumption | exact Nat.le_trans hlim (Nat.zero_le _) | omega) rfl ?_
          | refine W_load (agg := false) (d := .slice _ _ _) rfl rfl rfl (bxs (by omega) (bxc rfl)) (by first | exact Nat.zero_le _ | assumption | exact Nat.le_trans hlim (Nat.zero_le _) | omega) rfl ?_
          | refine W_load (agg := false) (d := .ptr _ _) rfl rfl rfl (bxs (by omega) (bxc rfl)) (by first | exact Nat.zero_le _ | assumption | exact Nat.le_trans hlim (Nat.zero_le _) | omega) rfl ?_
          | refine W_load (agg := false) (d := .func _ _) rfl rfl rfl (bxs (by omega) (bxc rfl)) (by first | exact Nat.zero_le _ | assumption | exact Nat.le_trans hlim (Nat.zero_le _) | omega) rfl ?_
          | refine W_load (agg := true) (d := .agg [_, _, _]) rfl rfl rfl (bxs (by omega) (bxc rfl)) (by first | exact Nat.zero_le _ | assumption | exact Nat.le_trans hlim (Nat.zero_le _) | omega) rfl ?_
          | refine W_load (agg := true) (d := .agg [_, _, _, _, _, _]) rfl rfl rfl (bxs (by omega) (bxc rfl)) (by first | exact Nat.zero_le _ | assumption | exact Nat.le_trans hlim (Nat.zero_le _) | omega) rfl ?_
          | refine W_load (agg := true) (d := .agg [_, _, _, _, _, _, _, _, _]) rfl rfl rfl (bxs (by omega) (bxc rfl)) (by first | exact Nat.zero_le _ | assumption | exact Nat.le_trans hlim (Nat.zero_le _) | omega) rfl ?_
          | refine W_load (agg := false) (d := .int _ _) rfl rfl rfl rfl (by first | exact Nat.zero_le _ | omega) rfl ?_
          | refine W_load (agg := false) (d := .bool _) rfl rfl rfl rfl (by first | exact Nat.zero_le _ | omega) rfl ?_
          | refine W_load (agg := false) (d := .slice _ _ _) rfl rfl rfl rfl (by first | exact Nat.zero_le _ | omega) rfl ?_
          | refine W_load (agg := false) (d := .ptr _ _) rfl rfl rfl rfl (by first | exact Nat.zero_le _ | omega) rfl ?_
          | refine W_load (agg := false) (d := .func _ _) rfl rfl rfl rfl (by first | exact Nat.zero_le _ | omega) rfl ?_
          | refine W_load (agg := true) (d := .agg [_, _, _]) rfl rfl rfl rfl (by first | exact Nat.zero_le _ | omega) rfl ?_
          | refine W_load (agg := true) (d := .agg [_, _, _, _, _, _]) rfl rfl rfl rfl (by first | exact Nat.zero_le _ | omega) rfl ?_
          | refine W_load (agg := true) (d := .agg [_, _, _, _, _, _, _, _, _]) rfl rfl rfl rfl (by first | exact Nat.zero_le _ | omega) rfl ?_)
      | (refine I_call ?_; first
          | refine W_skip rfl ?_
          | refine W_callBT rfl rfl rfl (hRm _ _ hsm) rfl rfl ?_
          | refine W_callBT rfl rfl rfl (hS _ _ _ _ hsm hsl) (decide_eq_true (by assumption)) rfl ?_
          | refine W_call rfl rfl rfl (hUm _ _ _ hsm) rfl rfl ?_
          | refine W_call rfl rfl rfl (hUl _ _ _ hsl) rfl rfl ?_)
      | (refine I_pick ?_; first
          | refine W_pick (v := .int _ _) rfl rfl rfl rfl ?_
          | refine W_pick (v := .bool _) rfl rfl rfl rfl ?_
          | refine W_pick (v := .slice _ _ _) rfl rfl rfl rfl ?_
          | refine W_pick (v := .agg _) rfl rfl rfl rfl ?_
          | refine W_skip rfl ?_)
      | (refine I_extract ?_; first
          | refine W_extract (d := .int _ _) rfl rfl rfl rfl ?_
          | refine W_extract (d := .bool _) rfl rfl rfl rfl ?_
          | refine W_extract (d := .slice _ _ _) rfl rfl rfl rfl ?_
          | refine W_extract (d := .agg _) rfl rfl rfl rfl ?_
          | refine W_extract (d := .ptr _ _) rfl rfl rfl rfl ?_
          | refine W_extract (d := .func _ _) rfl rfl rfl rfl ?_
          | refine W_skip rfl ?_)
      | (refine I_build ?_; first
          | refine W_build (cs := [_, _, _]) rfl rfl rfl ?_
          | refine W_build (cs := [_, _, _, _, _, _]) rfl rfl rfl ?_
          | refine W_build (cs := [_, _, _, _, _, _, _, _, _]) rfl rfl rfl ?_
          | refine W_skip rfl ?_)
      | (refine I_store ?_; first
          | refine W_store (cs' := [_, _, _]) rfl rfl (upd_same _ _ _) rfl (by first | exact Nat.zero_le _ | assumption | exact Nat.le_trans hlim (Nat.zero_le _) | omega) rfl rfl rfl ?_
          | refine W_store (cs' := [_, _, _]) rfl rfl ((upd_ne _ _ (by omega)).trans (upd_same _ _ _)) rfl (by first | exact Nat.zero_le _ | assumption | exact Nat.le_trans hlim (Nat.zero_le _) | omega) rfl rfl rfl ?_
          | refine W_store (cs' := [_, _, _, _, _, _]) rfl rfl (upd_same _ _ _) rfl (by first | exact Nat.zero_le _ | assumption | exact Nat.le_trans hlim (Nat.zero_le _) | omega) rfl rfl rfl ?_
          | refine W_store (cs' := [_, _, _, _, _, _]) rfl rfl ((upd_ne _ _ (by omega)).trans (upd_same _ _ _)) rfl (by first | exact Nat.zero_le _ | assumption | exact Nat.le_trans hlim (Nat.zero_le _) | omega) rfl rfl rfl ?_
          | refine W_store (cs' := [_, _, _, _, _, _, _, _, _]) rfl rfl (upd_same _ _ _) rfl (by first | exact Nat.zero_le _ | assumption | exact Nat.le_trans hlim (Nat.zero_le _) | omega) rfl rfl rfl ?_
          | refine W_store (cs' := [_, _, _, _, _, _, _, _, _]) rfl rfl ((upd_ne _ _ (by omega)).trans (upd_same _ _ _)) rfl (by first | exact Nat.zero_le _ | assumption | exact Nat.le_trans hlim (Nat.zero_le _) | omega) rfl rfl rfl ?_
          | refine W_store (cs' := [_, _, _]) rfl rfl rfl rfl (by first | exact Nat.zero_le _ | omega) rfl rfl rfl ?_
          | refine W_store (cs' := [_, _, _, _, _, _]) rfl rfl rfl rfl (by first | exact Nat.zero_le _ | omega) rfl rfl rfl ?_
          | refine W_store (cs' := [_, _, _, _, _, _, _, _, _]) rfl rfl rfl rfl (by first | exact Nat.zero_le _ | omega) rfl rfl rfl ?_
          | refine W_skip0 rfl ?_)
      | refine W_not rfl rfl rfl ?_
      | refine W_neg rfl rfl rfl (by first | exact w64 (by omega) | rfl) ?_
      | (refine W_eqlP rfl rfl rfl rfl rfl rfl (eqAt3 _ _ _ _ _ _) ?_ ?_ <;> intro hq)
      | (refine W_eqlP rfl rfl rfl rfl rfl rfl (eqAt4 _ _ _ _ _ _ _ _) ?_ ?_ <;> intro hq)
      | (refine W_neqP rfl rfl rfl rfl rfl rfl (eqAt3 _ _ _ _ _ _) ?_ ?_ <;> intro hq)
      | (refine W_neqP rfl rfl rfl rfl rfl rfl (eqAt4 _ _ _ _ _ _ _ _) ?_ ?_ <;> intro hq)
      | (refine W_eqlP rfl rfl rfl rfl rfl rfl rfl ?_ ?_ <;> intro _)
      | (refine W_neqP rfl rfl rfl rfl rfl rfl rfl ?_ ?_ <;> intro _)
      | refine W_lenM rfl rfl rfl ?_
      | refine W_lenS rfl rfl rfl ?_
      | refine W_lenR rfl rfl rfl ?_
      | refine W_faddr rfl rfl rfl ?_
      | refine W_faddrE rfl rfl rfl ?_
      | refine W_alloc rfl rfl ?_
      | refine W_iaddrA rfl rfl rfl rfl (by decide) ?_
      | refine W_iaddrAE rfl rfl rfl rfl (by decide) ?_
      | refine W_skip rfl ?_
      | refine W_iaddr rfl rfl rfl rfl (by first | rfl | exact sz_of (by assumption) (by omega)) (by first | decide | (simp only [List.length_map]; omega)) ?_
      | refine W_iaddrRN rfl rfl rfl rfl rfl (by decide) ?_
      | refine W_iaddrR rfl rfl rfl rfl (by first | decide | omega) ?_
      | refine W_bsliceS (ds := [.slice _ _ _]) (ys := [.slice _ _ _]) rfl rfl rfl rfl (by decide) rfl ?_
      | refine W_bsliceS (ds := [.slice _ _ _, .slice _ _ _]) (ys := [.slice _ _ _, .slice _ _ _]) rfl rfl rfl rfl (by decide) rfl ?_
      | refine W_bsliceS (ds := [.slice _ _ _, .slice _ _ _, .slice _ _ _]) (ys := [.slice _ _ _, .slice _ _ _, .slice _ _ _]) rfl rfl rfl rfl (by decide) rfl ?_
      | refine W_bslice (ys := []) rfl rfl rfl (by decide) rfl ?_
      | refine W_bslice (ys := [_]) rfl rfl rfl (by decide) rfl ?_
      | refine W_bslice (ys := [_, _]) rfl rfl rfl (by decide) rfl ?_
      | refine W_bslice (ys := [_, _, _]) rfl rfl rfl (by decide) rfl ?_
      | refine W_skip rfl ?_
      | refine WS_nil ?_)
    | refine WC_seq ?_
    | refine WC_opsS ?_
    | refine WC_drawS ?_
    | refine WC_skip ?_
    | refine WC_condT rfl ?_
    | refine WC_condF rfl ?_
    | refine WC_block ?_
    | refine WC_exit ?_
    | refine WC_ret ?_
    | refine okF_intro rfl ?_)
      all_goals exact fin _ _ hlim rfl rfl rfl rfl rfl
    | true =>
      clear h1 hS
      by_cases hdo : a.do' = 1 ∨ a.do' = 2
      · obtain ⟨hk, g3, h4, h5⟩ := h3 rfl hdo
        clear h3
        have h3 := g3
        clear g3
        have hk' : a.k = 0 ∨ a.k = 1 ∨ a.k = 2 := by omega
        rcases hk' with hk0 | hk0 | hk0
        all_goals
          rw [hk0] at h3 h4 h5 hbp
          clear hk hk0
          unfold Bk.at at h4 h5
          simp only [if_true, if_false, show ¬ ((1 : Int) = 0) by decide, show ¬ ((2 : Int) = 0) by decide, show ¬ ((2 : Int) = 1) by decide] at h4 h5
          rcases hdo with hdo | hdo
          all_goals
            repeat' (first
    | (refine I_WS ?_; first
      | refine W_neqPT rfl rfl rfl rfl (by first | rfl | (rw [h2]) | (rw [h3]; rfl)) (by first | rfl | (rw [h2]) | (rw [h3]; rfl)) (by first | rfl | (rw [h2]) | (rw [h3]; rfl)) ?_
      | (refine I_mov ?_; first
          | refine W_skip rfl ?_
          | refine W_mov (v := .int _ _) rfl rfl rfl ?_
          | refine W_mov (v := .bool _) rfl rfl rfl ?_
          | refine W_mov (v := .slice _ _ _) rfl rfl rfl ?_
          | refine W_mov (v := .agg _) rfl rfl rfl ?_
          | refine W_mov (v := .ptr _ _) rfl rfl rfl ?_
          | refine W_mov (v := .func _ _) rfl rfl rfl ?_
          | refine W_mov (v := .eptr _ _ _ _) rfl rfl rfl ?_
          | refine W_mov (v := .rs _ _ _ _ _) rfl rfl rfl ?_
          | refine W_mov (v := .tuple _) rfl rfl rfl ?_
          | refine W_mov (v := .map _) rfl rfl rfl ?_
          | refine W_mov (v := .str _) rfl rfl rfl ?_
          | refine W_mov (v := .nilptr) rfl rfl rfl ?_)
      | (refine I_bin ?_; first
          | refine W_skip rfl ?_
          | refine W_lssT rfl rfl rfl rfl (by omega) ?_
          | refine W_lssF rfl rfl rfl rfl (by omega) ?_
          | (refine W_lss rfl rfl rfl rfl ?_ ?_ <;> intro _)
          | refine W_gtrT rfl rfl rfl rfl (by omega) ?_
          | refine W_gtrF rfl rfl rfl rfl (by omega) ?_
          | (refine W_gtr rfl rfl rfl rfl ?_ ?_ <;> intro _)
          | refine W_eqlT rfl rfl rfl rfl (by omega) ?_
          | refine W_eqlF rfl rfl rfl rfl (by omega) ?_
          | (refine W_eql rfl rfl rfl rfl ?_ ?_ <;> intro _)
          | refine W_neqT rfl rfl rfl rfl (by omega) ?_
          | refine W_neqF rfl rfl rfl rfl (by omega) ?_
          | (refine W_neq rfl rfl rfl rfl ?_ ?_ <;> intro _)
          | refine W_add rfl rfl rfl rfl (by first | exact w64 (by omega) | rfl) ?_)
      | (refine I_load ?_; first
          | refine W_skip rfl ?_
          | refine W_load (agg := true) (d := .agg [_, _, _, _, _, _]) rfl rfl rfl hbp (Nat.le_trans hlim (Nat.zero_le _)) rfl ?_
          | refine W_load (agg := false) (d := .int _ _) rfl rfl rfl hbp (Nat.le_trans hlim (Nat.zero_le _)) rfl ?_
          | refine W_load (agg := true) (d := .agg [_, _, _, _, _, _]) rfl rfl rfl (bxs hpn hbp) (Nat.le_trans hlim (Nat.zero_le _)) rfl ?_
          | refine W_load (agg := false) (d := .int _ _) rfl rfl rfl (bxs hpn hbp) (Nat.le_trans hlim (Nat.zero_le _)) rfl ?_
          | refine W_load (agg := true) (d := .agg [_, _, _, _, _, _]) rfl rfl rfl (bxs hpn (bxs hpn hbp)) (Nat.le_trans hlim (Nat.zero_le _)) rfl ?_
          | refine W_load (agg := false) (d := .int _ _) rfl rfl rfl (bxs hpn (bxs hpn hbp)) (Nat.le_trans hlim (Nat.zero_le _)) rfl ?_
          | refine W_load (agg := true) (d := .agg [_, _, _, _, _, _]) rfl rfl rfl (bxs hpn (bxs hpn (bxs hpn hbp))) (Nat.le_trans hlim (Nat.zero_le _)) rfl ?_
          | refine W_load (agg := false) (d := .int _ _) rfl rfl rfl (bxs hpn (bxs hpn (bxs hpn hbp))) (Nat.le_trans hlim (Nat.zero_le _)) rfl ?_
          | refine W_load (agg := false) (d := .int _ _) rfl rfl rfl (bxc rfl) (by first | exact Nat.zero_le _ | assumption | exact Nat.le_trans hlim (Nat.zero_le _) | omega) rfl ?_
          | refine W_load (agg := false) (d := .bool _) rfl rfl rfl (bxc rfl) (by first | exact Nat.zero_le _ | assumption | exact Nat.le_trans hlim (Nat.zero_le _) | omega) rfl ?_
          | refine W_load (agg := false) (d := .slice _ _ _) rfl rfl rfl (bxc rfl) (by first | exact Nat.zero_le _ | assumption | exact Nat.le_trans hlim (Nat.zero_le _) | omega) rfl ?_
          | refine W_load (agg := false) (d := .ptr _ _) rfl rfl rfl (bxc rfl) (by first | exact Nat.zero_le _ | assumption | exact Nat.le_trans hlim (Nat.zero_le _) | omega) rfl ?_
          | refine W_load (agg := false) (d := .func _ _) rfl rfl rfl (bxc rfl) (by first | exact Nat.zero_le _ | assumption | exact Nat.le_trans hlim (Nat.zero_le _) | omega) rfl ?_
          | refine W_load (agg := true) (d := .agg [_, _, _]) rfl rfl rfl (bxc rfl) (by first | exact Nat.zero_le _ | assumption | exact Nat.le_trans hlim (Nat.zero_le _) | omega) rfl ?_
          | refine W_load (agg := true) (d := .agg [_, _, _, _, _, _]) rfl rfl rfl (bxc rfl) (by first | exact Nat.zero_le _ | assumption | exact Nat.le_trans hlim (Nat.zero_le _) | omega) rfl ?_
          | refine W_load (agg := true) (d := .agg [_, _, _, _, _, _, _, _, _]) rfl rfl rfl (bxc rfl) (by first | exact Nat.zero_le _ | assumption | exact Nat.le_trans hlim (Nat.zero_le _) | omega) rfl ?_
          | refine W_load (agg := false) (d := .int _ _) rfl rfl rfl (bxs (by omega) (bxc rfl)) (by first | exact Nat.zero_le _ | assumption | exact Nat.le_trans hlim (Nat.zero_le _) | omega) rfl ?_
          | refine W_load (agg := false) (d := .bool _) rfl rfl rfl (bxs (by omega) (bxc rfl)) (by first | exact Nat.zero_le _ | assumption | exact Nat.le_trans hlim (Nat.zero_le _) | omega) rfl ?_
          | refine W_load (agg := false) (d := .slice _ _ _) rfl rfl rfl (bxs (by omega) (bxc rfl)) (by first | exact Nat.zero_le _ | assumption | exact Nat.le_trans hlim (Nat.zero_le _) | omega) rfl ?_
          | refine W_load (agg := false) (d := .ptr _ _) rfl rfl rfl (bxs (by omega) (bxc rfl)) (by first | exact Nat.zero_le _ | assumption | exact Nat.le_trans hlim (Nat.zero_le _) | omega) rfl ?_
          | refine W_load (agg := false) (d := .func _ _) rfl rfl rfl (bxs (by omega) (bxc rfl)) (by first | exact Nat.zero_le _ | assumption | exact Nat.le_trans hlim (Nat.zero_le _) | omega) rfl ?_
          | refine W_load (agg := true) (d := .agg [_, _, _]) rfl rfl rfl (bxs (by omega) (bxc rfl)) (by first | exact Nat.zero_le _ | assumption | exact Nat.le_trans hlim (Nat.zero_le _) | omega) rfl ?_
          | refine W_load (agg := true) (d := .agg [_, _, _, _, _, _]) rfl rfl rfl (bxs (by omega) (bxc rfl)) (by first | exact Nat.zero_le _ | assumption | exact Nat.le_trans hlim (Nat.zero_le _) | omega) rfl ?_
          | refine W_load (agg := true) (d := .agg [_, _, _, _, _, _, _, _, _]) rfl rfl rfl (bxs (by omega) (bxc rfl)) (by first | exact Nat.zero_le _ | assumption | exact Nat.le_trans hlim (Nat.zero_le _) | omega) rfl ?_
          | refine W_load (agg := false) (d := .int _ _) rfl rfl rfl rfl (by first | exact Nat.zero_le _ | omega) rfl ?_
          | refine W_load (agg := false) (d := .bool _) rfl rfl rfl rfl (by first | exact Nat.zero_le _ | omega) rfl ?_
          | refine W_load (agg := false) (d := .slice _ _ _) rfl rfl rfl rfl (by first | exact Nat.zero_le _ | omega) rfl ?_
          | refine W_load (agg := false) (d := .ptr _ _) rfl rfl rfl rfl (by first | exact Nat.zero_le _ | omega) rfl ?_
          | refine W_load (agg := false) (d := .func _ _) rfl rfl rfl rfl (by first | exact Nat.zero_le _ | omega) rfl ?_
          | refine W_load (agg := true) (d := .agg [_, _, _]) rfl rfl rfl rfl (by first | exact Nat.zero_le _ | omega) rfl ?_
          | refine W_load (agg := true) (d := .agg [_, _, _, _, _, _]) rfl rfl rfl rfl (by first | exact Nat.zero_le _ | omega) rfl ?_
          | refine W_load (agg := true) (d := .agg [_, _, _, _, _, _, _, _, _]) rfl rfl rfl rfl (by first | exact Nat.zero_le _ | omega) rfl ?_)
      | (refine I_call ?_; first
          | refine W_skip rfl ?_
          | refine W_callBT rfl rfl rfl (hRm _ _ hsm) rfl rfl ?_
          | refine W_callBT rfl rfl rfl (hS _ _ _ _ hsm hsl) (decide_eq_true (by assumption)) rfl ?_
          | refine W_call rfl rfl rfl (hUm _ _ _ hsm) rfl rfl ?_
          | refine W_call rfl rfl rfl (hUl _ _ _ hsl) rfl rfl ?_)
      | (refine I_pick ?_; first
          | refine W_pick (v := .int _ _) rfl rfl rfl rfl ?_
          | refine W_pick (v := .bool _) rfl rfl rfl rfl ?_
          | refine W_pick (v := .slice _ _ _) rfl rfl rfl rfl ?_
          | refine W_pick (v := .agg _) rfl rfl rfl rfl ?_
          | refine W_skip rfl ?_)
      | (refine I_extract ?_; first
          | refine W_extract (d := .int _ _) rfl rfl rfl rfl ?_
          | refine W_extract (d := .bool _) rfl rfl rfl rfl ?_
          | refine W_extract (d := .slice _ _ _) rfl rfl rfl rfl ?_
          | refine W_extract (d := .agg _) rfl rfl rfl rfl ?_
          | refine W_extract (d := .ptr _ _) rfl rfl rfl rfl ?_
          | refine W_extract (d := .func _ _) rfl rfl rfl rfl ?_
          | refine W_skip rfl ?_)
      | (refine I_build ?_; first
          | refine W_build (cs := [_, _, _]) rfl rfl rfl ?_
          | refine W_build (cs := [_, _, _, _, _, _]) rfl rfl rfl ?_
          | refine W_build (cs := [_, _, _, _, _, _, _, _, _]) rfl rfl rfl ?_
          | refine W_skip rfl ?_)
      | (refine I_store ?_; first
          | refine W_store (cs' := [_, _, _]) rfl rfl (upd_same _ _ _) rfl (by first | exact Nat.zero_le _ | assumption | exact Nat.le_trans hlim (Nat.zero_le _) | omega) rfl rfl rfl ?_
          | refine W_store (cs' := [_, _, _]) rfl rfl ((upd_ne _ _ (by omega)).trans (upd_same _ _ _)) rfl (by first | exact Nat.zero_le _ | assumption | exact Nat.le_trans hlim (Nat.zero_le _) | omega) rfl rfl rfl ?_
          | refine W_store (cs' := [_, _, _, _, _, _]) rfl rfl (upd_same _ _ _) rfl (by first | exact Nat.zero_le _ | assumption | exact Nat.le_trans hlim (Nat.zero_le _) | omega) rfl rfl rfl ?_
          | refine W_store (cs' := [_, _, _, _, _, _]) rfl rfl ((upd_ne _ _ (by omega)).trans (upd_same _ _ _)) rfl (by first | exact Nat.zero_le _ | assumption | exact Nat.le_trans hlim (Nat.zero_le _) | omega) rfl rfl rfl ?_
          | refine W_store (cs' := [_, _, _, _, _, _, _, _, _]) rfl rfl (upd_same _ _ _) rfl (by first | exact Nat.zero_le _ | assumption | exact Nat.le_trans hlim (Nat.zero_le _) | omega) rfl rfl rfl ?_
          | refine W_store (cs' := [_, _, _, _, _, _, _, _, _]) rfl rfl ((upd_ne _ _ (by omega)).trans (upd_same _ _ _)) rfl (by first | exact Nat.zero_le _ | assumption | exact Nat.le_trans hlim (Nat.zero_le _) | omega) rfl rfl rfl ?_
          | refine W_store (cs' := [_, _, _]) rfl rfl rfl rfl (by first | exact Nat.zero_le _ | omega) rfl rfl rfl ?_
          | refine W_store (cs' := [_, _, _, _, _, _]) rfl rfl rfl rfl (by first | exact Nat.zero_le _ | omega) rfl rfl rfl ?_
          | refine W_store (cs' := [_, _, _, _, _, _, _, _, _]) rfl rfl rfl rfl (by first | exact Nat.zero_le _ | omega) rfl rfl rfl ?_
          | refine W_skip0 rfl ?_)
      | refine W_not rfl rfl rfl ?_
      | refine W_neg rfl rfl rfl (by first | exact w64 (by omega) | rfl) ?_
      | (refine W_eqlP rfl rfl rfl rfl rfl rfl (eqAt3 _ _ _ _ _ _) ?_ ?_ <;> intro hq)
      | (refine W_eqlP rfl rfl rfl rfl rfl rfl (eqAt4 _ _ _ _ _ _ _ _) ?_ ?_ <;> intro hq)
      | (refine W_neqP rfl rfl rfl rfl rfl rfl (eqAt3 _ _ _ _ _ _) ?_ ?_ <;> intro hq)
      | (refine W_neqP rfl rfl rfl rfl rfl rfl (eqAt4 _ _ _ _ _ _ _ _) ?_ ?_ <;> intro hq)
      | (refine W_eqlP rfl rfl rfl rfl rfl rfl rfl ?_ ?_ <;> intro _)
      | (refine W_neqP rfl rfl rfl rfl rfl rfl rfl ?_ ?_ <;> intro _)
      | refine W_lenM rfl rfl rfl ?_
      | refine W_lenS rfl rfl rfl ?_
      | refine W_lenR rfl rfl rfl ?_
      | refine W_faddr rfl rfl rfl ?_
      | refine W_faddrE rfl rfl rfl ?_
      | refine W_alloc rfl rfl ?_
      | refine W_iaddrA rfl rfl rfl rfl (by decide) ?_
      | refine W_iaddrAE rfl rfl rfl rfl (by decide) ?_
      | refine W_skip rfl ?_
      | refine W_iaddr rfl rfl rfl rfl (by first | rfl | exact sz_of (by assumption) (by omega)) (by first | decide | (simp only [List.length_map]; omega)) ?_
      | refine W_iaddrRN rfl rfl rfl rfl rfl (by decide) ?_
      | refine W_iaddrR rfl rfl rfl rfl (by first | decide | omega) ?_
      | refine W_bsliceS (ds := [.slice _ _ _]) (ys := [.slice _ _ _]) rfl rfl rfl rfl (by decide) rfl ?_
      | refine W_bsliceS (ds := [.slice _ _ _, .slice _ _ _]) (ys := [.slice _ _ _, .slice _ _ _]) rfl rfl rfl rfl (by decide) rfl ?_
      | refine W_bsliceS (ds := [.slice _ _ _, .slice _ _ _, .slice _ _ _]) (ys := [.slice _ _ _, .slice _ _ _, .slice _ _ _]) rfl rfl rfl rfl (by decide) rfl ?_
      | refine W_bslice (ys := []) rfl rfl rfl (by decide) rfl ?_
      | refine W_bslice (ys := [_]) rfl rfl rfl (by decide) rfl ?_
      | refine W_bslice (ys := [_, _]) rfl rfl rfl (by decide) rfl ?_
      | refine W_bslice (ys := [_, _, _]) rfl rfl rfl (by decide) rfl ?_
      | refine W_skip rfl ?_
      | refine WS_nil ?_)
    | refine WC_seq ?_
    | refine WC_opsS ?_
    | refine WC_drawS ?_
    | refine WC_skip ?_
    | refine WC_condT rfl ?_
    | refine WC_condF rfl ?_
    | refine WC_block ?_
    | refine WC_exit ?_
    | refine WC_ret ?_
    | refine okF_intro rfl ?_)
            all_goals exact fin _ _ hlim rfl rfl rfl rfl rfl
      · clear h3
        repeat' (first
    | (refine I_WS ?_; first
      | refine W_neqPT rfl rfl rfl rfl (by first | rfl | (rw [h2]) | (rw [h3]; rfl)) (by first | rfl | (rw [h2]) | (rw [h3]; rfl)) (by first | rfl | (rw [h2]) | (rw [h3]; rfl)) ?_
      | (refine I_mov ?_; first
          | refine W_skip rfl ?_
          | refine W_mov (v := .int _ _) rfl rfl rfl ?_
          | refine W_mov (v := .bool _) rfl rfl rfl ?_
          | refine W_mov (v := .slice _ _ _) rfl rfl rfl ?_
          | refine W_mov (v := .agg _) rfl rfl rfl ?_
          | refine W_mov (v := .ptr _ _) rfl rfl rfl ?_
          | refine W_mov (v := .func _ _) rfl rfl rfl ?_
          | refine W_mov (v := .eptr _ _ _ _) rfl rfl rfl ?_
          | refine W_mov (v := .rs _ _ _ _ _) rfl rfl rfl ?_
          | refine W_mov (v := .tuple _) rfl rfl rfl ?_
          | refine W_mov (v := .map _) rfl rfl rfl ?_
          | refine W_mov (v := .str _) rfl rfl rfl ?_
          | refine W_mov (v := .nilptr) rfl rfl rfl ?_)
      | (refine I_bin ?_; first
          | refine W_skip rfl ?_
          | refine W_lssT rfl rfl rfl rfl (by omega) ?_
          | refine W_lssF rfl rfl rfl rfl (by omega) ?_
          | (refine W_lss rfl rfl rfl rfl ?_ ?_ <;> intro _)
          | refine W_gtrT rfl rfl rfl rfl (by omega) ?_
          | refine W_gtrF rfl rfl rfl rfl (by omega) ?_
          | (refine W_gtr rfl rfl rfl rfl ?_ ?_ <;> intro _)
          | refine W_eqlT rfl rfl rfl rfl (by omega) ?_
          | refine W_eqlF rfl rfl rfl rfl (by omega) ?_
          | (refine W_eql rfl rfl rfl rfl ?_ ?_ <;> intro _)
          | refine W_neqT rfl rfl rfl rfl (by omega) ?_
          | refine W_neqF rfl rfl rfl rfl (by omega) ?_
          | (refine W_neq rfl rfl rfl rfl ?_ ?_ <;> intro _)
          | refine W_add rfl rfl rfl rfl (by first | exact w64 (by omega) | rfl) ?_)
      | (refine I_load ?_; first
          | refine W_skip rfl ?_
          | refine W_load (agg := true) (d := .agg [_, _, _, _, _, _]) rfl rfl rfl hbp (Nat.le_trans hlim (Nat.zero_le _)) rfl ?_
          | refine W_load (agg := false) (d := .int _ _) rfl rfl rfl hbp (Nat.le_trans hlim (Nat.zero_le _)) rfl ?_
          | refine W_load (agg := true) (d := .agg [_, _, _, _, _, _]) rfl rfl rfl (bxs hpn hbp) (Nat.le_trans hlim (Nat.zero_le _)) rfl ?_
          | refine W_load (agg := false) (d := .int _ _) rfl rfl rfl (bxs hpn hbp) (Nat.le_trans hlim (Nat.zero_le _)) rfl ?_
          | refine W_load (agg := true) (d := .agg [_, _, _, _, _, _]) rfl rfl rfl (bxs hpn (bxs hpn hbp)) (Nat.le_trans hlim (Nat.zero_le _)) rfl ?_
          | refine W_load (agg := false) (d := .int _ _) rfl rfl rfl (bxs hpn (bxs hpn hbp)) (Nat.le_trans hlim (Nat.zero_le _)) rfl ?_
          | refine W_load (agg := true) (d := .agg [_, _, _, _, _, _]) rfl rfl rfl (bxs hpn (bxs hpn (bxs hpn hbp))) (Nat.le_trans hlim (Nat.zero_le _)) rfl ?_
          | refine W_load (agg := false) (d := .int _ _) rfl rfl rfl (bxs hpn (bxs hpn (bxs hpn hbp))) (Nat.le_trans hlim (Nat.zero_le _)) rfl ?_
          | refine W_load (agg := false) (d := .int _ _) rfl rfl rfl (bxc rfl) (by first | exact Nat.zero_le _ | assumption | exact Nat.le_trans hlim (Nat.zero_le _) | omega) rfl ?_
          | refine W_load (agg := false) (d := .bool _) rfl rfl rfl (bxc rfl) (by first | exact Nat.zero_le _ | assumption | exact Nat.le_trans hlim (Nat.zero_le _) | omega) rfl ?_
          | refine W_load (agg := false) (d := .slice _ _ _) rfl rfl rfl (bxc rfl) (by first | exact Nat.zero_le _ | assumption | exact Nat.le_trans hlim (Nat.zero_le _) | omega) rfl ?_
          | refine W_load (agg := false) (d := .ptr _ _) rfl rfl rfl (bxc rfl) (by first | exact Nat.zero_le _ | assumption | exact Nat.le_trans hlim (Nat.zero_le _) | omega) rfl ?_
          | refine W_load (agg := false) (d := .func _ _) rfl rfl rfl (bxc rfl) (by first | exact Nat.zero_le _ | assumption | exact Nat.le_trans hlim (Nat.zero_le _) | omega) rfl ?_
          | refine W_load (agg := true) (d := .agg [_, _, _]) rfl rfl rfl (bxc rfl) (by first | exact Nat.zero_le _ | assumption | exact Nat.le_trans hlim (Nat.zero_le _) | omega) rfl ?_
          | refine W_load (agg := true) (d := .agg [_, _, _, _, _, _]) rfl rfl rfl (bxc rfl) (by first | exact Nat.zero_le _ | assumption | exact Nat.le_trans hlim (Nat.zero_le _) | omega) rfl ?_
          | refine W_load (agg := true) (d := .agg [_, _, _, _, _, _, _, _, _]) rfl rfl rfl (bxc rfl) (by first | exact Nat.zero_le _ | assumption | exact Nat.le_trans hlim (Nat.zero_le _) | omega) rfl ?_
          | refine W_load (agg := false) (d := .int _ _) rfl rfl rfl (bxs (by omega) (bxc rfl)) (by first | exact Nat.zero_le _ | assumption | exact Nat.le_trans hlim (Nat.zero_le _) | omega) rfl ?_
          | refine W_load (agg := false) (d := .bool _) rfl rfl rfl (bxs (by omega) (bxc rfl)) (by first | exact Nat.zero_le _ | assumption | exact Nat.le_trans hlim (Nat.zero_le _) | omega) rfl ?_
          | refine W_load (agg := false) (d := .slice _ _ _) rfl rfl rfl (bxs (by omega) (bxc rfl)) (by first | exact Nat.zero_le _ | assumption | exact Nat.le_trans hlim (Nat.zero_le _) | omega) rfl ?_
          | refine W_load (agg := false) (d := .ptr _ _) rfl rfl rfl (bxs (by omega) (bxc rfl)) (by first | exact Nat.zero_le _ | assumption | exact Nat.le_trans hlim (Nat.zero_le _) | omega) rfl ?_
          | refine W_load (agg := false) (d := .func _ _) rfl rfl rfl (bxs (by omega) (bxc rfl)) (by first | exact Nat.zero_le _ | assumption | exact Nat.le_trans hlim (Nat.zero_le _) | omega) rfl ?_
          | refine W_load (agg := true) (d := .agg [_, _, _]) rfl rfl rfl (bxs (by omega) (bxc rfl)) (by first | exact Nat.zero_le _ | assumption | exact Nat.le_trans hlim (Nat.zero_le _) | omega) rfl ?_
          | refine W_load (agg := true) (d := .agg [_, _, _, _, _, _]) rfl rfl rfl (bxs (by omega) (bxc rfl)) (by first | exact Nat.zero_le _ | assumption | exact Nat.le_trans hlim (Nat.zero_le _) | omega) rfl ?_
          | refine W_load (agg := true) (d := .agg [_, _, _, _, _, _, _, _, _]) rfl rfl rfl (bxs (by omega) (bxc rfl)) (by first | exact Nat.zero_le _ | assumption | exact Nat.le_trans hlim (Nat.zero_le _) | omega) rfl ?_
          | refine W_load (agg := false) (d := .int _ _) rfl rfl rfl rfl (by first | exact Nat.zero_le _ | omega) rfl ?_
          | refine W_load (agg := false) (d := .bool _) rfl rfl rfl rfl (by first | exact Nat.zero_le _ | omega) rfl ?_
          | refine W_load (agg := false) (d := .slice _ _ _) rfl rfl rfl rfl (by first | exact Nat.zero_le _ | omega) rfl ?_
          | refine W_load (agg := false) (d := .ptr _ _) rfl rfl rfl rfl (by first | exact Nat.zero_le _ | omega) rfl ?_
          | refine W_load (agg := false) (d := .func _ _) rfl rfl rfl rfl (by first | exact Nat.zero_le _ | omega) rfl ?_
          | refine W_load (agg := true) (d := .agg [_, _, _]) rfl rfl rfl rfl (by first | exact Nat.zero_le _ | omega) rfl ?_
          | refine W_load (agg := true) (d := .agg [_, _, _, _, _, _]) rfl rfl rfl rfl (by first | exact Nat.zero_le _ | omega) rfl ?_
          | refine W_load (agg := true) (d := .agg [_, _, _, _, _, _, _, _, _]) rfl rfl rfl rfl (by first | exact Nat.zero_le _ | omega) rfl ?_)
      | (refine I_call ?_; first
          | refine W_skip rfl ?_
          | refine W_callBT rfl rfl rfl (hRm _ _ hsm) rfl rfl ?_
          | refine W_callBT rfl rfl rfl (hS _ _ _ _ hsm hsl) (decide_eq_true (by assumption)) rfl ?_
          | refine W_call rfl rfl rfl (hUm _ _ _ hsm) rfl rfl ?_
          | refine W_call rfl rfl rfl (hUl _ _ _ hsl) rfl rfl ?_)
      | (refine I_pick ?_; first
          | refine W_pick (v := .int _ _) rfl rfl rfl rfl ?_
          | refine W_pick (v := .bool _) rfl rfl rfl rfl ?_
          | refine W_pick (v := .slice _ _ _) rfl rfl rfl rfl ?_
          | refine W_pick (v := .agg _) rfl rfl rfl rfl ?_
          | refine W_skip rfl ?_)
      | (refine I_extract ?_; first
          | refine W_extract (d := .int _ _) rfl rfl rfl rfl ?_
          | refine W_extract (d := .bool _) rfl rfl rfl rfl ?_
          | refine W_extract (d := .slice _ _ _) rfl rfl rfl rfl ?_
          | refine W_extract (d := .agg _) rfl rfl rfl rfl ?_
          | refine W_extract (d := .ptr _ _) rfl rfl rfl rfl ?_
          | refine W_extract (d := .func _ _) rfl rfl rfl rfl ?_
          | refine W_skip rfl ?_)
      | (refine I_build ?_; first
          | refine W_build (cs := [_, _, _]) rfl rfl rfl ?_
          | refine W_build (cs := [_, _, _, _, _, _]) rfl rfl rfl ?_
          | refine W_build (cs := [_, _, _, _, _, _, _, _, _]) rfl rfl rfl ?_
          | refine W_skip rfl ?_)
      | (refine I_store ?_; first
          | refine W_store (cs' := [_, _, _]) rfl rfl (upd_same _ _ _) rfl (by first | exact Nat.zero_le _ | assumption | exact Nat.le_trans hlim (Nat.zero_le _) | omega) rfl rfl rfl ?_
          | refine W_store (cs' := [_, _, _]) rfl rfl ((upd_ne _ _ (by omega)).trans (upd_same _ _ _)) rfl (by first | exact Nat.zero_le _ | assumption | exact Nat.le_trans hlim (Nat.zero_le _) | omega) rfl rfl rfl ?_
          | refine W_store (cs' := [_, _, _, _, _, _]) rfl rfl (upd_same _ _ _) rfl (by first | exact Nat.zero_le _ | assumption | exact Nat.le_trans hlim (Nat.zero_le _) | omega) rfl rfl rfl ?_
          | refine W_store (cs' := [_, _, _, _, _, _]) rfl rfl ((upd_ne _ _ (by omega)).trans (upd_same _ _ _)) rfl (by first | exact Nat.zero_le _ | assumption | exact Nat.le_trans hlim (Nat.zero_le _) | omega) rfl rfl rfl ?_
          | refine W_store (cs' := [_, _, _, _, _, _, _, _, _]) rfl rfl (upd_same _ _ _) rfl (by first | exact Nat.zero_le _ | assumption | exact Nat.le_trans hlim (Nat.zero_le _) | omega) rfl rfl rfl ?_
          | refine W_store (cs' := [_, _, _, _, _, _, _, _, _]) rfl rfl ((upd_ne _ _ (by omega)).trans (upd_same _ _ _)) rfl (by first | exact Nat.zero_le _ | assumption | exact Nat.le_trans hlim (Nat.zero_le _) | omega) rfl rfl rfl ?_
          | refine W_store (cs' := [_, _, _]) rfl rfl rfl rfl (by first | exact Nat.zero_le _ | omega) rfl rfl rfl ?_
          | refine W_store (cs' := [_, _, _, _, _, _]) rfl rfl rfl rfl (by first | exact Nat.zero_le _ | omega) rfl rfl rfl ?_
          | refine W_store (cs' := [_, _, _, _, _, _, _, _, _]) rfl rfl rfl rfl (by first | exact Nat.zero_le _ | omega) rfl rfl rfl ?_
          | refine W_skip0 rfl ?_)
      | refine W_not rfl rfl rfl ?_
      | refine W_neg rfl rfl rfl (by first | exact w64 (by omega) | rfl) ?_
      | (refine W_eqlP rfl rfl rfl rfl rfl rfl (eqAt3 _ _ _ _ _ _) ?_ ?_ <;> intro hq)
      | (refine W_eqlP rfl rfl rfl rfl rfl rfl (eqAt4 _ _ _ _ _ _ _ _) ?_ ?_ <;> intro hq)
      | (refine W_neqP rfl rfl rfl rfl rfl rfl (eqAt3 _ _ _ _ _ _) ?_ ?_ <;> intro hq)
      | (refine W_neqP rfl rfl rfl rfl rfl rfl (eqAt4 _ _ _ _ _ _ _ _) ?_ ?_ <;> intro hq)
      | (refine W_eqlP rfl rfl rfl rfl rfl rfl rfl ?_ ?_ <;> intro _)
      | (refine W_neqP rfl rfl rfl rfl rfl rfl rfl ?_ ?_ <;> intro _)
      | refine W_lenM rfl rfl rfl ?_
      | refine W_lenS rfl rfl rfl ?_
      | refine W_lenR rfl rfl rfl ?_
      | refine W_faddr rfl rfl rfl ?_
      | refine W_faddrE rfl rfl rfl ?_
      | refine W_alloc rfl rfl ?_
      | refine W_iaddrA rfl rfl rfl rfl (by decide) ?_
      | refine W_iaddrAE rfl rfl rfl rfl (by decide) ?_
      | refine W_skip rfl ?_
      | refine W_iaddr rfl rfl rfl rfl (by first | rfl | exact sz_of (by assumption) (by omega)) (by first | decide | (simp only [List.length_map]; omega)) ?_
      | refine W_iaddrRN rfl rfl rfl rfl rfl (by decide) ?_
      | refine W_iaddrR rfl rfl rfl rfl (by first | decide | omega) ?_
      | refine W_bsliceS (ds := [.slice _ _ _]) (ys := [.slice _ _ _]) rfl rfl rfl rfl (by decide) rfl ?_
      | refine W_bsliceS (ds := [.slice _ _ _, .slice _ _ _]) (ys := [.slice _ _ _, .slice _ _ _]) rfl rfl rfl rfl (by decide) rfl ?_
      | refine W_bsliceS (ds := [.slice _ _ _, .slice _ _ _, .slice _ _ _]) (ys := [.slice _ _ _, .slice _ _ _, .slice _ _ _]) rfl rfl rfl rfl (by decide) rfl ?_
      | refine W_bslice (ys := []) rfl rfl rfl (by decide) rfl ?_
      | refine W_bslice (ys := [_]) rfl rfl rfl (by decide) rfl ?_
      | refine W_bslice (ys := [_, _]) rfl rfl rfl (by decide) rfl ?_
      | refine W_bslice (ys := [_, _, _]) rfl rfl rfl (by decide) rfl ?_
      | refine W_skip rfl ?_
      | refine WS_nil ?_)
    | refine WC_seq ?_
    | refine WC_opsS ?_
    | refine WC_drawS ?_
    | refine WC_skip ?_
    | refine WC_condT rfl ?_
    | refine WC_condF rfl ?_
    | refine WC_block ?_
    | refine WC_exit ?_
    | refine WC_ret ?_
    | refine okF_intro rfl ?_)
        all_goals exact fin _ _ hlim rfl rfl rfl rfl rfl
  · have h2 := h2 hid
    cases ok with
    | false =>
      have hml := h1 rfl
      clear h1 h3
      repeat' (first
    | (refine I_WS ?_; first
      | refine W_neqPT rfl rfl rfl rfl (by first | rfl | (rw [h2]) | (rw [h3]; rfl)) (by first | rfl | (rw [h2]) | (rw [h3]; rfl)) (by first | rfl | (rw [h2]) | (rw [h3]; rfl)) ?_
      | (refine I_mov ?_; first
          | refine W_skip rfl ?_
          | refine W_mov (v := .int _ _) rfl rfl rfl ?_
          | refine W_mov (v := .bool _) rfl rfl rfl ?_
          | refine W_mov (v := .slice _ _ _) rfl rfl rfl ?_
          | refine W_mov (v := .agg _) rfl rfl rfl ?_
          | refine W_mov (v := .ptr _ _) rfl rfl rfl ?_
          | refine W_mov (v := .func _ _) rfl rfl rfl ?_
          | refine W_mov (v := .eptr _ _ _ _) rfl rfl rfl ?_
          | refine W_mov (v := .rs _ _ _ _ _) rfl rfl rfl ?_
          | refine W_mov (v := .tuple _) rfl rfl rfl ?_
          | refine W_mov (v := .map _) rfl rfl rfl ?_
          | refine W_mov (v := .str _) rfl rfl rfl ?_
          | refine W_mov (v := .nilptr) rfl rfl rfl ?_)
      | (refine I_bin ?_; first
          | refine W_skip rfl ?_
          | refine W_lssT rfl rfl rfl rfl (by omega) ?_
          | refine W_lssF rfl rfl rfl rfl (by omega) ?_
          | (refine W_lss rfl rfl rfl rfl ?_ ?_ <;> intro _)
          | refine W_gtrT rfl rfl rfl rfl (by omega) ?_
          | refine W_gtrF rfl rfl rfl rfl (by omega) ?_
          | (refine W_gtr rfl rfl rfl rfl ?_ ?_ <;> intro _)
          | refine W_eqlT rfl rfl rfl rfl (by omega) ?_
          | refine W_eqlF rfl rfl rfl rfl (by omega) ?_
          | (refine W_eql rfl rfl rfl rfl ?_ ?_ <;> intro _)
          | refine W_neqT rfl rfl rfl rfl (by omega) ?_
          | refine W_neqF rfl rfl rfl rfl (by omega) ?_
          | (refine W_neq rfl rfl rfl rfl ?_ ?_ <;> intro _)
          | refine W_add rfl rfl rfl rfl (by first | exact w64 (by omega) | rfl) ?_)
      | (refine I_load ?_; first
          | refine W_skip rfl ?_
          | refine W_load (agg := true) (d := .agg [_, _, _, _, _, _]) rfl rfl rfl hbp (Nat.le_trans hlim (Nat.zero_le _)) rfl ?_
          | refine W_load (agg := false) (d := .int _ _) rfl rfl rfl hbp (Nat.le_trans hlim (Nat.zero_le _)) rfl ?_
          | refine W_load (agg := true) (d := .agg [_, _, _, _, _, _]) rfl rfl rfl (bxs hpn hbp) (Nat.le_trans hlim (Nat.zero_le _)) rfl ?_
          | refine W_load (agg := false) (d := .int _ _) rfl rfl rfl (bxs hpn hbp) (Nat.le_trans hlim (Nat.zero_le _)) rfl ?_
          | refine W_load (agg := true) (d := .agg [_, _, _, _, _, _]) rfl rfl rfl (bxs hpn (bxs hpn hbp)) (Nat.le_trans hlim (Nat.zero_le _)) rfl ?_
          | refine W_load (agg := false) (d := .int _ _) rfl rfl rfl (bxs hpn (bxs hpn hbp)) (Nat.le_trans hlim (Nat.zero_le _)) rfl ?_
          | refine W_load (agg := true) (d := .agg [_, _, _, _, _, _]) rfl rfl rfl (bxs hpn (bxs hpn (bxs hpn hbp))) (Nat.le_trans hlim (Nat.zero_le _)) rfl ?_
          | refine W_load (agg := false) (d := .int _ _) rfl rfl rfl (bxs hpn (bxs hpn (bxs hpn hbp))) (Nat.le_trans hlim (Nat.zero_le _)) rfl ?_
          | refine W_load (agg := false) (d := .int _ _) rfl rfl rfl (bxc rfl) (by first | exact Nat.zero_le _ | assumption | exact Nat.le_trans hlim (Nat.zero_le _) | omega) rfl ?_
          | refine W_load (agg := false) (d := .bool _) rfl rfl rfl (bxc rfl) (by first | exact Nat.zero_le _ | assumption | exact Nat.le_trans hlim (Nat.zero_le _) | omega) rfl ?_
          | refine W_load (agg := false) (d := .slice _ _ _) rfl rfl rfl (bxc rfl) (by first | exact Nat.zero_le _ | assumption | exact Nat.le_trans hlim (Nat.zero_le _) | omega) rfl ?_
          | refine W_load (agg := false) (d := .ptr _ _) rfl rfl rfl (bxc rfl) (by first | exact Nat.zero_le _ | assumption | exact Nat.le_trans hlim (Nat.zero_le _) | omega) rfl ?_
          | refine W_load (agg := false) (d := .func _ _) rfl rfl rfl (bxc rfl) (by first | exact Nat.zero_le _ | assumption | exact Nat.le_trans hlim (Nat.zero_le _) | omega) rfl ?_
          | refine W_load (agg := true) (d := .agg [_, _, _]) rfl rfl rfl (bxc rfl) (by first | exact Nat.zero_le _ | assumption | exact Nat.le_trans hlim (Nat.zero_le _) | omega) rfl ?_
          | refine W_load (agg := true) (d := .agg [_, _, _, _, _, _]) rfl rfl rfl (bxc rfl) (by first | exact Nat.zero_le _ | assumption | exact Nat.le_trans hlim (Nat.zero_le _) | omega) rfl ?_
          | refine W_load (agg := true) (d := .agg [_, _, _, _, _, _, _, _, _]) rfl rfl rfl (bxc rfl) (by first | exact Nat.zero_le _ | assumption | exact Nat.le_trans hlim (Nat.zero_le _) | omega) rfl ?_
          | refine W_load (agg := false) (d := .int _ _) rfl rfl rfl (bxs (by omega) (bxc rfl)) (by first | exact Nat.zero_le _ | assumption | exact Nat.le_trans hlim (Nat.zero_le _) | omega) rfl ?_
          | refine W_load (agg := false) (d := .bool _) rfl rfl rfl (bxs (by omega) (bxc rfl)) (by first | exact Nat.zero_le _ | assumption | exact Nat.le_trans hlim (Nat.zero_le _) | omega) rfl ?_
          | refine W_load (agg := false) (d := .slice _ _ _) rfl rfl rfl (bxs (by omega) (bxc rfl)) (by first | exact Nat.zero_le _ | assumption | exact Nat.le_trans hlim (Nat.zero_le _) | omega) rfl ?_
          | refine W_load (agg := false) (d := .ptr _ _) rfl rfl rfl (bxs (by omega) (bxc rfl)) (by first | exact Nat.zero_le _ | assumption | exact Nat.le_trans hlim (Nat.zero_le _) | omega) rfl ?_
          | refine W_load (agg := false) (d := .func _ _) rfl rfl rfl (bxs (by omega) (bxc rfl)) (by first | exact Nat.zero_le _ | assumption | exact Nat.le_trans hlim (Nat.zero_le _) | omega) rfl ?_
          | refine W_load (agg := true) (d := .agg [_, _, _]) rfl rfl rfl (bxs (by omega) (bxc rfl)) (by first | exact Nat.zero_le _ | assumption | exact Nat.le_trans hlim (Nat.zero_le _) | omega) rfl ?_
          | refine W_load (agg := true) (d := .agg [_, _, _, _, _, _]) rfl rfl rfl (bxs (by omega) (bxc rfl)) (by first | exact Nat.zero_le _ | assumption | exact Nat.le_trans hlim (Nat.zero_le _) | omega) rfl ?_
          | refine W_load (agg := true) (d := .agg [_, _, _, _, _, _, _, _, _]) rfl rfl rfl (bxs (by omega) (bxc rfl)) (by first | exact Nat.zero_le _ | assumption | exact Nat.le_trans hlim (Nat.zero_le _) | omega) rfl ?_
          | refine W_load (agg := false) (d := .int _ _) rfl rfl rfl rfl (by first | exact Nat.zero_le _ | omega) rfl ?_
          | refine W_load (agg := false) (d := .bool _) rfl rfl rfl rfl (by first | exact Nat.zero_le _ | omega) rfl ?_
          | refine W_load (agg := false) (d := .slice _ _ _) rfl rfl rfl rfl (by first | exact Nat.zero_le _ | omega) rfl ?_
          | refine W_load (agg := false) (d := .ptr _ _) rfl rfl rfl rfl (by first | exact Nat.zero_le _ | omega) rfl ?_
          | refine W_load (agg := false) (d := .func _ _) rfl rfl rfl rfl (by first | exact Nat.zero_le _ | omega) rfl ?_
          | refine W_load (agg := true) (d := .agg [_, _, _]) rfl rfl rfl rfl (by first | exact Nat.zero_le _ | omega) rfl ?_
          | refine W_load (agg := true) (d := .agg [_, _, _, _, _, _]) rfl rfl rfl rfl (by first | exact Nat.zero_le _ | omega) rfl ?_
          | refine W_load (agg := true) (d := .agg [_, _, _, _, _, _, _, _, _]) rfl rfl rfl rfl (by first | exact Nat.zero_le _ | omega) rfl ?_)
      | (refine I_call ?_; first
          | refine W_skip rfl ?_
          | refine W_callBT rfl rfl rfl (hRm _ _ hsm) rfl rfl ?_
          | refine W_callBT rfl rfl rfl (hS _ _ _ _ hsm hsl) (decide_eq_true (by assumption)) rfl ?_
          | refine W_call rfl rfl rfl (hUm _ _ _ hsm) rfl rfl ?_
          | refine W_call rfl rfl rfl (hUl _ _ _ hsl) rfl rfl ?_)
      | (refine I_pick ?_; first
          | refine W_pick (v := .int _ _) rfl rfl rfl rfl ?_
          | refine W_pick (v := .bool _) rfl rfl rfl rfl ?_
          | refine W_pick (v := .slice _ _ _) rfl rfl rfl rfl ?_
          | refine W_pick (v := .agg _) rfl rfl rfl rfl ?_
          | refine W_skip rfl ?_)
      | (refine I_extract ?_; first
          | refine W_extract (d := .int _ _) rfl rfl rfl rfl ?_
          | refine W_extract (d := .bool _) rfl rfl rfl rfl ?_
          | refine W_extract (d := .slice _ _ _) rfl rfl rfl rfl ?_
          | refine W_extract (d := .agg _) rfl rfl rfl rfl ?_
          | refine W_extract (d := .ptr _ _) rfl rfl rfl rfl ?_
          | refine W_extract (d := .func _ _) rfl rfl rfl rfl ?_
          | refine W_skip rfl ?_)
      | (refine I_build ?_; first
          | refine W_build (cs := [_, _, _]) rfl rfl rfl ?_
          | refine W_build (cs := [_, _, _, _, _, _]) rfl rfl rfl ?_
          | refine W_build (cs := [_, _, _, _, _, _, _, _, _]) rfl rfl rfl ?_
          | refine W_skip rfl ?_)
      | (refine I_store ?_; first
          | refine W_store (cs' := [_, _, _]) rfl rfl (upd_same _ _ _) rfl (by first | exact Nat.zero_le _ | assumption | exact Nat.le_trans hlim (Nat.zero_le _) | omega) rfl rfl rfl ?_
          | refine W_store (cs' := [_, _, _]) rfl rfl ((upd_ne _ _ (by omega)).trans (upd_same _ _ _)) rfl (by first | exact Nat.zero_le _ | assumption | exact Nat.le_trans hlim (Nat.zero_le _) | omega) rfl rfl rfl ?_
          | refine W_store (cs' := [_, _, _, _, _, _]) rfl rfl (upd_same _ _ _) rfl (by first | exact Nat.zero_le _ | assumption | exact Nat.le_trans hlim (Nat.zero_le _) | omega) rfl rfl rfl ?_
          | refine W_store (cs' := [_, _, _, _, _, _]) rfl rfl ((upd_ne _ _ (by omega)).trans (upd_same _ _ _)) rfl (by first | exact Nat.zero_le _ | assumption | exact Nat.le_trans hlim (Nat.zero_le _) | omega) rfl rfl rfl ?_
          | refine W_store (cs' := [_, _, _, _, _, _, _, _, _]) rfl rfl (upd_same _ _ _) rfl (by first | exact Nat.zero_le _ | assumption | exact Nat.le_trans hlim (Nat.zero_le _) | omega) rfl rfl rfl ?_
          | refine W_store (cs' := [_, _, _, _, _, _, _, _, _]) rfl rfl ((upd_ne _ _ (by omega)).trans (upd_same _ _ _)) rfl (by first | exact Nat.zero_le _ | assumption | exact Nat.le_trans hlim (Nat.zero_le _) | omega) rfl rfl rfl ?_
          | refine W_store (cs' := [_, _, _]) rfl rfl rfl rfl (by first | exact Nat.zero_le _ | omega) rfl rfl rfl ?_
          | refine W_store (cs' := [_, _, _, _, _, _]) rfl rfl rfl rfl (by first | exact Nat.zero_le _ | omega) rfl rfl rfl ?_
          | refine W_store (cs' := [_, _, _, _, _, _, _, _, _]) rfl rfl rfl rfl (by first | exact Nat.zero_le _ | omega) rfl rfl rfl ?_
          | refine W_skip0 rfl ?_)
      | refine W_not rfl rfl rfl ?_
      | refine W_neg rfl rfl rfl (by first | exact w64 (by omega) | rfl) ?_
      | (refine W_eqlP rfl rfl rfl rfl rfl rfl (eqAt3 _ _ _ _ _ _) ?_ ?_ <;> intro hq)
      | (refine W_eqlP rfl rfl rfl rfl rfl rfl (eqAt4 _ _ _ _ _ _ _ _) ?_ ?_ <;> intro hq)
      | (refine W_neqP rfl rfl rfl rfl rfl rfl (eqAt3 _ _ _ _ _ _) ?_ ?_ <;> intro hq)
      | (refine W_neqP rfl rfl rfl rfl rfl rfl (eqAt4 _ _ _ _ _ _ _ _) ?_ ?_ <;> intro hq)
      | (refine W_eqlP rfl rfl rfl rfl rfl rfl rfl ?_ ?_ <;> intro _)
      | (refine W_neqP rfl rfl rfl rfl rfl rfl rfl ?_ ?_ <;> intro _)
      | refine W_lenM rfl rfl rfl ?_
      | refine W_lenS rfl rfl rfl ?_
      | refine W_lenR rfl rfl rfl ?_
      | refine W_faddr rfl rfl rfl ?_
      | refine W_faddrE rfl rfl rfl ?_
      | refine W_alloc rfl rfl ?_
      | refine W_iaddrA rfl rfl rfl rfl (by decide) ?_
      | refine W_iaddrAE rfl rfl rfl rfl (by decide) ?_
      | refine W_skip rfl ?_
      | refine W_iaddr rfl rfl rfl rfl (by first | rfl | exact sz_of (by assumption) (by omega)) (by first | decide | (simp only [List.length_map]; omega)) ?_
      | refine W_iaddrRN rfl rfl rfl rfl rfl (by decide) ?_
      | refine W_iaddrR rfl rfl rfl rfl (by first | decide | omega) ?_
      | refine W_bsliceS (ds := [.slice _ _ _]) (ys := [.slice _ _ _]) rfl rfl rfl rfl (by decide) rfl ?_
      | refine W_bsliceS (ds := [.slice _ _ _, .slice _ _ _]) (ys := [.slice _ _ _, .slice _ _ _]) rfl rfl rfl rfl (by decide) rfl ?_
      | refine W_bsliceS (ds := [.slice _ _ _, .slice _ _ _, .slice _ _ _]) (ys := [.slice _ _ _, .slice _ _ _, .slice _ _ _]) rfl rfl rfl rfl (by decide) rfl ?_
      | refine W_bslice (ys := []) rfl rfl rfl (by decide) rfl ?_
      | refine W_bslice (ys := [_]) rfl rfl rfl (by decide) rfl ?_
      | refine W_bslice (ys := [_, _]) rfl rfl rfl (by decide) rfl ?_
      | refine W_bslice (ys := [_, _, _]) rfl rfl rfl (by decide) rfl ?_
      | refine W_skip rfl ?_
      | refine WS_nil ?_)
    | refine WC_seq ?_
    | refine WC_opsS ?_
    | refine WC_drawS ?_
    | refine WC_skip ?_
    | refine WC_condT rfl ?_
    | refine WC_condF rfl ?_
    | refine WC_block ?_
    | refine WC_exit ?_
    | refine WC_ret ?_
    | refine okF_intro rfl ?_)
      all_goals exact fin _ _ hlim rfl rfl rfl rfl rfl
    | true =>
      clear h1 hS
      by_cases hdo : a.do' = 1 ∨ a.do' = 2
      · obtain ⟨hk, g3, h4, h5⟩ := h3 rfl hdo
        clear h3
        have h3 := g3
        clear g3
        have hk' : a.k = 0 ∨ a.k = 1 ∨ a.k = 2 := by omega
        rcases hk' with hk0 | hk0 | hk0
        all_goals
          rw [hk0] at h3 h4 h5 hbp
          clear hk hk0
          unfold Bk.at at h4 h5
          simp only [if_true, if_false, show ¬ ((1 : Int) = 0) by decide, show ¬ ((2 : Int) = 0) by decide, show ¬ ((2 : Int) = 1) by decide] at h4 h5
          rcases hdo with hdo | hdo
          all_goals
            repeat' (first
    | (refine I_WS ?_; first
      | refine W_neqPT rfl rfl rfl rfl (by first | rfl | (rw [h2]) | (rw [h3]; rfl)) (by first | rfl | (rw [h2]) | (rw [h3]; rfl)) (by first | rfl | (rw [h2]) | (rw [h3]; rfl)) ?_
      | (refine I_mov ?_; first
          | refine W_skip rfl ?_
          | refine W_mov (v := .int _ _) rfl rfl rfl ?_
          | refine W_mov (v := .bool _) rfl rfl rfl ?_
          | refine W_mov (v := .slice _ _ _) rfl rfl rfl ?_
          | refine W_mov (v := .agg _) rfl rfl rfl ?_
          | refine W_mov (v := .ptr _ _) rfl rfl rfl ?_
          | refine W_mov (v := .func _ _) rfl rfl rfl ?_
          | refine W_mov (v := .eptr _ _ _ _) rfl rfl rfl ?_
          | refine W_mov (v := .rs _ _ _ _ _) rfl rfl rfl ?_
          | refine W_mov (v := .tuple _) rfl rfl rfl ?_
          | refine W_mov (v := .map _) rfl rfl rfl ?_
          | refine W_mov (v := .str _) rfl rfl rfl ?_
          | refine W_mov (v := .nilptr) rfl rfl rfl ?_)
      | (refine I_bin ?_; first
          | refine W_skip rfl ?_
          | refine W_lssT rfl rfl rfl rfl (by omega) ?_
          | refine W_lssF rfl rfl rfl rfl (by omega) ?_
          | (refine W_lss rfl rfl rfl rfl ?_ ?_ <;> intro _)
          | refine W_gtrT rfl rfl rfl rfl (by omega) ?_
          | refine W_gtrF rfl rfl rfl rfl (by omega) ?_
          | (refine W_gtr rfl rfl rfl rfl ?_ ?_ <;> intro _)
          | refine W_eqlT rfl rfl rfl rfl (by omega) ?_
          | refine W_eqlF rfl rfl rfl rfl (by omega) ?_
          | (refine W_eql rfl rfl rfl rfl ?_ ?_ <;> intro _)
          | refine W_neqT rfl rfl rfl rfl (by omega) ?_
          | refine W_neqF rfl rfl rfl rfl (by omega) ?_
          | (refine W_neq rfl rfl rfl rfl ?_ ?_ <;> intro _)
          | refine W_add rfl rfl rfl rfl (by first | exact w64 (by omega) | rfl) ?_)
      | (refine I_load ?_; first
          | refine W_skip rfl ?_
          | refine W_load (agg := true) (d := .agg [_, _, _, _, _, _]) rfl rfl rfl hbp (Nat.le_trans hlim (Nat.zero_le _)) rfl ?_
          | refine W_load (agg := false) (d := .int _ _) rfl rfl rfl hbp (Nat.le_trans hlim (Nat.zero_le _)) rfl ?_
          | refine W_load (agg := true) (d := .agg [_, _, _, _, _, _]) rfl rfl rfl (bxs hpn hbp) (Nat.le_trans hlim (Nat.zero_le _)) rfl ?_
          | refine W_load (agg := false) (d := .int _ _) rfl rfl rfl (bxs hpn hbp) (Nat.le_trans hlim (Nat.zero_le _)) rfl ?_
          | refine W_load (agg := true) (d := .agg [_, _, _, _, _, _]) rfl rfl rfl (bxs hpn (bxs hpn hbp)) (Nat.le_trans hlim (Nat.zero_le _)) rfl ?_
          | refine W_load (agg := false) (d := .int _ _) rfl rfl rfl (bxs hpn (bxs hpn hbp)) (Nat.le_trans hlim (Nat.zero_le _)) rfl ?_
          | refine W_load (agg := true) (d := .agg [_, _, _, _, _, _]) rfl rfl rfl (bxs hpn (bxs hpn (bxs hpn hbp))) (Nat.le_trans hlim (Nat.zero_le _)) rfl ?_
          | refine W_load (agg := false) (d := .int _ _) rfl rfl rfl (bxs hpn (bxs hpn (bxs hpn hbp))) (Nat.le_trans hlim (Nat.zero_le _)) rfl ?_
          | refine W_load (agg := false) (d := .int _ _) rfl rfl rfl (bxc rfl) (by first | exact Nat.zero_le _ | assumption | exact Nat.le_trans hlim (Nat.zero_le _) | omega) rfl ?_
          | refine W_load (agg := false) (d := .bool _) rfl rfl rfl (bxc rfl) (by first | exact Nat.zero_le _ | assumption | exact Nat.le_trans hlim (Nat.zero_le _) | omega) rfl ?_
          | refine W_load (agg := false) (d := .slice _ _ _) rfl rfl rfl (bxc rfl) (by first | exact Nat.zero_le _ | assumption | exact Nat.le_trans hlim (Nat.zero_le _) | omega) rfl ?_
          | refine W_load (agg := false) (d := .ptr _ _) rfl rfl rfl (bxc rfl) (by first | exact Nat.zero_le _ | assumption | exact Nat.le_trans hlim (Nat.zero_le _) | omega) rfl ?_
          | refine W_load (agg := false) (d := .func _ _) rfl rfl rfl (bxc rfl) (by first | exact Nat.zero_le _ | assumption | exact Nat.le_trans hlim (Nat.zero_le _) | omega) rfl ?_
          | refine W_load (agg := true) (d := .agg [_, _, _]) rfl rfl rfl (bxc rfl) (by first | exact Nat.zero_le _ | assumption | exact Nat.le_trans hlim (Nat.zero_le _) | omega) rfl ?_
          | refine W_load (agg := true) (d := .agg [_, _, _, _, _, _]) rfl rfl rfl (bxc rfl) (by first | exact Nat.zero_le _ | assumption | exact Nat.le_trans hlim (Nat.zero_le _) | omega) rfl ?_
          | refine W_load (agg := true) (d := .agg [_, _, _, _, _, _, _, _, _]) rfl rfl rfl (bxc rfl) (by first | exact Nat.zero_le _ | assumption | exact Nat.le_trans hlim (Nat.zero_le _) | omega) rfl ?_
          | refine W_load (agg := false) (d := .int _ _) rfl rfl rfl (bxs (by omega) (bxc rfl)) (by first | exact Nat.zero_le _ | assumption | exact Nat.le_trans hlim (Nat.zero_le _) | omega) rfl ?_
          | refine W_load (agg := false) (d := .bool _) rfl rfl rfl (bxs (by omega) (bxc rfl)) (by first | exact Nat.zero_le _ | assumption | exact Nat.le_trans hlim (Nat.zero_le _) | omega) rfl ?_
          | refine W_load (agg := false) (d := .slice _ _ _) rfl rfl rfl (bxs (by omega) (bxc rfl)) (by first | exact Nat.zero_le _ | assumption | exact Nat.le_trans hlim (Nat.zero_le _) | omega) rfl ?_
          | refine W_load (agg := false) (d := .ptr _ _) rfl rfl rfl (bxs (by omega) (bxc rfl)) (by first | exact Nat.zero_le _ | assumption | exact Nat.le_trans hlim (Nat.zero_le _) | omega) rfl ?_
          | refine W_load (agg := false) (d := .func _ _) rfl rfl rfl (bxs (by omega) (bxc rfl)) (by first | exact Nat.zero_le _ | assumption | exact Nat.le_trans hlim (Nat.zero_le _) | omega) rfl ?_
          | refine W_load (agg := true) (d := .agg [_, _, _]) rfl rfl rfl (bxs (by omega) (bxc rfl)) (by first | exact Nat.zero_le _ | assumption | exact Nat.le_trans hlim (Nat.zero_le _) | omega) rfl ?_
          | refine W_load (agg := true) (d := .agg [_, _, _, _, _, _]) rfl rfl rfl (bxs (by omega) (bxc rfl)) (by first | exact Nat.zero_le _ | assumption | exact Nat.le_trans hlim (Nat.zero_le _) | omega) rfl ?_
          | refine W_load (agg := true) (d := .agg [_, _, _, _, _, _, _, _, _]) rfl rfl rfl (bxs (by omega) (bxc rfl)) (by first | exact Nat.zero_le _ | assumption | exact Nat.le_trans hlim (Nat.zero_le _) | omega) rfl ?_
          | refine W_load (agg := false) (d := .int _ _) rfl rfl rfl rfl (by first | exact Nat.zero_le _ | omega) rfl ?_
          | refine W_load (agg := false) (d := .bool _) rfl rfl rfl rfl (by first | exact Nat.zero_le _ | omega) rfl ?_
          | refine W_load (agg := false) (d := .slice _ _ _) rfl rfl rfl rfl (by first | exact Nat.zero_le _ | omega) rfl ?_
          | refine W_load (agg := false) (d := .ptr _ _) rfl rfl rfl rfl (by first | exact Nat.zero_le _ | omega) rfl ?_
          | refine W_load (agg := false) (d := .func _ _) rfl rfl rfl rfl (by first | exact Nat.zero_le _ | omega) rfl ?_
          | refine W_load (agg := true) (d := .agg [_, _, _]) rfl rfl rfl rfl (by first | exact Nat.zero_le _ | omega) rfl ?_
          | refine W_load (agg := true) (d := .agg [_, _, _, _, _, _]) rfl rfl rfl rfl (by first | exact Nat.zero_le _ | omega) rfl ?_
          | refine W_load (agg := true) (d := .agg [_, _, _, _, _, _, _, _, _]) rfl rfl rfl rfl (by first | exact Nat.zero_le _ | omega) rfl ?_)
      | (refine I_call ?_; first
          | refine W_skip rfl ?_
          | refine W_callBT rfl rfl rfl (hRm _ _ hsm) rfl rfl ?_
          | refine W_callBT rfl rfl rfl (hS _ _ _ _ hsm hsl) (decide_eq_true (by assumption)) rfl ?_
          | refine W_call rfl rfl rfl (hUm _ _ _ hsm) rfl rfl ?_
          | refine W_call rfl rfl rfl (hUl _ _ _ hsl) rfl rfl ?_)
      | (refine I_pick ?_; first
          | refine W_pick (v := .int _ _) rfl rfl rfl rfl ?_
          | refine W_pick (v := .bool _) rfl rfl rfl rfl ?_
          | refine W_pick (v := .slice _ _ _) rfl rfl rfl rfl ?_
          | refine W_pick (v := .agg _) rfl rfl rfl rfl ?_
          | refine W_skip rfl ?_)
      | (refine I_extract ?_; first
          | refine W_extract (d := .int _ _) rfl rfl rfl rfl ?_
          | refine W_extract (d := .bool _) rfl rfl rfl rfl ?_
          | refine W_extract (d := .slice _ _ _) rfl rfl rfl rfl ?_
          | refine W_extract (d := .agg _) rfl rfl rfl rfl ?_
          | refine W_extract (d := .ptr _ _) rfl rfl rfl rfl ?_
          | refine W_extract (d := .func _ _) rfl rfl rfl rfl ?_
          | refine W_skip rfl ?_)
      | (refine I_build ?_; first
          | refine W_build (cs := [_, _, _]) rfl rfl rfl ?_
          | refine W_build (cs := [_, _, _, _, _, _]) rfl rfl rfl ?_
          | refine W_build (cs := [_, _, _, _, _, _, _, _, _]) rfl rfl rfl ?_
          | refine W_skip rfl ?_)
      | (refine I_store ?_; first
          | refine W_store (cs' := [_, _, _]) rfl rfl (upd_same _ _ _) rfl (by first | exact Nat.zero_le _ | assumption | exact Nat.le_trans hlim (Nat.zero_le _) | omega) rfl rfl rfl ?_
          | refine W_store (cs' := [_, _, _]) rfl rfl ((upd_ne _ _ (by omega)).trans (upd_same _ _ _)) rfl (by first | exact Nat.zero_le _ | assumption | exact Nat.le_trans hlim (Nat.zero_le _) | omega) rfl rfl rfl ?_
          | refine W_store (cs' := [_, _, _, _, _, _]) rfl rfl (upd_same _ _ _) rfl (by first | exact Nat.zero_le _ | assumption | exact Nat.le_trans hlim (Nat.zero_le _) | omega) rfl rfl rfl ?_
          | refine W_store (cs' := [_, _, _, _, _, _]) rfl rfl ((upd_ne _ _ (by omega)).trans (upd_same _ _ _)) rfl (by first | exact Nat.zero_le _ | assumption | exact Nat.le_trans hlim (Nat.zero_le _) | omega) rfl rfl rfl ?_
          | refine W_store (cs' := [_, _, _, _, _, _, _, _, _]) rfl rfl (upd_same _ _ _) rfl (by first | exact Nat.zero_le _ | assumption | exact Nat.le_trans hlim (Nat.zero_le _) | omega) rfl rfl rfl ?_
          | refine W_store (cs' := [_, _, _, _, _, _, _, _, _]) rfl rfl ((upd_ne _ _ (by omega)).trans (upd_same _ _ _)) rfl (by first | exact Nat.zero_le _ | assumption | exact Nat.le_trans hlim (Nat.zero_le _) | omega) rfl rfl rfl ?_
          | refine W_store (cs' := [_, _, _]) rfl rfl rfl rfl (by first | exact Nat.zero_le _ | omega) rfl rfl rfl ?_
          | refine W_store (cs' := [_, _, _, _, _, _]) rfl rfl rfl rfl (by first | exact Nat.zero_le _ | omega) rfl rfl rfl ?_
          | refine W_store (cs' := [_, _, _, _, _, _, _, _, _]) rfl rfl rfl rfl (by first | exact Nat.zero_le _ | omega) rfl rfl rfl ?_
          | refine W_skip0 rfl ?_)
      | refine W_not rfl rfl rfl ?_
      | refine W_neg rfl rfl rfl (by first | exact w64 (by omega) | rfl) ?_
      | (refine W_eqlP rfl rfl rfl rfl rfl rfl (eqAt3 _ _ _ _ _ _) ?_ ?_ <;> intro hq)
      | (refine W_eqlP rfl rfl rfl rfl rfl rfl (eqAt4 _ _ _ _ _ _ _ _) ?_ ?_ <;> intro hq)
      | (refine W_neqP rfl rfl rfl rfl rfl rfl (eqAt3 _ _ _ _ _ _) ?_ ?_ <;> intro hq)
      | (refine W_neqP rfl rfl rfl rfl rfl rfl (eqAt4 _ _ _ _ _ _ _ _) ?_ ?_ <;> intro hq)
      | (refine W_eqlP rfl rfl rfl rfl rfl rfl rfl ?_ ?_ <;> intro _)
      | (refine W_neqP rfl rfl rfl rfl rfl rfl rfl ?_ ?_ <;> intro _)
      | refine W_lenM rfl rfl rfl ?_
      | refine W_lenS rfl rfl rfl ?_
      | refine W_lenR rfl rfl rfl ?_
      | refine W_faddr rfl rfl rfl ?_
      | refine W_faddrE rfl rfl rfl ?_
      | refine W_alloc rfl rfl ?_
      | refine W_iaddrA rfl rfl rfl rfl (by decide) ?_
      | refine W_iaddrAE rfl rfl rfl rfl (by decide) ?_
      | refine W_skip rfl ?_
      | refine W_iaddr rfl rfl rfl rfl (by first | rfl | exact sz_of (by assumption) (by omega)) (by first | decide | (simp only [List.length_map]; omega)) ?_
      | refine W_iaddrRN rfl rfl rfl rfl rfl (by decide) ?_
      | refine W_iaddrR rfl rfl rfl rfl (by first | decide | omega) ?_
      | refine W_bsliceS (ds := [.slice _ _ _]) (ys := [.slice _ _ _]) rfl rfl rfl rfl (by decide) rfl ?_
      | refine W_bsliceS (ds := [.slice _ _ _, .slice _ _ _]) (ys := [.slice _ _ _, .slice _ _ _]) rfl rfl rfl rfl (by decide) rfl ?_
      | refine W_bsliceS (ds := [.slice _ _ _, .slice _ _ _, .slice _ _ _]) (ys := [.slice _ _ _, .slice _ _ _, .slice _ _ _]) rfl rfl rfl rfl (by decide) rfl ?_
      | refine W_bslice (ys := []) rfl rfl rfl (by decide) rfl ?_
      | refine W_bslice (ys := [_]) rfl rfl rfl (by decide) rfl ?_
      | refine W_bslice (ys := [_, _]) rfl rfl rfl (by decide) rfl ?_
      | refine W_bslice (ys := [_, _, _]) rfl rfl rfl (by decide) rfl ?_
      | refine W_skip rfl ?_
      | refine WS_nil ?_)
    | refine WC_seq ?_
    | refine WC_opsS ?_
    | refine WC_drawS ?_
    | refine WC_skip ?_
    | refine WC_condT rfl ?_
    | refine WC_condF rfl ?_
    | refine WC_block ?_
    | refine WC_exit ?_
    | refine WC_ret ?_
    | refine okF_intro rfl ?_)
            all_goals exact fin _ _ hlim rfl rfl rfl rfl rfl
      · clear h3
        repeat' (first
    | (refine I_WS ?_; first
      | refine W_neqPT rfl rfl rfl rfl (by first | rfl | (rw [h2]) | (rw [h3]; rfl)) (by first | rfl | (rw [h2]) | (rw [h3]; rfl)) (by first | rfl | (rw [h2]) | (rw [h3]; rfl)) ?_
      | (refine I_mov ?_; first
          | refine W_skip rfl ?_
          | refine W_mov (v := .int _ _) rfl rfl rfl ?_
          | refine W_mov (v := .bool _) rfl rfl rfl ?_
          | refine W_mov (v := .slice _ _ _) rfl rfl rfl ?_
          | refine W_mov (v := .agg _) rfl rfl rfl ?_
          | refine W_mov (v := .ptr _ _) rfl rfl rfl ?_
          | refine W_mov (v := .func _ _) rfl rfl rfl ?_
          | refine W_mov (v := .eptr _ _ _ _) rfl rfl rfl ?_
          | refine W_mov (v := .rs _ _ _ _ _) rfl rfl rfl ?_
          | refine W_mov (v := .tuple _) rfl rfl rfl ?_
          | refine W_mov (v := .map _) rfl rfl rfl ?_
          | refine W_mov (v := .str _) rfl rfl rfl ?_
          | refine W_mov (v := .nilptr) rfl rfl rfl ?_)
      | (refine I_bin ?_; first
          | refine W_skip rfl ?_
          | refine W_lssT rfl rfl rfl rfl (by omega) ?_
          | refine W_lssF rfl rfl rfl rfl (by omega) ?_
          | (refine W_lss rfl rfl rfl rfl ?_ ?_ <;> intro _)
          | refine W_gtrT rfl rfl rfl rfl (by omega) ?_
          | refine W_gtrF rfl rfl rfl rfl (by omega) ?_
          | (refine W_gtr rfl rfl rfl rfl ?_ ?_ <;> intro _)
          | refine W_eqlT rfl rfl rfl rfl (by omega) ?_
          | refine W_eqlF rfl rfl rfl rfl (by omega) ?_
          | (refine W_eql rfl rfl rfl rfl ?_ ?_ <;> intro _)
          | refine W_neqT rfl rfl rfl rfl (by omega) ?_
          | refine W_neqF rfl rfl rfl rfl (by omega) ?_
          | (refine W_neq rfl rfl rfl rfl ?_ ?_ <;> intro _)
          | refine W_add rfl rfl rfl rfl (by first | exact w64 (by omega) | rfl) ?_)
      | (refine I_load ?_; first
          | refine W_skip rfl ?_
          | refine W_load (agg := true) (d := .agg [_, _, _, _, _, _]) rfl rfl rfl hbp (Nat.le_trans hlim (Nat.zero_le _)) rfl ?_
          | refine W_load (agg := false) (d := .int _ _) rfl rfl rfl hbp (Nat.le_trans hlim (Nat.zero_le _)) rfl ?_
          | refine W_load (agg := true) (d := .agg [_, _, _, _, _, _]) rfl rfl rfl (bxs hpn hbp) (Nat.le_trans hlim (Nat.zero_le _)) rfl ?_
          | refine W_load (agg := false) (d := .int _ _) rfl rfl rfl (bxs hpn hbp) (Nat.le_trans hlim (Nat.zero_le _)) rfl ?_
          | refine W_load (agg := true) (d := .agg [_, _, _, _, _, _]) rfl rfl rfl (bxs hpn (bxs hpn hbp)) (Nat.le_trans hlim (Nat.zero_le _)) rfl ?_
          | refine W_load (agg := false) (d := .int _ _) rfl rfl rfl (bxs hpn (bxs hpn hbp)) (Nat.le_trans hlim (Nat.zero_le _)) rfl ?_
          | refine W_load (agg := true) (d := .agg [_, _, _, _, _, _]) rfl rfl rfl (bxs hpn (bxs hpn (bxs hpn hbp))) (Nat.le_trans hlim (Nat.zero_le _)) rfl ?_
          | refine W_load (agg := false) (d := .int _ _) rfl rfl rfl (bxs hpn (bxs hpn (bxs hpn hbp))) (Nat.le_trans hlim (Nat.zero_le _)) rfl ?_
          | refine W_load (agg := false) (d := .int _ _) rfl rfl rfl (bxc rfl) (by first | exact Nat.zero_le _ | assumption | exact Nat.le_trans hlim (Nat.zero_le _) | omega) rfl ?_
          | refine W_load (agg := false) (d := .bool _) rfl rfl rfl (bxc rfl) (by first | exact Nat.zero_le _ | assumption | exact Nat.le_trans hlim (Nat.zero_le _) | omega) rfl ?_
          | refine W_load (agg := false) (d := .slice _ _ _) rfl rfl rfl (bxc rfl) (by first | exact Nat.zero_le _ | assumption | exact Nat.le_trans hlim (Nat.zero_le _) | omega) rfl ?_
          | refine W_load (agg := false) (d := .ptr _ _) rfl rfl rfl (bxc rfl) (by first | exact Nat.zero_le _ | assumption | exact Nat.le_trans hlim (Nat.zero_le _) | omega) rfl ?_
          | refine W_load (agg := false) (d := .func _ _) rfl rfl rfl (bxc rfl) (by first | exact Nat.zero_le _ | assumption | exact Nat.le_trans hlim (Nat.zero_le _) | omega) rfl ?_
          | refine W_load (agg := true) (d := .agg [_, _, _]) rfl rfl rfl (bxc rfl) (by first | exact Nat.zero_le _ | assumption | exact Nat.le_trans hlim (Nat.zero_le _) | omega) rfl ?_
          | refine W_load (agg := true) (d := .agg [_, _, _, _, _, _]) rfl rfl rfl (bxc rfl) (by first | exact Nat.zero_le _ | assumption | exact Nat.le_trans hlim (Nat.zero_le _) | omega) rfl ?_
          | refine W_load (agg := true) (d := .agg [_, _, _, _, _, _, _, _, _]) rfl rfl rfl (bxc rfl) (by first | exact Nat.zero_le _ | assumption | exact Nat.le_trans hlim (Nat.zero_le _) | omega) rfl ?_
          | refine W_load (agg := false) (d := .int _ _) rfl rfl rfl (bxs (by omega) (bxc rfl)) (by first | exact Nat.zero_le _ | assumption | exact Nat.le_trans hlim (Nat.zero_le _) | omega) rfl ?_
          | refine W_load (agg := false) (d := .bool _) rfl rfl rfl (bxs (by omega) (bxc rfl)) (by first | exact Nat.zero_le _ | assumption | exact Nat.le_trans hlim (Nat.zero_le _) | omega) rfl ?_
          | refine W_load (agg := false) (d := .slice _ _ _) rfl rfl rfl (bxs (by omega) (bxc rfl)) (by first | exact Nat.zero_le _ | assumption | exact Nat.le_trans hlim (Nat.zero_le _) | omega) rfl ?_
          | refine W_load (agg := false) (d := .ptr _ _) rfl rfl rfl (bxs (by omega) (bxc rfl)) (by first | exact Nat.zero_le _ | assumption | exact Nat.le_trans hlim (Nat.zero_le _) | omega) rfl ?_
          | refine W_load (agg := false) (d := .func _ _) rfl rfl rfl (bxs (by omega) (bxc rfl)) (by first | exact Nat.zero_le _ | assumption | exact Nat.le_trans hlim (Nat.zero_le _) | omega) rfl ?_
          | refine W_load (agg := true) (d := .agg [_, _, _]) rfl rfl rfl (bxs (by omega) (bxc rfl)) (by first | exact Nat.zero_le _ | assumption | exact Nat.le_trans hlim (Nat.zero_le _) | omega) rfl ?_
          | refine W_load (agg := true) (d := .agg [_, _, _, _, _, _]) rfl rfl rfl (bxs (by omega) (bxc rfl)) (by first | exact Nat.zero_le _ | assumption | exact Nat.le_trans hlim (Nat.zero_le _) | omega) rfl ?_
          | refine W_load (agg := true) (d := .agg [_, _, _, _, _, _, _, _, _]) rfl rfl rfl (bxs (by omega) (bxc rfl)) (by first | exact Nat.zero_le _ | assumption | exact Nat.le_trans hlim (Nat.zero_le _) | omega) rfl ?_
          | refine W_load (agg := false) (d := .int _ _) rfl rfl rfl rfl (by first | exact Nat.zero_le _ | omega) rfl ?_
          | refine W_load (agg := false) (d := .bool _) rfl rfl rfl rfl (by first | exact Nat.zero_le _ | omega) rfl ?_
          | refine W_load (agg := false) (d := .slice _ _ _) rfl rfl rfl rfl (by first | exact Nat.zero_le _ | omega) rfl ?_
          | refine W_load (agg := false) (d := .ptr _ _) rfl rfl rfl rfl (by first | exact Nat.zero_le _ | omega) rfl ?_
          | refine W_load (agg := false) (d := .func _ _) rfl rfl rfl rfl (by first | exact Nat.zero_le _ | omega) rfl ?_
          | refine W_load (agg := true) (d := .agg [_, _, _]) rfl rfl rfl rfl (by first | exact Nat.zero_le _ | omega) rfl ?_
          | refine W_load (agg := true) (d := .agg [_, _, _, _, _, _]) rfl rfl rfl rfl (by first | exact Nat.zero_le _ | omega) rfl ?_
          | refine W_load (agg := true) (d := .agg [_, _, _, _, _, _, _, _, _]) rfl rfl rfl rfl (by first | exact Nat.zero_le _ | omega) rfl ?_)
      | (refine I_call ?_; first
          | refine W_skip rfl ?_
          | refine W_callBT rfl rfl rfl (hRm _ _ hsm) rfl rfl ?_
          | refine W_callBT rfl rfl rfl (hS _ _ _ _ hsm hsl) (decide_eq_true (by assumption)) rfl ?_
          | refine W_call rfl rfl rfl (hUm _ _ _ hsm) rfl rfl ?_
          | refine W_call rfl rfl rfl (hUl _ _ _ hsl) rfl rfl ?_)
      | (refine I_pick ?_; first
          | refine W_pick (v := .int _ _) rfl rfl rfl rfl ?_
          | refine W_pick (v := .bool _) rfl rfl rfl rfl ?_
          | refine W_pick (v := .slice _ _ _) rfl rfl rfl rfl ?_
          | refine W_pick (v := .agg _) rfl rfl rfl rfl ?_
          | refine W_skip rfl ?_)
      | (refine I_extract ?_; first
          | refine W_extract (d := .int _ _) rfl rfl rfl rfl ?_
          | refine W_extract (d := .bool _) rfl rfl rfl rfl ?_
          | refine W_extract (d := .slice _ _ _) rfl rfl rfl rfl ?_
          | refine W_extract (d := .agg _) rfl rfl rfl rfl ?_
          | refine W_extract (d := .ptr _ _) rfl rfl rfl rfl ?_
          | refine W_extract (d := .func _ _) rfl rfl rfl rfl ?_
          | refine W_skip rfl ?_)
      | (refine I_build ?_; first
          | refine W_build (cs := [_, _, _]) rfl rfl rfl ?_
          | refine W_build (cs := [_, _, _, _, _, _]) rfl rfl rfl ?_
          | refine W_build (cs := [_, _, _, _, _, _, _, _, _]) rfl rfl rfl ?_
          | refine W_skip rfl ?_)
      | (refine I_store ?_; first
          | refine W_store (cs' := [_, _, _]) rfl rfl (upd_same _ _ _) rfl (by first | exact Nat.zero_le _ | assumption | exact Nat.le_trans hlim (Nat.zero_le _) | omega) rfl rfl rfl ?_
          | refine W_store (cs' := [_, _, _]) rfl rfl ((upd_ne _ _ (by omega)).trans (upd_same _ _ _)) rfl (by first | exact Nat.zero_le _ | assumption | exact Nat.le_trans hlim (Nat.zero_le _) | omega) rfl rfl rfl ?_
          | refine W_store (cs' := [_, _, _, _, _, _]) rfl rfl (upd_same _ _ _) rfl (by first | exact Nat.zero_le _ | assumption | exact Nat.le_trans hlim (Nat.zero_le _) | omega) rfl rfl rfl ?_
          | refine W_store (cs' := [_, _, _, _, _, _]) rfl rfl ((upd_ne _ _ (by omega)).trans (upd_same _ _ _)) rfl (by first | exact Nat.zero_le _ | assumption | exact Nat.le_trans hlim (Nat.zero_le _) | omega) rfl rfl rfl ?_
          | refine W_store (cs' := [_, _, _, _, _, _, _, _, _]) rfl rfl (upd_same _ _ _) rfl (by first | exact Nat.zero_le _ | assumption | exact Nat.le_trans hlim (Nat.zero_le _) | omega) rfl rfl rfl ?_
          | refine W_store (cs' := [_, _, _, _, _, _, _, _, _]) rfl rfl ((upd_ne _ _ (by omega)).trans (upd_same _ _ _)) rfl (by first | exact Nat.zero_le _ | assumption | exact Nat.le_trans hlim (Nat.zero_le _) | omega) rfl rfl rfl ?_
          | refine W_store (cs' := [_, _, _]) rfl rfl rfl rfl (by first | exact Nat.zero_le _ | omega) rfl rfl rfl ?_
          | refine W_store (cs' := [_, _, _, _, _, _]) rfl rfl rfl rfl (by first | exact Nat.zero_le _ | omega) rfl rfl rfl ?_
          | refine W_store (cs' := [_, _, _, _, _, _, _, _, _]) rfl rfl rfl rfl (by first | exact Nat.zero_le _ | omega) rfl rfl rfl ?_
          | refine W_skip0 rfl ?_)
      | refine W_not rfl rfl rfl ?_
      | refine W_neg rfl rfl rfl (by first | exact w64 (by omega) | rfl) ?_
      | (refine W_eqlP rfl rfl rfl rfl rfl rfl (eqAt3 _ _ _ _ _ _) ?_ ?_ <;> intro hq)
      | (refine W_eqlP rfl rfl rfl rfl rfl rfl (eqAt4 _ _ _ _ _ _ _ _) ?_ ?_ <;> intro hq)
      | (refine W_neqP rfl rfl rfl rfl rfl rfl (eqAt3 _ _ _ _ _ _) ?_ ?_ <;> intro hq)
      | (refine W_neqP rfl rfl rfl rfl rfl rfl (eqAt4 _ _ _ _ _ _ _ _) ?_ ?_ <;> intro hq)
      | (refine W_eqlP rfl rfl rfl rfl rfl rfl rfl ?_ ?_ <;> intro _)
      | (refine W_neqP rfl rfl rfl rfl rfl rfl rfl ?_ ?_ <;> intro _)
      | refine W_lenM rfl rfl rfl ?_
      | refine W_lenS rfl rfl rfl ?_
      | refine W_lenR rfl rfl rfl ?_
      | refine W_faddr rfl rfl rfl ?_
      | refine W_faddrE rfl rfl rfl ?_
      | refine W_alloc rfl rfl ?_
      | refine W_iaddrA rfl rfl rfl rfl (by decide) ?_
      | refine W_iaddrAE rfl rfl rfl rfl (by decide) ?_
      | refine W_skip rfl ?_
      | refine W_iaddr rfl rfl rfl rfl (by first | rfl | exact sz_of (by assumption) (by omega)) (by first | decide | (simp only [List.length_map]; omega)) ?_
      | refine W_iaddrRN rfl rfl rfl rfl rfl (by decide) ?_
      | refine W_iaddrR rfl rfl rfl rfl (by first | decide | omega) ?_
      | refine W_bsliceS (ds := [.slice _ _ _]) (ys := [.slice _ _ _]) rfl rfl rfl rfl (by decide) rfl ?_
      | refine W_bsliceS (ds := [.slice _ _ _, .slice _ _ _]) (ys := [.slice _ _ _, .slice _ _ _]) rfl rfl rfl rfl (by decide) rfl ?_
      | refine W_bsliceS (ds := [.slice _ _ _, .slice _ _ _, .slice _ _ _]) (ys := [.slice _ _ _, .slice _ _ _, .slice _ _ _]) rfl rfl rfl rfl (by decide) rfl ?_
      | refine W_bslice (ys := []) rfl rfl rfl (by decide) rfl ?_
      | refine W_bslice (ys := [_]) rfl rfl rfl (by decide) rfl ?_
      | refine W_bslice (ys := [_, _]) rfl rfl rfl (by decide) rfl ?_
      | refine W_bslice (ys := [_, _, _]) rfl rfl rfl (by decide) rfl ?_
      | refine W_skip rfl ?_
      | refine WS_nil ?_)
    | refine WC_seq ?_
    | refine WC_opsS ?_
    | refine WC_drawS ?_
    | refine WC_skip ?_
    | refine WC_condT rfl ?_
    | refine WC_condF rfl ?_
    | refine WC_block ?_
    | refine WC_exit ?_
    | refine WC_ret ?_
    | refine okF_intro rfl ?_)
        all_goals exact fin _ _ hlim rfl rfl rfl rfl rfl
end Go.Led
