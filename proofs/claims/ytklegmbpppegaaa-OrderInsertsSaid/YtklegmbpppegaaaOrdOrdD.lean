/-
  slices' insertion sort, on a row of routes.
-/
import Derived.Test.YtklegmbpppegaaaOrdOrdB
set_option linter.unusedVariables false
set_option linter.unusedSimpArgs false
set_option linter.unnecessarySimpa false
namespace Go.Ord
open Go.Ev
set_option linter.unusedVariables false
set_option linter.unusedSimpArgs false
/-! ### Plain -/
def ltR (x y : Rt) : Bool := decide (cmpR x.hs x.ar y.hs y.ar < 0)
/-- One more, behind all that are not behind it: of a row, the last one first. -/
def insRev (x : Rt) : List Rt → List Rt
  | [] => [x]
  | y :: r => if ltR x y then y :: insRev x r else x :: y :: r
def insL (S : List Rt) (x : Rt) : List Rt := (insRev x S.reverse).reverse
/-- The stable sort. -/
def ssort (l : List Rt) : List Rt := l.foldl insL []
theorem insL_nil (x : Rt) : insL [] x = [x] := rfl
theorem insL_snoc (S : List Rt) (y x : Rt) : insL (S ++ [y]) x = if ltR x y then insL S x ++ [y] else S ++ [y, x] := by
  unfold insL
  rw [List.reverse_append]
  simp only [List.reverse_cons, List.reverse_nil, List.nil_append, List.cons_append, insRev]
  split
  · simp
  · simp
theorem insRev_len (x : Rt) : ∀ S : List Rt, (insRev x S).length = S.length + 1
  | [] => rfl
  | y :: r => by
    rw [insRev]
    split
    · simp [insRev_len x r]
    · simp
theorem insL_len (S : List Rt) (x : Rt) : (insL S x).length = S.length + 1 := by simp [insL, insRev_len]
/-! ### The code -/
theorem rt_cells {L : List Rt} : ∀ d ∈ L.map Rt.e, d.cells.length = 2 := fun d hd => by
  obtain ⟨r, _, rfl⟩ := List.mem_map.1 hd
  rfl
theorem rt_at {L : List Rt} {i : Nat} {x : Rt} (h : L[i]? = some x) : (L.map Rt.e)[i]? = some (.agg [.slice .no 3 (x.hs.map Hp.e), .int .i64 x.ar]) := by rw [List.getElem?_map, h]; rfl
/-- All else is as it was. -/
structure FrR (st st' : Store) (p : Nat) : Prop where
  lim : st'.lim = st.lim
  tlim : st'.tlim = st.tlim
  toks : st'.toks = st.toks
  ntok : st'.ntok = st.ntok
  next : st'.next = st.next
  box : ∀ q, q ≠ p → st'.boxes q = st.boxes q
theorem FrR.refl (st : Store) (p : Nat) : FrR st st p := ⟨rfl, rfl, rfl, rfl, rfl, fun _ _ => rfl⟩
theorem FrR.trans {st st1 st2 : Store} {p : Nat} (a : FrR st st1 p) (b : FrR st1 st2 p) : FrR st st2 p := ⟨b.lim.trans a.lim, b.tlim.trans a.tlim, b.toks.trans a.toks, b.ntok.trans a.ntok, b.next.trans a.next, fun q h => (b.box q h).trans (a.box q h)⟩
def Short (L : List Rt) : Prop := ∀ r ∈ L, r.hs.length ≤ 1000000
theorem swap_eq {A rest : List Rt} {x y : Rt} : (((A ++ y :: x :: rest).map Rt.e).set (A.length + 1) y.e).set A.length x.e = (A ++ x :: y :: rest).map Rt.e := by
  induction A with
  | nil => rfl
  | cons z A ih => simpa using ih
set_option maxHeartbeats 8000000 in
theorem l_inn (p n c : Nat) (P : List Rt) : ∀ (m : Nat) (S1 : List Rt), S1.length = m → ∀ (x : Rt) (rest : List Rt), n = (P ++ S1 ++ x :: rest).length → n ≤ 1000000 → Short (P ++ S1 ++ x :: rest) → ∀ (ρ : Nat → D) (st : Store) (b i : Int), RowIs st p 2 ((P ++ S1 ++ x :: rest).map Rt.e) →
    ρ 0 = .rs p 0 2 n c → ρ 1 = .int .i64 P.length → ρ 2 = .int .i64 b → ρ 3 = .func 21 [] → ρ 8 = .int .i64 i → ρ 9 = .int .i64 ((P ++ S1).length : Nat) → ∀ (Q : X → (Nat → D) → Store → Prop),
    (∀ ρ' st', FrR st st' p → RowIs st' p 2 ((P ++ insL S1 x ++ rest).map Rt.e) → ρ' 0 = .rs p 0 2 n c → ρ' 1 = .int .i64 P.length → ρ' 2 = .int .i64 b → ρ' 3 = .func 21 [] → ρ' 8 = .int .i64 i → Q (.exit 2) ρ' st') → WC Γ (.loop c_slices_insertionSortCmpFunc_Route_l0) ρ st Q := by
  intro m
  induction m with
  | zero =>
    intro S1 hS x rest hn hnl hsh ρ st b i hR h0 h1 h2 h3 h8 h9 Q hQ
    obtain rfl := List.length_eq_zero_iff.1 hS
    rw [List.append_nil] at h9
    rw [insL_nil] at hQ
    rw [← upd_self h0, ← upd_self h1, ← upd_self h2, ← upd_self h3, ← upd_self h8, ← upd_self h9]
    refine WC_loop ?_
    repeat' (first
 | (refine I_WS ?_; first
 | (refine I_mov ?_; first
 | refine W_skip rfl ?_
 | refine W_mov (v := .int _ _) rfl rfl rfl ?_
 | refine W_mov (v := .bool _) rfl rfl rfl ?_)
 | (refine I_bin ?_; first
 | refine W_skip rfl ?_
 | refine W_gtrF rfl rfl rfl rfl (by omega) ?_)
 | (refine I_load ?_; first
 | refine W_skip rfl ?_)
 | (refine I_call ?_; first
 | refine W_skip rfl ?_)
 | (refine I_pick ?_; first
 | refine W_pick (v := .bool _) rfl rfl rfl rfl ?_)
 | refine W_skip rfl ?_
 | refine WS_nil ?_)
 | refine okF_intro (okFlags_onlyR rfl) ?_
 | refine WC_seq ?_
 | refine WC_drawS ?_
 | refine WC_condF rfl ?_
 | refine WC_exit ?_)
    refine hQ _ _ (FrR.refl _ _) (by simpa using hR) ?_ ?_ ?_ ?_ ?_ <;> rfl
  | succ m ih =>
    intro S1 hS x rest hn hnl hsh ρ st b i hR h0 h1 h2 h3 h8 h9 Q hQ
    obtain ⟨S, y, rfl⟩ : ∃ S y, S1 = S ++ [y] := by
      rcases List.eq_nil_or_concat S1 with h | ⟨S, y, h⟩
      · subst h; simp at hS
      · exact ⟨S, y, by rw [h, List.concat_eq_append]⟩
    have e1 : P ++ (S ++ [y]) ++ x :: rest = (P ++ S) ++ y :: x :: rest := by simp
    have e2 : ((P ++ (S ++ [y])).length : Nat) = (P ++ S).length + 1 := by rw [← List.append_assoc, List.length_append]; rfl
    rw [e1] at hn hR hsh
    rw [e2] at h9
    rw [insL_snoc] at hQ
    have hnx := ih S (by simpa using hS) x (y :: rest)
    have hx : ((P ++ S) ++ y :: x :: rest)[(P ++ S).length + 1]? = some x := by
      rw [List.getElem?_append_right (by omega)]; simp
    have hy : ((P ++ S) ++ y :: x :: rest)[(P ++ S).length]? = some y := by
      rw [List.getElem?_append_right (by omega)]; simp
    have hxl := hsh x (by simp)
    have hyl := hsh y (by simp)
    have hPS : P.length ≤ (P ++ S).length := by simp
    have hsh2 : Short (P ++ S ++ x :: y :: rest) := fun r hr => hsh r (by simp at hr ⊢; rcases hr with h | h | h | h | h <;> simp [h])
    have hsw := @swap_eq (P ++ S) rest x y
    have hn2 : n = (P ++ S ++ x :: y :: rest).length := by rw [hn]; simp
    clear ih
    have hback : (P ++ S ++ y :: x :: rest) = P ++ (S ++ [y, x]) ++ rest := by simp
    generalize hA : P ++ S = A at *
    generalize hL : A ++ y :: x :: rest = L at *
    have hLn : L.length = n := hn.symm
    have hAn : A.length + 1 < n := by rw [hn, ← hL]; simp
    have hgt : (P.length : Int) < ((A.length + 1 : Nat) : Int) := by omega
    have hsub : IntKind.i64.wrap (((A.length + 1 : Nat) : Int) - 1) = ((A.length : Nat) : Int) := by rw [w64 (by omega)]; omega
    have hC := fun t t' => s_CompareR x.hs x.ar y.hs y.ar hxl hyl t t' 3 3 (.inl rfl) (.inl rfl)
    have hx' := rt_at hx
    have hy' := rt_at hy
    have hi1 : A.length + 1 < (L.map Rt.e).length := by rw [List.length_map]; omega
    have hA0 : A.length < n := by omega
    rw [← upd_self h0, ← upd_self h1, ← upd_self h2, ← upd_self h3, ← upd_self h8, ← upd_self h9]
    refine WC_loop ?_
    by_cases hlt : cmpR x.hs x.ar y.hs y.ar < 0
    · rw [if_pos (show ltR x y = true from decide_eq_true hlt)] at hQ
      generalize cmpR x.hs x.ar y.hs y.ar = cc at *
      repeat' (first
 | (refine I_WS ?_; first
 | refine W_sub (s := ((A.length : Nat) : Int)) rfl rfl rfl rfl hsub ?_
 | refine W_iaddrR (j := A.length + 1) rfl rfl rfl rfl hAn ?_
 | refine W_iaddrR (j := A.length) rfl rfl rfl rfl hA0 ?_
 | refine W_lssT rfl rfl rfl rfl hlt ?_
 | (refine I_mov ?_; first
 | refine W_mov (v := .int _ _) rfl rfl rfl ?_
 | refine W_mov (v := .bool _) rfl rfl rfl ?_
 | refine W_mov (v := .func _ _) rfl rfl rfl ?_
 | refine W_mov (v := .rs _ _ _ _ _) rfl rfl rfl ?_)
 | (refine I_bin ?_; first
 | refine W_gtrT rfl rfl rfl rfl (by omega) ?_)
 | (refine I_load ?_; first
 | refine W_loadRow (j := A.length + 1) rfl rfl hR.at (Nat.zero_add _) rt_cells hx' rfl ?_
 | refine W_loadRow (j := A.length) rfl rfl hR.at (Nat.zero_add _) rt_cells hy' rfl ?_)
 | (refine I_call ?_; first
 | refine W_call rfl rfl rfl (hC _ _) rfl rfl ?_)
 | (refine I_pick ?_; first
 | refine W_pick (v := .bool _) rfl rfl rfl rfl ?_)
 | (refine I_store ?_; first
 | (refine W_storeRow (j := A.length + 1) rfl rfl rfl hR (Nat.zero_add _) rt_cells hi1 rfl rfl rfl ?_ <;> intro st1 f1 f2 f3 f4 f5 hR1 hb2))
 | refine WS_nil ?_)
 | refine okF_intro (okFlags_onlyR rfl) ?_
 | refine WC_seq ?_
 | refine WC_drawS ?_
 | refine WC_skip ?_
 | refine WC_condT rfl ?_
 | refine WC_block ?_)
      have hi2 : A.length < ((L.map Rt.e).set (A.length + 1) (.agg [.slice .no 3 (y.hs.map Hp.e), .int .i64 y.ar])).length := by rw [List.length_set, List.length_map]; omega
      refine W_storeRow (j := A.length) rfl rfl rfl hR1 (Nat.zero_add _) ?_ hi2 rfl rfl rfl ?_
      · intro d hd
        rcases List.mem_or_eq_of_mem_set hd with hd | rfl
        · exact rt_cells d hd
        · rfl
      intro st2 g1 g2 g3 g4 g5 hR2 hb3
      have hR3 : RowIs st2 p 2 ((A ++ x :: y :: rest).map Rt.e) := by rw [← hsw]; exact hR2
      repeat' (first
 | (refine I_WS ?_; first
 | refine W_sub (s := ((A.length : Nat) : Int)) rfl rfl rfl rfl hsub ?_
 | (refine I_mov ?_; first
 | refine W_mov (v := .int _ _) rfl rfl rfl ?_)
 | refine WS_nil ?_)
 | refine okF_intro (by simp [okFlags, List.range, List.range.loop, Fl.clash]) ?_
 | refine WC_opsS ?_)
      refine hnx hn2 hnl hsh2 _ _ b i hR3 ?_ ?_ ?_ ?_ ?_ ?_ Q (fun ρ' st' hF hR' k0 k1 k2 k3 k8 => hQ ρ' st' (FrR.trans ⟨g1.trans f1, g2.trans f2, g3.trans f3, g4.trans f4, g5.trans f5, fun q hq => (hb3 q hq).trans (hb2 q hq)⟩ hF) (by simpa using hR') k0 k1 k2 k3 k8) <;> rfl
    · rw [if_neg (show ¬ ltR x y = true from fun h => hlt (of_decide_eq_true h))] at hQ
      have hlt' : 0 ≤ cmpR x.hs x.ar y.hs y.ar := by omega
      generalize cmpR x.hs x.ar y.hs y.ar = cc at *
      repeat' (first
 | (refine I_WS ?_; first
 | refine W_sub (s := ((A.length : Nat) : Int)) rfl rfl rfl rfl hsub ?_
 | refine W_iaddrR (j := A.length + 1) rfl rfl rfl rfl hAn ?_
 | refine W_iaddrR (j := A.length) rfl rfl rfl rfl hA0 ?_
 | refine W_lssF rfl rfl rfl rfl hlt' ?_
 | (refine I_mov ?_; first
 | refine W_mov (v := .int _ _) rfl rfl rfl ?_
 | refine W_mov (v := .bool _) rfl rfl rfl ?_
 | refine W_mov (v := .func _ _) rfl rfl rfl ?_
 | refine W_mov (v := .rs _ _ _ _ _) rfl rfl rfl ?_)
 | (refine I_bin ?_; first
 | refine W_gtrT rfl rfl rfl rfl (by omega) ?_)
 | (refine I_load ?_; first
 | refine W_loadRow (j := A.length + 1) rfl rfl hR.at (Nat.zero_add _) rt_cells hx' rfl ?_
 | refine W_loadRow (j := A.length) rfl rfl hR.at (Nat.zero_add _) rt_cells hy' rfl ?_)
 | (refine I_call ?_; first
 | refine W_call rfl rfl rfl (hC _ _) rfl rfl ?_)
 | (refine I_pick ?_; first
 | refine W_pick (v := .bool _) rfl rfl rfl rfl ?_)
 | refine WS_nil ?_)
 | refine okF_intro (okFlags_onlyR rfl) ?_
 | refine WC_seq ?_
 | refine WC_drawS ?_
 | refine WC_condF rfl ?_
 | refine WC_exit ?_)
      refine hQ _ _ (FrR.refl _ _) ?_ ?_ ?_ ?_ ?_ ?_
      · rw [← hback]; exact hR
      all_goals rfl
end Go.Ord
