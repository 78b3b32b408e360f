/-
  What the heap's functions come to: one ahead of another one.
-/
import Derived.Test.YtjcilbnbciclpaaLeaLeaC
set_option linter.unusedVariables false
set_option linter.unusedSimpArgs false
set_option linter.unnecessarySimpa false
namespace Go.Lea
open Go.Ev
theorem s_isNaN (a : Int) : EvP Γ 65 [.int .i64 a] (.bool false) := by
  refine EvP_code rfl rfl ?_
  repeat' (first
 | (refine I_WS ?_; first
 | (refine I_mov ?_; first
 | refine W_mov (v := .int _ _) rfl rfl rfl ?_
 | refine W_mov (v := .bool _) rfl rfl rfl ?_)
 | (refine I_bin ?_; first
 | refine W_neqF rfl rfl rfl rfl (by omega) ?_)
 | refine WS_nil ?_)
 | refine WC_seq ?_
 | refine WC_opsS ?_
 | refine WC_ret ?_)
  all_goals first | exact fin_bool (by simp) rfl rfl | (exfalso; simp_all; done) | (exfalso; omega)
def cmpI (a b : Int) : Int := if a < b then -1 else if b < a then 1 else 0
theorem s_Compare (a b : Int) : EvP Γ 36 [.int .i64 a, .int .i64 b] (.int .i64 (cmpI a b)) := by
  refine EvP_code rfl rfl ?_
  repeat' (first
 | (refine I_WS ?_; first
 | (refine I_mov ?_; first
 | refine W_mov (v := .int _ _) rfl rfl rfl ?_
 | refine W_mov (v := .bool _) rfl rfl rfl ?_)
 | (refine I_bin ?_; first
 | (refine W_lss rfl rfl rfl rfl ?_ ?_ <;> intro _)
 | (refine W_gtr rfl rfl rfl rfl ?_ ?_ <;> intro _))
 | (refine I_call ?_; first
 | refine W_call rfl rfl rfl (s_isNaN _) rfl rfl ?_)
 | refine WS_nil ?_)
 | refine WC_seq ?_
 | refine WC_opsS ?_
 | refine WC_skip ?_
 | refine WC_condT rfl ?_
 | refine WC_condF rfl ?_
 | refine WC_ret ?_)
  all_goals refine fin_int (by simp) rfl ?_
  all_goals unfold cmpI
  all_goals simp_all
  all_goals omega
def orI : List Int → Int
  | [] => 0
  | x :: l => if x = 0 then orI l else x
theorem l_Or (t : Tok) (ls : List Int) (hl : ls.length ≤ 1073741824) : ∀ (post pre : List Int), ls = pre ++ post → (∀ x ∈ pre, x = 0) →
    ∀ (ρ : Nat → D) (h3 : ρ 3 = .int .i64 0) (h6 : ρ 6 = .slice t 1 (ls.map (D.int .i64))) (h7 : ρ 7 = .int .i64 ls.length) (h8 : ρ 8 = .int .i64 pre.length) (Q : X → (Nat → D) → Store → Prop),
    (orI ls = 0 → ∀ ρ', ρ' 3 = .int .i64 0 → Q (.exit 0) ρ' Store.empty) → (∀ ρ', ρ' 2 = .int .i64 (orI ls) → Q .ret ρ' Store.empty) → WC Γ (.loop c_cmp_Or_int_l0) ρ Store.empty Q := by
  intro post
  induction post with
  | nil =>
    intro pre hp hz ρ h3 h6 h7 h8 Q hQ hQ2
    rw [List.append_nil] at hp
    subst hp
    have : orI ls = 0 := by
      clear hl h6 h7 h8 hQ hQ2
      induction ls with
      | nil => rfl
      | cons x l ih => rw [orI, if_pos (hz x (by simp)), ih (fun y hy => hz y (by simp [hy]))]
    rw [← upd_self h3, ← upd_self h6, ← upd_self h7, ← upd_self h8]
    refine WC_loop ?_
    repeat' (first
 | (refine I_WS ?_; first
 | (refine I_bin ?_; first
 | refine W_lssF rfl rfl rfl rfl (by omega) ?_)
 | refine WS_nil ?_)
 | refine WC_seq ?_
 | refine WC_opsS ?_
 | refine WC_condF rfl ?_
 | refine WC_exit ?_)
    exact hQ this _ rfl
  | cons x post ih =>
    intro pre hp hz ρ h3 h6 h7 h8 Q hQ hQ2
    have hv : ls[pre.length]? = some x := by rw [hp]; simp
    have hlen : ls.length = pre.length + (post.length + 1) := by rw [hp]; simp
    rw [← upd_self h3, ← upd_self h6, ← upd_self h7, ← upd_self h8]
    refine WC_loop ?_
    repeat' (first
 | (refine I_WS ?_; first
 | (refine I_mov ?_; first
 | refine W_mov (v := .int _ _) rfl rfl rfl ?_)
 | (refine I_bin ?_; first
 | refine W_lssT rfl rfl rfl rfl (by omega) ?_
 | (refine W_neq rfl rfl rfl rfl ?_ ?_ <;> intro _)
 | refine W_add rfl rfl rfl rfl (by first | exact w64 (by omega) | rfl) ?_)
 | (refine I_load ?_; first
 | refine W_loadE (agg := false) (d := .int _ _) rfl rfl rfl hv rfl ?_)
 | refine W_iaddr rfl rfl rfl rfl (by first | rfl | exact sz_of (by assumption) (by omega)) (by first | decide | (simp only [List.length_map]; omega)) ?_
 | refine WS_nil ?_)
 | refine WC_seq ?_
 | refine WC_opsS ?_
 | refine WC_skip ?_
 | refine WC_condT rfl ?_
 | refine WC_condF rfl ?_
 | refine WC_block ?_
 | refine WC_ret ?_)
    · rename_i hx
      exact ih (pre ++ [x]) (by simp [hp]) (fun y hy => by
        rcases List.mem_append.mp hy with h | h
        · exact hz y h
        · rw [List.mem_singleton.mp h]; exact hx) _ rfl rfl rfl (by rw [List.length_append]; rfl) Q hQ hQ2
    · rename_i hx
      refine hQ2 _ ?_
      have : orI ls = x := by
        rw [hp]
        clear hp hl h6 h7 h8 hQ hQ2 ih hv hlen
        induction pre with
        | nil => simp only [List.nil_append, orI]; rw [if_neg hx]
        | cons y pre ih => rw [List.cons_append, orI, if_pos (hz y (by simp)), ih (fun z hz' => hz z (by simp [hz']))]
      rw [this]
      rfl
theorem s_Or (t : Tok) (ls : List Int) (hl : ls.length ≤ 1073741824) : EvP Γ 35 [.slice t 1 (ls.map (D.int .i64))] (.int .i64 (orI ls)) := by
  refine EvP_code rfl rfl ?_
  repeat' (first
 | (refine I_WS ?_; first
 | (refine I_mov ?_; first
 | refine W_mov (v := .int _ _) rfl rfl rfl ?_
 | refine W_mov (v := .slice _ _ _) rfl rfl rfl ?_)
 | refine W_lenM rfl rfl rfl ?_
 | refine WS_nil ?_)
 | refine WC_seq ?_
 | refine WC_opsS ?_
 | refine WC_block ?_)
  refine l_Or t ls hl ls [] rfl (by simp) _ rfl rfl rfl rfl _ (fun h0 ρ h3 => ?_) (fun ρ h2 => ?_)
  · rw [← upd_self h3]
    repeat' (first
 | (refine I_WS ?_; first
 | (refine I_mov ?_; first
 | refine W_mov (v := .int _ _) rfl rfl rfl ?_)
 | refine WS_nil ?_)
 | refine WC_seq ?_
 | refine WC_opsS ?_
 | refine WC_ret ?_)
    exact fin_int (by simp) rfl h0.symm
  · exact fin_int (by simp) (show some (ρ 2) = _ by rw [h2]) rfl
theorem s_Or2 (t : Tok) (a b : Int) : EvP Γ 35 [.slice t 1 [.int .i64 a, .int .i64 b]] (.int .i64 (orI [a, b])) := s_Or t [a, b] (by simp)
structure Rd where
  node : Int
  at' : Int
deriving DecidableEq
def Rd.e (r : Rd) : D := .agg [.int .i64 r.node, .int .i64 r.at']
def Rd.lt (a b : Rd) : Prop := a.at' < b.at' ∨ (a.at' = b.at' ∧ a.node < b.node)
instance (a b : Rd) : Decidable (a.lt b) := by unfold Rd.lt; infer_instance
theorem rd_cells {l : List Rd} : ∀ d ∈ l.map Rd.e, d.cells.length = 2 := fun d hd => by
  obtain ⟨b, _, rfl⟩ := List.mem_map.mp hd; rfl
theorem rd_at {l : List Rd} {i : Nat} {b : Rd} (h : l[i]? = some b) : (l.map Rd.e)[i]? = some (.agg [.int .i64 b.node, .int .i64 b.at']) := by
  rw [List.getElem?_map, h]; rfl
theorem lt_cmp (a b : Rd) : decide (orI [cmpI a.at' b.at', cmpI a.node b.node] < 0) = decide (a.lt b) := by
  congr 1
  simp only [orI, cmpI, Rd.lt, eq_iff_iff]
  repeat' split
  all_goals constructor
  all_goals intro h
  all_goals omega
theorem s_ahead (xs : List Rd) (hx : xs.length ≤ 1073741824) (st : Store) (h r c i k : Nat) (a b : Rd) (hb : (st.boxes h).bind Box.cs = some [.rs r 0 2 xs.length c]) (hh : h < st.next) (hr : r < st.next) (hR : RowAt st r 2 (xs.map Rd.e)) (ha : xs[i]? = some a) (hk : xs[k]? = some b) :
    EvRO Γ 71 [.ptr h 0, .int .i64 i, .int .i64 k] st (.bool (decide (a.lt b))) := by
  have hi' : i < xs.length := (List.getElem?_eq_some_iff.mp ha).1
  have hk' : k < xs.length := (List.getElem?_eq_some_iff.mp hk).1
  have ha' := rd_at ha
  have hb' := rd_at hk
  refine EvRO_code rfl rfl rfl ?_
  repeat' (first
 | (refine I_WS ?_; first
 | (refine I_mov ?_; first
 | refine W_mov (v := .bool _) rfl rfl rfl ?_)
 | refine WS_nil ?_)
 | refine WC_seq ?_
 | refine WC_opsS ?_)
  refine WC_drawAS ?_
  simp only [o3, o4, o5, m3, hoist, hoist1, Store.ahead, withB, withB1, Nat.add_assoc, Nat.reduceAdd, List.length_cons, List.length_nil]
  have q1 : ∀ {p : Nat} {x y : Option Box}, p < st.next → upd (upd st.boxes (st.next + 14) x) (st.next + 15) y p = st.boxes p := fun {p x y} hp => (upd_ne _ _ (by omega)).trans (upd_ne _ _ (by omega))
  have q2 : ∀ {x y : Option Box}, upd (upd st.boxes (st.next + 14) x) (st.next + 15) y (st.next + 14) = x := fun {x y} => (upd_ne _ _ (by omega)).trans (upd_same _ _ _)
  have q3 : ∀ {x y z : Option Box}, upd (upd (upd st.boxes (st.next + 14) x) (st.next + 15) y) (st.next + 14) z (st.next + 15) = y := fun {x y z} => (upd_ne _ _ (by omega)).trans (upd_same _ _ _)
  have q4 : ∀ {x y z u : Option Box}, upd (upd (upd (upd st.boxes (st.next + 14) x) (st.next + 15) y) (st.next + 14) z) (st.next + 15) u (st.next + 14) = z := fun {x y z u} => (upd_ne _ _ (by omega)).trans (upd_same _ _ _)
  have hb1 : ∀ {x y : Option Box}, ((upd (upd st.boxes (st.next + 14) x) (st.next + 15) y) h).bind Box.cs = some [.rs r 0 2 xs.length c] := fun {x y} => by rw [q1 hh]; exact hb
  generalize hN : st.next = N at *
  repeat' (first
 | (refine I_WS ?_; first
 | refine W_iaddrR (j := i) rfl rfl rfl rfl hi' ?_
 | refine W_iaddrR (j := k) rfl rfl rfl rfl hk' ?_
 | refine W_store (cs' := [_, _]) rfl rfl q2 rfl (Nat.le_add_right _ _) rfl rfl rfl ?_
 | refine W_store (cs' := [_, _]) rfl rfl q3 rfl (Nat.le_add_right _ _) rfl rfl rfl ?_
 | (refine I_mov ?_; first
 | refine W_mov (v := .int _ _) rfl rfl rfl ?_
 | refine W_mov (v := .ptr _ _) rfl rfl rfl ?_)
 | (refine I_load ?_; first
 | refine W_loadC (agg := false) (d := .rs r 0 2 xs.length c) rfl rfl rfl hb1 hh rfl ?_
 | refine W_loadRow (j := i) rfl rfl (hR.of (q1 hr)) (Nat.zero_add _) rd_cells ha' rfl ?_
 | refine W_loadRow (j := k) rfl rfl (hR.of (q1 hr)) (Nat.zero_add _) rd_cells hb' rfl ?_)
 | refine W_faddr rfl rfl rfl ?_
 | refine W_nilCheckM rfl rfl ?_
 | refine WS_nil ?_))
  refine ⟨?_, ?_⟩
  · rw [Bool.and_eq_true]
    have e1 : (decide (h < N)) = true := by simp; omega
    have e2 : (decide (r < N)) = true := by simp; omega
    have e3 : (N + 14 == r) = false := by simp; omega
    have e4 : (N + 14 == h) = false := by simp; omega
    have e5 : (h == N + 14) = false := by simp; omega
    have e6 : (r == N + 14) = false := by simp; omega
    have e7 : (h == N + 15) = false := by simp; omega
    have e8 : (r == N + 15) = false := by simp; omega
    constructor
    · simp [okFlags, List.range, List.range.loop, Fl.clash, e3, e4, e5, e6, e7, e8]
    · simp [okTouch, okAt, List.range, List.range.loop, e1, e2]
  repeat' (first
 | (refine I_WS ?_; first
 | (refine I_mov ?_; first
 | refine W_mov (v := .bool _) rfl rfl rfl ?_)
 | (refine I_bin ?_; first
 | (refine W_lss rfl rfl rfl rfl ?_ ?_ <;> intro _))
 | (refine I_load ?_; first
 | refine W_load (agg := false) (d := .int _ _) rfl rfl rfl (bxs (by omega) (bxc rfl)) (Nat.le_add_right _ _) rfl ?_
 | refine W_load (agg := false) (d := .int _ _) rfl rfl rfl (bxc rfl) (Nat.le_add_right _ _) rfl ?_)
 | (refine I_call ?_; first
 | refine W_call rfl rfl rfl (s_Compare _ _) rfl rfl ?_
 | refine W_call rfl rfl rfl (s_Or2 _ _ _) rfl rfl ?_)
 | refine W_faddr rfl rfl rfl ?_
 | refine W_bslice (ys := [_, _]) rfl rfl rfl (by decide) rfl ?_
 | refine WS_nil ?_)
 | refine WC_seq ?_
 | refine WC_drawS ?_
 | refine WC_ret ?_
 | refine okF_intro rfl ?_)
  all_goals
    rename_i hlt
    refine ⟨.inr rfl, ?_⟩
    rw [← lt_cmp]
    simp [hlt]
    rfl
end Go.Lea
/-
  What the heap's functions come to: a heap in memory; two change their places.
-/
namespace Go.Lea
open Go.Ev
structure HW (st : Store) (h : Nat) (o : Option Nat) (xs : List Rd) : Prop where
  lim : st.lim ≤ h
  nx : h < st.next
  sl : (o = none ∧ xs = [] ∧ st.boxes h = some (.cells [.slice .isnil 0 []])) ∨ (∃ r c, o = some r ∧ r ≠ h ∧ st.boxes h = some (.cells [.rs r 0 2 xs.length c]) ∧ RowIs st r 2 (xs.map Rd.e) ∧ xs.length ≤ c)
theorem HW.of {st st' : Store} {h : Nat} {o : Option Nat} {xs : List Rd} (H : HW st h o xs) (hl : st'.lim = st.lim) (hn : st.next ≤ st'.next) (hb : ∀ q, q < st.next → q = h ∨ some q = o → st'.boxes q = st.boxes q) : HW st' h o xs := by
  obtain ⟨h1, h2, h3⟩ := H
  refine ⟨by rw [hl]; exact h1, Nat.lt_of_lt_of_le h2 hn, ?_⟩
  rcases h3 with ⟨e1, e2, e3⟩ | ⟨r, c, e1, e2, e3, e4, e5⟩
  · exact .inl ⟨e1, e2, by rw [hb h h2 (.inl rfl)]; exact e3⟩
  · exact .inr ⟨r, c, e1, e2, by rw [hb h h2 (.inl rfl)]; exact e3, e4.of (by rw [hl]; exact e4.1) (Nat.lt_of_lt_of_le e4.2.1 hn) (hb r e4.2.1 (.inr e1.symm)), e5⟩
structure Fr (st st' : Store) (h : Nat) (o o' : Option Nat) : Prop where
  lim : st'.lim = st.lim
  tlim : st'.tlim = st.tlim
  toks : st'.toks = st.toks
  ntok : st'.ntok = st.ntok
  next : st.next ≤ st'.next
  box : ∀ q, q < st.next → q ≠ h → some q ≠ o → st'.boxes q = st.boxes q
  own : o' = o ∨ ∃ r, o' = some r ∧ st.next ≤ r
theorem Fr.refl (st : Store) (h : Nat) (o : Option Nat) : Fr st st h o o := ⟨rfl, rfl, rfl, rfl, Nat.le_refl _, fun _ _ _ _ => rfl, .inl rfl⟩
theorem Fr.trans {st st1 st2 : Store} {h : Nat} {o o1 o2 : Option Nat} (a : Fr st st1 h o o1) (b : Fr st1 st2 h o1 o2) : Fr st st2 h o o2 where
  lim := b.lim.trans a.lim
  tlim := b.tlim.trans a.tlim
  toks := b.toks.trans a.toks
  ntok := b.ntok.trans a.ntok
  next := Nat.le_trans a.next b.next
  box q hq h1 h2 := by
    refine (b.box q (Nat.lt_of_lt_of_le hq a.next) h1 (fun e => ?_)).trans (a.box q hq h1 h2)
    rcases a.own with rfl | ⟨r, rfl, hr⟩
    · exact h2 e
    · cases e; omega
  own := by
    rcases b.own with rfl | ⟨r, rfl, hr⟩
    · exact a.own
    · exact .inr ⟨r, rfl, Nat.le_trans a.next hr⟩
def swp (xs : List Rd) (i k : Nat) (a b : Rd) : List Rd := (xs.set i b).set k a
theorem s_swap (xs : List Rd) (hx : xs.length ≤ 1073741824) (st : Store) (h : Nat) (o : Option Nat) (i k : Nat) (a b : Rd) (hH : HW st h o xs) (ha : xs[i]? = some a) (hk : xs[k]? = some b) :
    EvRWX Γ 67 [.ptr h 0, .int .i64 i, .int .i64 k] st (fun r st' => r = .tuple [] ∧ HW st' h o (swp xs i k a b) ∧ Fr st st' h o o) := by
  have hi' : i < xs.length := (List.getElem?_eq_some_iff.mp ha).1
  have hk' : k < xs.length := (List.getElem?_eq_some_iff.mp hk).1
  obtain ⟨hlim, hnx, ⟨rfl, rfl, _⟩ | ⟨r, c, rfl, hrh, hb, hR, hcap⟩⟩ := hH
  · simp at hi'
  have hb1 : (st.boxes h).bind Box.cs = some [.rs r 0 2 xs.length c] := by rw [hb]; rfl
  have ha' := rd_at ha
  have hb' := rd_at hk
  have hi2 : i < (xs.map Rd.e).length := by simpa using hi'
  refine EvRWX_code rfl rfl ?_
  repeat' (first
 | (refine I_WS ?_; first
 | refine W_iaddrR (j := i) rfl rfl rfl rfl hi' ?_
 | refine W_iaddrR (j := k) rfl rfl rfl rfl hk' ?_
 | (refine I_mov ?_; first
 | refine W_mov (v := .int _ _) rfl rfl rfl ?_
 | refine W_mov (v := .ptr _ _) rfl rfl rfl ?_)
 | (refine I_load ?_; first
 | refine W_load (agg := false) (d := .rs r 0 2 xs.length c) rfl rfl rfl hb1 hlim rfl ?_
 | refine W_loadRow (j := i) rfl rfl hR.at (Nat.zero_add _) rd_cells ha' rfl ?_
 | refine W_loadRow (j := k) rfl rfl hR.at (Nat.zero_add _) rd_cells hb' rfl ?_)
 | (refine I_store ?_; first
 | (refine W_storeRow (j := i) rfl rfl rfl hR (Nat.zero_add _) rd_cells hi2 rfl rfl rfl ?_ <;> intro st1 e1 e2 e3 e4 e5 hR1 hb2))
 | refine W_faddr rfl rfl rfl ?_
 | refine W_nilCheckM rfl rfl ?_)
 | refine WC_drawS ?_)
  have hk2 : k < ((xs.map Rd.e).set i (.agg [.int .i64 b.node, .int .i64 b.at'])).length := by simpa using hk'
  refine W_storeRow (j := k) rfl rfl rfl hR1 (Nat.zero_add _) ?_ hk2 rfl rfl rfl ?_
  · intro d hd
    rcases List.mem_or_eq_of_mem_set hd with hd | rfl
    · exact rd_cells d hd
    · rfl
  intro st2 f1 f2 f3 f4 f5 hR2 hb3
  have hsw : ((xs.map Rd.e).set i (.agg [.int .i64 b.node, .int .i64 b.at'])).set k (.agg [.int .i64 a.node, .int .i64 a.at']) = (swp xs i k a b).map Rd.e := by
    simp [swp, List.map_set, Rd.e]
  rw [hsw] at hR2
  repeat' (first
 | (refine I_WS ?_; first
 | refine WS_nil ?_)
 | refine okF_intro rfl ?_)
  refine ⟨.inl rfl, _, rfl, rfl, ⟨by rw [f1, e1]; exact hlim, by rw [f5, e5]; exact hnx, .inr ⟨r, c, rfl, hrh, ?_, hR2, by rw [show (swp xs i k a b).length = xs.length by simp [swp]]; exact hcap⟩⟩, ⟨f1.trans e1, f2.trans e2, f3.trans e3, f4.trans e4, Nat.le_of_eq (f5.trans e5).symm, fun q hq h1 h2 => ?_, .inl rfl⟩⟩
  · rw [hb3 h (Ne.symm hrh), hb2 h (Ne.symm hrh), hb]
    simp [swp]
  · have : q ≠ r := fun e => h2 (by rw [e])
    rw [hb3 q this, hb2 q this]
end Go.Lea
/-
  Plain laws of heaps and rows in order; no program in it.
-/
namespace Go.Lea
open Go.Ev
def atR (xs : List Rd) (i : Nat) : Rd := xs.getD i ⟨0, 0⟩
theorem atR_some {xs : List Rd} {i : Nat} (h : i < xs.length) : xs[i]? = some (atR xs i) := by
  simp [atR, List.getD, List.getElem?_eq_getElem h]
theorem atR_of {xs : List Rd} {i : Nat} {a : Rd} (h : xs[i]? = some a) : atR xs i = a := by simp [atR, List.getD, h]
theorem swp_len (xs : List Rd) (i k : Nat) (a b : Rd) : (swp xs i k a b).length = xs.length := by simp [swp]
theorem swp_at {xs : List Rd} {i k : Nat} (hi : i < xs.length) (hk : k < xs.length) (j : Nat) : atR (swp xs i k (atR xs i) (atR xs k)) j = if j = k then atR xs i else if j = i then atR xs k else atR xs j := by
  unfold swp
  by_cases h1 : j = k
  · subst h1
    rw [if_pos rfl]
    exact atR_of (by rw [List.getElem?_set_self (by simpa using hk)])
  · rw [if_neg h1]
    by_cases h2 : j = i
    · subst h2
      rw [if_pos rfl]
      exact atR_of (by rw [List.getElem?_set_ne (Ne.symm h1), List.getElem?_set_self hi])
    · rw [if_neg h2]
      unfold atR List.getD
      rw [List.getElem?_set_ne (Ne.symm h1), List.getElem?_set_ne (Ne.symm h2)]
theorem swp_perm {xs : List Rd} {i k : Nat} (hi : i < xs.length) (hk : k < xs.length) : (swp xs i k (atR xs i) (atR xs k)).Perm xs := by
  have ha := (List.getElem?_eq_some_iff.mp (atR_some hi)).2
  have hb := (List.getElem?_eq_some_iff.mp (atR_some hk)).2
  have := List.set_set_perm (i := i) (j := k) hi hk
  rw [ha, hb] at this
  exact this
theorem lt_irrefl (a : Rd) : ¬ a.lt a := by unfold Rd.lt; omega
theorem lt_asymm {a b : Rd} (h : a.lt b) : ¬ b.lt a := by unfold Rd.lt at *; omega
theorem le_trans' {a b c : Rd} (h : ¬ b.lt a) (h' : ¬ c.lt b) : ¬ c.lt a := by unfold Rd.lt at *; omega
theorem lt_le {a b c : Rd} (h : a.lt b) (h' : ¬ c.lt b) : ¬ c.lt a := by unfold Rd.lt at *; omega
theorem lt_antisymm {a b : Rd} (h : ¬ a.lt b) (h' : ¬ b.lt a) : a = b := by
  obtain ⟨n, t⟩ := a
  obtain ⟨m, u⟩ := b
  unfold Rd.lt at *
  simp only at *
  have : t = u := by omega
  have : n = m := by omega
  subst_vars
  rfl
def hp (xs : List Rd) : Prop := ∀ j, 0 < j → j < xs.length → ¬ (atR xs j).lt (atR xs ((j - 1) / 2))
def hpx (k : Nat) (xs : List Rd) : Prop := (∀ j, 0 < j → j < xs.length → (j - 1) / 2 ≠ k → ¬ (atR xs j).lt (atR xs ((j - 1) / 2))) ∧ (∀ j, 0 < j → j < xs.length → (j - 1) / 2 = k → 0 < k → ¬ (atR xs j).lt (atR xs ((k - 1) / 2)))
def hpu (k : Nat) (xs : List Rd) : Prop := (∀ j, 0 < j → j < xs.length → j ≠ k → ¬ (atR xs j).lt (atR xs ((j - 1) / 2))) ∧ (∀ j, 0 < j → j < xs.length → (j - 1) / 2 = k → 0 < k → ¬ (atR xs j).lt (atR xs ((k - 1) / 2)))
def nxt (xs : List Rd) (l b : Nat) : Nat := if b < xs.length ∧ (atR xs b).lt (atR xs l) then b else l
theorem down_same {xs : List Rd} {k : Nat} (h : hpx k xs) (he : nxt xs (nxt xs k (2 * k + 1)) (2 * k + 2) = k) : hp xs := by
  intro j h0 hj
  by_cases hp : (j - 1) / 2 = k
  · have hjk : j = 2 * k + 1 ∨ j = 2 * k + 2 := by omega
    rw [hp]
    unfold nxt at he
    intro hlt
    by_cases c1 : 2 * k + 1 < xs.length ∧ (atR xs (2 * k + 1)).lt (atR xs k)
    · rw [if_pos c1] at he
      split at he <;> omega
    · rw [if_neg c1] at he
      rcases hjk with rfl | rfl
      · exact c1 ⟨hj, hlt⟩
      · rw [if_pos ⟨hj, hlt⟩] at he
        omega
  · exact h.1 j h0 hj hp
theorem down_step {xs : List Rd} {k l : Nat} (h : hpx k xs) (hk : k < xs.length) (hl : nxt xs (nxt xs k (2 * k + 1)) (2 * k + 2) = l) (hne : l ≠ k) : k < l ∧ l < xs.length ∧ hpx l (swp xs k l (atR xs k) (atR xs l)) := by
  have key : (l = 2 * k + 1 ∨ l = 2 * k + 2) ∧ l < xs.length ∧ (atR xs l).lt (atR xs k) ∧ ∀ j, j < xs.length → (j = 2 * k + 1 ∨ j = 2 * k + 2) → ¬ (atR xs j).lt (atR xs l) := by
    unfold nxt at hl
    by_cases c1 : 2 * k + 1 < xs.length ∧ (atR xs (2 * k + 1)).lt (atR xs k)
    · rw [if_pos c1] at hl
      by_cases c2 : 2 * k + 2 < xs.length ∧ (atR xs (2 * k + 2)).lt (atR xs (2 * k + 1))
      · rw [if_pos c2] at hl
        subst hl
        refine ⟨.inr rfl, c2.1, ?_, fun j hj hjj => ?_⟩
        · have := c1.2; have := c2.2; unfold Rd.lt at *; omega
        · rcases hjj with rfl | rfl
          · exact lt_asymm c2.2
          · exact lt_irrefl _
      · rw [if_neg c2] at hl
        subst hl
        refine ⟨.inl rfl, c1.1, c1.2, fun j hj hjj => ?_⟩
        rcases hjj with rfl | rfl
        · exact lt_irrefl _
        · exact fun h => c2 ⟨hj, h⟩
    · rw [if_neg c1] at hl
      by_cases c2 : 2 * k + 2 < xs.length ∧ (atR xs (2 * k + 2)).lt (atR xs k)
      · rw [if_pos c2] at hl
        subst hl
        refine ⟨.inr rfl, c2.1, c2.2, fun j hj hjj => ?_⟩
        rcases hjj with rfl | rfl
        · intro hlt
          refine c1 ⟨hj, ?_⟩
          have := c2.2; unfold Rd.lt at *; omega
        · exact lt_irrefl _
      · rw [if_neg c2] at hl
        exact absurd hl.symm hne
  obtain ⟨k1, k2, k3, k4⟩ := key
  refine ⟨by omega, k2, ?_, ?_⟩
  · intro j h0 hj hjp
    rw [swp_len] at hj
    rw [swp_at hk k2, swp_at hk k2]
    by_cases e1 : j = l
    · have : (j - 1) / 2 = k := by omega
      rw [if_pos e1, this, if_neg (by omega), if_pos rfl]
      exact lt_asymm k3
    · rw [if_neg e1]
      by_cases e2 : j = k
      · subst e2
        rw [if_pos rfl, if_neg (by omega), if_neg (by omega)]
        exact h.2 l (by omega) k2 (by omega) h0
      · rw [if_neg e2]
        by_cases e3 : (j - 1) / 2 = k
        · rw [e3, if_neg (by omega), if_pos rfl]
          exact k4 j hj (by omega)
        · rw [if_neg hjp, if_neg e3]
          exact h.1 j h0 hj e3
  · intro j h0 hj hjp hl0
    rw [swp_len] at hj
    rw [swp_at hk k2, swp_at hk k2]
    have e : (l - 1) / 2 = k := by omega
    rw [e, if_neg (by omega), if_neg (by omega), if_neg (by omega), if_pos rfl]
    have := h.1 j h0 hj (by omega)
    rw [hjp] at this
    exact this
theorem up_same {xs : List Rd} {k : Nat} (h : hpu k xs) (he : k = 0 ∨ ¬ (atR xs k).lt (atR xs ((k - 1) / 2))) : hp xs := by
  intro j h0 hj
  by_cases e : j = k
  · subst e
    rcases he with he | he
    · omega
    · exact he
  · exact h.1 j h0 hj e
theorem up_step {xs : List Rd} {k : Nat} (h : hpu k xs) (hk : k < xs.length) (h0 : 0 < k) (hlt : (atR xs k).lt (atR xs ((k - 1) / 2))) : hpu ((k - 1) / 2) (swp xs k ((k - 1) / 2) (atR xs k) (atR xs ((k - 1) / 2))) := by
  have ha : (k - 1) / 2 < xs.length := by omega
  refine ⟨fun j j0 hj hja => ?_, fun j j0 hj hjp ha0 => ?_⟩
  · rw [swp_len] at hj
    rw [swp_at hk ha, swp_at hk ha]
    rw [if_neg hja]
    by_cases e1 : j = k
    · subst e1
      rw [if_pos rfl, if_pos rfl]
      exact lt_asymm hlt
    · rw [if_neg e1]
      by_cases e2 : (j - 1) / 2 = (k - 1) / 2
      · rw [if_pos e2]
        have := h.1 j j0 hj e1
        rw [e2] at this
        exact lt_le hlt this
      · rw [if_neg e2]
        by_cases e3 : (j - 1) / 2 = k
        · rw [if_pos e3]
          exact h.2 j j0 hj e3 h0
        · rw [if_neg e3]
          exact h.1 j j0 hj e1
  · rw [swp_len] at hj
    rw [swp_at hk ha, swp_at hk ha]
    have h1 := h.1 ((k - 1) / 2) ha0 ha (by omega)
    rw [if_neg (show ¬ j = (k - 1) / 2 by omega)]
    rw [if_neg (show ¬ ((k - 1) / 2 - 1) / 2 = (k - 1) / 2 by omega), if_neg (show ¬ ((k - 1) / 2 - 1) / 2 = k by omega)]
    by_cases e1 : j = k
    · rw [if_pos e1]
      exact h1
    · rw [if_neg e1]
      have h2 := h.1 j j0 hj e1
      rw [hjp] at h2
      exact le_trans' h1 h2
theorem atR_app {xs : List Rd} {r : Rd} {j : Nat} (h : j < xs.length) : atR (xs ++ [r]) j = atR xs j := by
  unfold atR List.getD
  rw [List.getElem?_append_left h]
theorem hpu_push {xs : List Rd} (r : Rd) (h : hp xs) : hpu xs.length (xs ++ [r]) := by
  refine ⟨fun j h0 hj hne => ?_, fun j h0 hj hjp _ => ?_⟩
  · simp at hj
    rw [atR_app (by omega), atR_app (by omega)]
    exact h j h0 (by omega)
  · simp at hj
    omega
theorem atR_take {xs : List Rd} {n j : Nat} (h : j < n) : atR (xs.take n) j = atR xs j := by
  unfold atR List.getD
  rw [List.getElem?_take_of_lt h]
theorem pop_hpx {xs : List Rd} (h : hp xs) (h0 : 0 < xs.length) : hpx 0 ((swp xs 0 (xs.length - 1) (atR xs 0) (atR xs (xs.length - 1))).take (xs.length - 1)) := by
  have hl : xs.length - 1 < xs.length := by omega
  refine ⟨fun j j0 hj hjp => ?_, fun j _ _ _ h => absurd h (Nat.lt_irrefl 0)⟩
  rw [List.length_take, swp_len] at hj
  rw [atR_take (by omega), atR_take (by omega), swp_at h0 hl, swp_at h0 hl]
  rw [if_neg (by omega), if_neg (by omega), if_neg (by omega), if_neg hjp]
  exact h j j0 (by omega)
theorem pop_perm {xs : List Rd} (h0 : 0 < xs.length) : xs.Perm (atR xs 0 :: (swp xs 0 (xs.length - 1) (atR xs 0) (atR xs (xs.length - 1))).take (xs.length - 1)) := by
  have hl : xs.length - 1 < xs.length := by omega
  have hp := swp_perm h0 hl
  generalize hz : swp xs 0 (xs.length - 1) (atR xs 0) (atR xs (xs.length - 1)) = zs at *
  have hlen : zs.length = xs.length := by rw [← hz, swp_len]
  have hlast : atR zs (xs.length - 1) = atR xs 0 := by rw [← hz, swp_at h0 hl, if_pos rfl]
  have e : zs = zs.take (xs.length - 1) ++ [atR xs 0] := by
    apply List.ext_getElem?
    intro j
    by_cases h1 : j < xs.length - 1
    · rw [List.getElem?_append_left (by rw [List.length_take]; omega), List.getElem?_take_of_lt h1]
    · by_cases h2 : j = xs.length - 1
      · rw [List.getElem?_append_right (by rw [List.length_take]; omega), h2, atR_some (by omega), hlast]
        simp [hlen]
      · rw [List.getElem?_eq_none (by omega), List.getElem?_eq_none (by simp; omega)]
  refine hp.symm.trans ?_
  conv => lhs; rw [e]
  exact List.perm_append_comm
theorem hp_min {xs : List Rd} (h : hp xs) : ∀ j, j < xs.length → ¬ (atR xs j).lt (atR xs 0) := by
  intro j
  induction j using Nat.strongRecOn with
  | _ j ih =>
    intro hj
    by_cases e : j = 0
    · rw [e]; exact lt_irrefl _
    · exact le_trans' (ih ((j - 1) / 2) (by omega) (by omega)) (h j (by omega) hj)
/-! ### Rows in order -/
def ins (r : Rd) : List Rd → List Rd
  | [] => [r]
  | x :: s => if x.lt r then x :: ins r s else r :: x :: s
def sortL (l : List Rd) : List Rd := l.foldl (fun s r => ins r s) []
def Srt : List Rd → Prop
  | [] => True
  | x :: s => (∀ y ∈ s, ¬ y.lt x) ∧ Srt s
theorem ins_perm (r : Rd) : ∀ s, (ins r s).Perm (r :: s)
  | [] => List.Perm.refl _
  | x :: s => by
    unfold ins
    split
    · exact (List.Perm.cons x (ins_perm r s)).trans (List.Perm.swap r x s)
    · exact List.Perm.refl _
theorem ins_srt (r : Rd) : ∀ s, Srt s → Srt (ins r s)
  | [], _ => ⟨fun y hy => by simp at hy, trivial⟩
  | x :: s, h => by
    unfold ins
    split
    · rename_i hx
      refine ⟨fun y hy => ?_, ins_srt r s h.2⟩
      rcases List.mem_cons.mp ((ins_perm r s).mem_iff.mp hy) with rfl | hy
      · exact lt_asymm hx
      · exact h.1 y hy
    · rename_i hx
      refine ⟨fun y hy => ?_, h⟩
      rcases List.mem_cons.mp hy with rfl | hy
      · exact hx
      · exact le_trans' hx (h.1 y hy)
theorem sort_perm (l : List Rd) : (sortL l).Perm l := by
  have : ∀ (l s : List Rd), (l.foldl (fun s r => ins r s) s).Perm (l ++ s) := by
    intro l
    induction l with
    | nil => intro s; exact List.Perm.refl _
    | cons x l ih =>
      intro s
      refine (ih (ins x s)).trans ?_
      refine ((ins_perm x s).append_left l).trans ?_
      exact List.perm_middle
  simpa [sortL] using this l []
end Go.Lea
/-
  What the heap's functions come to: one sinks; the first one is taken.
-/
namespace Go.Lea
open Go.Ev
theorem asN (j : Nat) : asNat (.int .i64 (j : Int)) = some j := by simp [asNat]
theorem HW.len_ {st : Store} {h : Nat} {o : Option Nat} {xs : List Rd} (H : HW st h o xs) : ∃ sl, (st.boxes h).bind Box.cs = some [sl] ∧ sl.strip1 = sl ∧ ((xs = [] ∧ sl = .slice .isnil 0 []) ∨ ∃ r c, o = some r ∧ sl = .rs r 0 2 xs.length c ∧ RowAt st r 2 (xs.map Rd.e) ∧ r < st.next ∧ r ≠ h) := by
  obtain ⟨hlim, hnx, ⟨rfl, rfl, hb⟩ | ⟨r, c, rfl, hrh, hb, hR, _⟩⟩ := H
  · exact ⟨_, by rw [hb]; rfl, rfl, .inl ⟨rfl, rfl⟩⟩
  · exact ⟨_, by rw [hb]; rfl, rfl, .inr ⟨r, c, rfl, rfl, hR.at, hR.2.1, hrh⟩⟩
theorem s_Len (xs : List Rd) (hx : xs.length ≤ 1073741824) (st : Store) (h : Nat) (o : Option Nat) (hH : HW st h o xs) : EvRO Γ 40 [.ptr h 0] st (.int .i64 xs.length) := by
  have hh := hH.nx
  obtain ⟨sl, hb, _, ⟨rfl, rfl⟩ | ⟨r, c, rfl, rfl, _⟩⟩ := hH.len_
  · refine EvRO_code rfl rfl rfl ?_
    repeat' (first
 | (refine I_WS ?_; first
 | (refine I_mov ?_; first
 | refine W_mov (v := .int _ _) rfl rfl rfl ?_
 | refine W_mov (v := .ptr _ _) rfl rfl rfl ?_)
 | (refine I_load ?_; first
 | refine W_loadC (agg := false) (d := .slice .isnil 0 []) rfl rfl rfl hb hh rfl ?_)
 | refine W_lenS0 rfl rfl rfl ?_
 | refine W_faddr rfl rfl rfl ?_
 | refine W_nilCheckM rfl rfl ?_
 | refine WS_nil ?_)
 | refine WC_seq ?_
 | refine WC_opsS ?_
 | refine WC_ret ?_)
    exact ⟨.inr rfl, rfl⟩
  · refine EvRO_code rfl rfl rfl ?_
    repeat' (first
 | (refine I_WS ?_; first
 | (refine I_mov ?_; first
 | refine W_mov (v := .int _ _) rfl rfl rfl ?_
 | refine W_mov (v := .ptr _ _) rfl rfl rfl ?_)
 | (refine I_load ?_; first
 | refine W_loadC (agg := false) (d := .rs r 0 2 xs.length c) rfl rfl rfl hb hh rfl ?_)
 | refine W_lenR rfl rfl rfl ?_
 | refine W_faddr rfl rfl rfl ?_
 | refine W_nilCheckM rfl rfl ?_
 | refine WS_nil ?_)
 | refine WC_seq ?_
 | refine WC_opsS ?_
 | refine WC_ret ?_)
    exact ⟨.inr rfl, rfl⟩
theorem s_Peek (xs : List Rd) (hx : xs.length ≤ 1073741824) (st : Store) (h : Nat) (o : Option Nat) (hH : HW st h o xs) : EvRO Γ 66 [.ptr h 0] st (.tuple [(atR xs 0).e, .bool (decide (0 < xs.length))]) := by
  have hh := hH.nx
  have hne : h ≠ st.next := Nat.ne_of_lt hh
  obtain ⟨sl, hb, _, ⟨rfl, rfl⟩ | ⟨r, c, rfl, rfl, hR, hr, hrh⟩⟩ := hH.len_
  · refine EvRO_code rfl rfl rfl ?_
    repeat' (first
 | (refine I_WS ?_; first
 | refine W_store (cs' := [_, _]) rfl rfl (upd_same _ _ _) rfl (Nat.le_refl _) rfl rfl rfl ?_
 | (refine I_mov ?_; first
 | refine W_mov (v := .bool _) rfl rfl rfl ?_
 | refine W_mov (v := .ptr _ _) rfl rfl rfl ?_)
 | (refine I_bin ?_; first
 | refine W_eqlT rfl rfl rfl rfl (by omega) ?_)
 | (refine I_load ?_; first
 | refine W_loadC (agg := false) (d := .slice .isnil 0 []) rfl rfl rfl (bxs hne hb) hh rfl ?_
 | refine W_load (agg := true) (d := .agg [_, _]) rfl rfl rfl (bxc rfl) (Nat.le_refl _) rfl ?_)
 | refine W_lenS0 rfl rfl rfl ?_
 | refine W_faddr rfl rfl rfl ?_
 | refine W_nilCheckM rfl rfl ?_
 | refine W_alloc rfl rfl ?_
 | refine WS_nil ?_)
 | refine WC_seq ?_
 | refine WC_opsS ?_
 | refine WC_condT rfl ?_
 | refine WC_ret ?_)
    refine ⟨.inr rfl, ?_⟩
    simp [resAll, resD, c_heap_Heap_Peek, upd, Store.cellsAt, Box.cs, cut, finD, D.free, D.free1, retD, retFirst, freshen, D.strip, D.strip1, atR, Rd.e, Box.set]
  · have hne2 : r ≠ st.next := Nat.ne_of_lt hr
    by_cases h0 : xs = []
    · subst h0
      refine EvRO_code rfl rfl rfl ?_
      repeat' (first
 | (refine I_WS ?_; first
 | refine W_store (cs' := [_, _]) rfl rfl (upd_same _ _ _) rfl (Nat.le_refl _) rfl rfl rfl ?_
 | (refine I_mov ?_; first
 | refine W_mov (v := .bool _) rfl rfl rfl ?_
 | refine W_mov (v := .ptr _ _) rfl rfl rfl ?_)
 | (refine I_bin ?_; first
 | refine W_eqlT rfl rfl rfl rfl (by omega) ?_)
 | (refine I_load ?_; first
 | refine W_loadC (agg := false) (d := .rs r 0 2 0 c) rfl rfl rfl (bxs hne hb) hh rfl ?_
 | refine W_load (agg := true) (d := .agg [_, _]) rfl rfl rfl (bxc rfl) (Nat.le_refl _) rfl ?_)
 | refine W_lenR rfl rfl rfl ?_
 | refine W_faddr rfl rfl rfl ?_
 | refine W_nilCheckM rfl rfl ?_
 | refine W_alloc rfl rfl ?_
 | refine WS_nil ?_)
 | refine WC_seq ?_
 | refine WC_opsS ?_
 | refine WC_condT rfl ?_
 | refine WC_ret ?_)
      refine ⟨.inr rfl, ?_⟩
      simp [resAll, resD, c_heap_Heap_Peek, upd, Store.cellsAt, Box.cs, cut, finD, D.free, D.free1, retD, retFirst, freshen, D.strip, D.strip1, atR, Rd.e, Box.set]
    · have hl : 0 < xs.length := List.length_pos_iff.mpr h0
      have hv := rd_at (atR_some hl)
      refine EvRO_code rfl rfl rfl ?_
      repeat' (first
 | (refine I_WS ?_; first
 | refine W_iaddrR (j := 0) rfl rfl rfl rfl hl ?_
 | refine W_store (cs' := [_, _]) rfl rfl (upd_same _ _ _) rfl (Nat.le_refl _) rfl rfl rfl ?_
 | (refine I_mov ?_; first
 | refine W_mov (v := .bool _) rfl rfl rfl ?_
 | refine W_mov (v := .ptr _ _) rfl rfl rfl ?_)
 | (refine I_bin ?_; first
 | refine W_eqlF rfl rfl rfl rfl (by omega) ?_)
 | (refine I_load ?_; first
 | refine W_loadC (agg := false) (d := .rs r 0 2 xs.length c) rfl rfl rfl (bxs hne hb) hh rfl ?_
 | refine W_loadRow (j := 0) rfl rfl (hR.of (upd_ne _ _ hne2)) rfl rd_cells hv rfl ?_)
 | refine W_lenR rfl rfl rfl ?_
 | refine W_faddr rfl rfl rfl ?_
 | refine W_nilCheckM rfl rfl ?_
 | refine W_alloc rfl rfl ?_
 | refine WS_nil ?_)
 | refine WC_seq ?_
 | refine WC_opsS ?_
 | refine WC_skip ?_
 | refine WC_condF rfl ?_
 | refine WC_ret ?_)
      refine ⟨.inr rfl, ?_⟩
      simp [resAll, resD, c_heap_Heap_Peek, upd, Store.cellsAt, Box.cs, cut, finD, D.free, D.free1, retD, retFirst, freshen, D.strip, D.strip1, Rd.e, Box.set, hl, h0]
theorem s_ahead' {st : Store} {h : Nat} {o : Option Nat} {xs : List Rd} (hH : HW st h o xs) (hx : xs.length ≤ 1073741824) {i k : Nat} (hi : i < xs.length) (hk : k < xs.length) : EvRO Γ 71 [.ptr h 0, .int .i64 i, .int .i64 k] st (.bool (decide ((atR xs i).lt (atR xs k)))) := by
  obtain ⟨sl, hb, _, ⟨rfl, rfl⟩ | ⟨r, c, rfl, rfl, hR, hr, hrh⟩⟩ := hH.len_
  · simp at hi
  · exact s_ahead xs hx st h r c i k _ _ hb hH.nx hr hR (atR_some hi) (atR_some hk)
theorem l_round {st : Store} {h : Nat} {o : Option Nat} {xs : List Rd} (hH : HW st h o xs) (hx : xs.length ≤ 1073741824) (k j l b b1 b2 : Nat) (hj : (j = 0 ∧ b = b1) ∨ (j = 1 ∧ b = b2)) (hl : l < xs.length ∨ xs.length ≤ b) (ρ : Nat → D)
    (h0 : ρ 0 = .ptr h 0) (h1 : ρ 1 = .int .i64 k) (h4 : ρ 4 = .int .i64 l) (h14 : ρ 14 = .agg [.int .i64 b1, .int .i64 b2]) (h15 : ρ 15 = .int .i64 j) (Q : X → (Nat → D) → Store → Prop)
    (hQ : ∀ ρ', ρ' 0 = .ptr h 0 → ρ' 1 = .int .i64 k → ρ' 4 = .int .i64 (nxt xs l b : Nat) → ρ' 14 = .agg [.int .i64 b1, .int .i64 b2] → ρ' 15 = .int .i64 (j + 1 : Nat) → WC Γ (.loop c_heap_Heap_down_l0) ρ' st Q) : WC Γ (.loop c_heap_Heap_down_l0) ρ st Q := by
  have hnx := hH.nx
  have hlim := hH.lim
  obtain ⟨sl, hb, _, hsl⟩ := hH.len_
  have hc : ∀ i, j = i → cut false 1 (i * 1) [D.int .i64 b1, .int .i64 b2] = some (.int .i64 (b : Nat)) := fun i hi => by
    subst hi
    rcases hj with ⟨rfl, rfl⟩ | ⟨rfl, rfl⟩ <;> rfl
  have hj2 : j < 2 := by omega
  rw [← upd_self h0, ← upd_self h1, ← upd_self h4, ← upd_self h14, ← upd_self h15]
  refine WC_loop ?_
  rcases hsl with ⟨rfl, rfl⟩ | ⟨r, c, rfl, rfl, hR, hr, hrh⟩
  · repeat' (first
 | (refine I_WS ?_; first
 | refine W_indexA (agg := false) (j := j) rfl rfl rfl (asN j) hj2 (hc j rfl) ?_
 | (refine I_mov ?_; first
 | refine W_skip rfl ?_
 | refine W_mov (v := .int _ _) rfl rfl rfl ?_
 | refine W_mov (v := .bool _) rfl rfl rfl ?_
 | refine W_mov (v := .ptr _ _) rfl rfl rfl ?_)
 | (refine I_bin ?_; first
 | refine W_lssT rfl rfl rfl rfl (by omega) ?_
 | refine W_lssF rfl rfl rfl rfl (by omega) ?_
 | refine W_add rfl rfl rfl rfl (by first | exact w64 (by omega) | rfl) ?_)
 | (refine I_load ?_; first
 | refine W_load (agg := false) (d := .slice .isnil 0 []) rfl rfl rfl hb hlim rfl ?_)
 | (refine I_call ?_; first
 | refine W_skip rfl ?_)
 | (refine I_pick ?_; first
 | refine W_pick (v := .bool _) rfl rfl rfl rfl ?_)
 | refine W_lenS0 rfl rfl rfl ?_
 | refine W_faddr rfl rfl rfl ?_
 | refine W_nilCheckM rfl rfl ?_
 | refine WS_nil ?_)
 | refine WC_seq ?_
 | refine WC_opsS ?_
 | refine WC_skip ?_
 | refine WC_condT rfl ?_
 | refine WC_condF rfl ?_
 | refine WC_block ?_)
    have e : nxt [] l b = l := if_neg (fun h => by simp at h)
    exact hQ _ rfl rfl (by rw [e]; rfl) rfl rfl
  · by_cases hbx : b < xs.length
    · have ha := s_ahead' hH hx hbx (by omega : l < xs.length)
      repeat' (first
 | (refine I_WS ?_; first
 | refine W_indexA (agg := false) (j := j) rfl rfl rfl (asN j) hj2 (hc j rfl) ?_
 | (refine I_mov ?_; first
 | refine W_mov (v := .int _ _) rfl rfl rfl ?_
 | refine W_mov (v := .bool _) rfl rfl rfl ?_
 | refine W_mov (v := .ptr _ _) rfl rfl rfl ?_)
 | (refine I_bin ?_; first
 | refine W_lssT rfl rfl rfl rfl (by omega) ?_
 | refine W_add rfl rfl rfl rfl (by first | exact w64 (by omega) | rfl) ?_)
 | (refine I_load ?_; first
 | refine W_load (agg := false) (d := .rs r 0 2 xs.length c) rfl rfl rfl hb hlim rfl ?_)
 | (refine I_call ?_; first
 | (refine W_callROB rfl rfl rfl ha rfl ?_ ?_ <;> intro _))
 | (refine I_pick ?_; first
 | refine W_pick (v := .bool _) rfl rfl rfl rfl ?_)
 | refine W_lenR rfl rfl rfl ?_
 | refine W_faddr rfl rfl rfl ?_
 | refine W_nilCheckM rfl rfl ?_
 | refine WS_nil ?_)
 | refine WC_seq ?_
 | refine WC_opsS ?_
 | refine WC_skip ?_
 | refine WC_condT rfl ?_
 | refine WC_condF rfl ?_
 | refine WC_block ?_)
      · rename_i hlt
        have e : nxt xs l b = b := if_pos ⟨hbx, of_decide_eq_true hlt⟩
        exact hQ _ rfl rfl (by rw [e]; rfl) rfl rfl
      · rename_i hlt
        have e : nxt xs l b = l := if_neg (fun h => of_decide_eq_false hlt h.2)
        exact hQ _ rfl rfl (by rw [e]; rfl) rfl rfl
    · repeat' (first
 | (refine I_WS ?_; first
 | refine W_indexA (agg := false) (j := j) rfl rfl rfl (asN j) hj2 (hc j rfl) ?_
 | (refine I_mov ?_; first
 | refine W_skip rfl ?_
 | refine W_mov (v := .int _ _) rfl rfl rfl ?_
 | refine W_mov (v := .bool _) rfl rfl rfl ?_
 | refine W_mov (v := .ptr _ _) rfl rfl rfl ?_)
 | (refine I_bin ?_; first
 | refine W_lssT rfl rfl rfl rfl (by omega) ?_
 | refine W_lssF rfl rfl rfl rfl (by omega) ?_
 | refine W_add rfl rfl rfl rfl (by first | exact w64 (by omega) | rfl) ?_)
 | (refine I_load ?_; first
 | refine W_load (agg := false) (d := .rs r 0 2 xs.length c) rfl rfl rfl hb hlim rfl ?_)
 | (refine I_call ?_; first
 | refine W_skip rfl ?_)
 | (refine I_pick ?_; first
 | refine W_pick (v := .bool _) rfl rfl rfl rfl ?_)
 | refine W_lenR rfl rfl rfl ?_
 | refine W_faddr rfl rfl rfl ?_
 | refine W_nilCheckM rfl rfl ?_
 | refine WS_nil ?_)
 | refine WC_seq ?_
 | refine WC_opsS ?_
 | refine WC_skip ?_
 | refine WC_condT rfl ?_
 | refine WC_condF rfl ?_
 | refine WC_block ?_)
      have e : nxt xs l b = l := if_neg (fun h => hbx h.1)
      exact hQ _ rfl rfl (by rw [e]; rfl) rfl rfl
theorem nxt_lt {xs : List Rd} {l b : Nat} (h : l < xs.length) : nxt xs l b < xs.length := by
  unfold nxt
  split
  · rename_i h1; exact h1.1
  · exact h
theorem swp_hw {st : Store} {h : Nat} {o : Option Nat} {xs : List Rd} (hx : xs.length ≤ 1073741824) (hH : HW st h o xs) {i k : Nat} (hi : i < xs.length) (hk : k < xs.length) :
    EvRWX Γ 67 [.ptr h 0, .int .i64 i, .int .i64 k] st (fun r st' => r = .tuple [] ∧ HW st' h o (swp xs i k (atR xs i) (atR xs k)) ∧ Fr st st' h o o) := s_swap xs hx st h o i k _ _ hH (atR_some hi) (atR_some hk)
theorem s_down (h : Nat) (o : Option Nat) : ∀ (m k : Nat) (xs : List Rd) (st : Store), xs.length ≤ m + k → k ≤ xs.length → xs.length ≤ 1073741824 → HW st h o xs → hpx k xs →
    EvRWX Γ 68 [.ptr h 0, .int .i64 k] st (fun r st' => r = .tuple [] ∧ ∃ ys, HW st' h o ys ∧ hp ys ∧ ys.Perm xs ∧ Fr st st' h o o) := by
  intro m
  induction m with
  | zero =>
    intro k xs st hm hk hx hH hX
    have hke : k = xs.length := by omega
    have e1 : nxt xs k (2 * k + 1) = k := if_neg (fun h => by omega)
    have e2 : nxt xs k (2 * k + 2) = k := if_neg (fun h => by omega)
    refine EvRWX_code rfl rfl ?_
    repeat' (first
 | (refine I_WS ?_; first
 | (refine I_mov ?_; first
 | refine W_mov (v := .int _ _) rfl rfl rfl ?_)
 | (refine I_bin ?_; first
 | refine W_add rfl rfl rfl rfl (by first | exact w64 (by omega) | rfl) ?_
 | refine W_mul rfl rfl rfl rfl (by first | exact w64 (by omega) | rfl) ?_)
 | (refine I_build ?_; first
 | refine W_build (cs := [_, _]) rfl rfl rfl ?_)
 | refine WS_nil ?_)
 | refine WC_seq ?_
 | refine WC_opsS ?_
 | refine WC_block ?_)
    refine l_round hH hx k 0 k (2 * k + 1) (2 * k + 1) (2 * k + 2) (.inl ⟨rfl, rfl⟩) (by omega) _ ?_ ?_ ?_ ?_ ?_ _ (fun ρ1 a0 a1 a4 a14 a15 => ?_)
    · rfl
    · rfl
    · rfl
    · rfl
    · rfl
    rw [e1] at a4
    refine l_round hH hx k 1 k (2 * k + 2) (2 * k + 1) (2 * k + 2) (.inr ⟨rfl, rfl⟩) (by omega) _ a0 a1 a4 a14 a15 _ (fun ρ2 b0 b1 b4 b14 b15 => ?_)
    rw [e2] at b4
    rw [← upd_self b0, ← upd_self b1, ← upd_self b4, ← upd_self b14, ← upd_self b15]
    refine WC_loop ?_
    repeat' (first
 | (refine I_WS ?_; first
 | (refine I_mov ?_; first
 | refine W_mov (v := .int _ _) rfl rfl rfl ?_)
 | (refine I_bin ?_; first
 | refine W_lssF rfl rfl rfl rfl (by omega) ?_
 | refine W_neqF rfl rfl rfl rfl (by omega) ?_)
 | refine WS_nil ?_)
 | refine WC_seq ?_
 | refine WC_opsS ?_
 | refine WC_skip ?_
 | refine WC_condF rfl ?_
 | refine WC_exit ?_)
    exact ⟨.inl rfl, _, rfl, rfl, xs, hH, down_same hX (by rw [e1, e2]), List.Perm.refl _, Fr.refl _ _ _⟩
  | succ m ih =>
    intro k xs st hm hk hx hH hX
    refine EvRWX_code rfl rfl ?_
    repeat' (first
 | (refine I_WS ?_; first
 | (refine I_mov ?_; first
 | refine W_mov (v := .int _ _) rfl rfl rfl ?_)
 | (refine I_bin ?_; first
 | refine W_add rfl rfl rfl rfl (by first | exact w64 (by omega) | rfl) ?_
 | refine W_mul rfl rfl rfl rfl (by first | exact w64 (by omega) | rfl) ?_)
 | (refine I_build ?_; first
 | refine W_build (cs := [_, _]) rfl rfl rfl ?_)
 | refine WS_nil ?_)
 | refine WC_seq ?_
 | refine WC_opsS ?_
 | refine WC_block ?_)
    refine l_round hH hx k 0 k (2 * k + 1) (2 * k + 1) (2 * k + 2) (.inl ⟨rfl, rfl⟩) (by omega) _ ?_ ?_ ?_ ?_ ?_ _ (fun ρ1 a0 a1 a4 a14 a15 => ?_)
    · rfl
    · rfl
    · rfl
    · rfl
    · rfl
    refine l_round hH hx k 1 (nxt xs k (2 * k + 1)) (2 * k + 2) (2 * k + 1) (2 * k + 2) (.inr ⟨rfl, rfl⟩) ?_ _ a0 a1 a4 a14 a15 _ (fun ρ2 b0 b1 b4 b14 b15 => ?_)
    · by_cases hk' : k < xs.length
      · exact .inl (nxt_lt hk')
      · exact .inr (by omega)
    generalize hl : nxt xs (nxt xs k (2 * k + 1)) (2 * k + 2) = l at b4
    rw [← upd_self b0, ← upd_self b1, ← upd_self b4, ← upd_self b14, ← upd_self b15]
    refine WC_loop ?_
    by_cases hlk : l = k
    · subst hlk
      repeat' (first
 | (refine I_WS ?_; first
 | (refine I_mov ?_; first
 | refine W_mov (v := .int _ _) rfl rfl rfl ?_)
 | (refine I_bin ?_; first
 | refine W_lssF rfl rfl rfl rfl (by omega) ?_
 | refine W_neqF rfl rfl rfl rfl (by omega) ?_)
 | refine WS_nil ?_)
 | refine WC_seq ?_
 | refine WC_opsS ?_
 | refine WC_skip ?_
 | refine WC_condF rfl ?_
 | refine WC_exit ?_)
      exact ⟨.inl rfl, _, rfl, rfl, xs, hH, down_same hX hl, List.Perm.refl _, Fr.refl _ _ _⟩
    · by_cases hk' : k < xs.length
      · obtain ⟨d1, d2, d3⟩ := down_step hX hk' hl hlk
        have hsw := swp_hw hx hH hk' d2
        have hlk' : ¬ (l : Int) = k := by omega
        repeat' (first
 | (refine I_WS ?_; first
 | (refine I_mov ?_; first
 | refine W_mov (v := .int _ _) rfl rfl rfl ?_
 | refine W_mov (v := .ptr _ _) rfl rfl rfl ?_)
 | (refine I_bin ?_; first
 | refine W_lssF rfl rfl rfl rfl (by omega) ?_
 | refine W_neqT rfl rfl rfl rfl (by omega) ?_)
 | (refine I_call ?_; first
 | (refine W_callRWX rfl rfl rfl hsw ?_ <;> intro r1 st1 hp1))
 | refine WS_nil ?_)
 | refine WC_seq ?_
 | refine WC_opsS ?_
 | refine WC_condT rfl ?_
 | refine WC_condF rfl ?_
 | refine WC_exit ?_)
        obtain ⟨rfl, hH1, hF1⟩ := hp1
        have hrec := ih l _ st1 (by rw [swp_len]; omega) (by rw [swp_len]; omega) (by rw [swp_len]; exact hx) hH1 d3
        repeat' (first
 | (refine I_WS ?_; first
 | (refine I_call ?_; first
 | (refine W_callRWX rfl rfl rfl hrec ?_ <;> intro r2 st2 hp2))
 | refine WS_nil ?_))
        obtain ⟨rfl, ys, hH2, hhp, hperm, hF2⟩ := hp2
        exact ⟨.inl rfl, _, rfl, rfl, ys, hH2, hhp, hperm.trans (swp_perm hk' d2), hF1.trans hF2⟩
      · exfalso
        apply hlk
        rw [← hl]
        have e1 : nxt xs k (2 * k + 1) = k := if_neg (fun h => by omega)
        have e2 : nxt xs k (2 * k + 2) = k := if_neg (fun h => by omega)
        rw [e1, e2]
end Go.Lea
/-
  What the heap's functions come to: one more is laid; the first one is taken.
-/
namespace Go.Lea
open Go.Ev
theorem quo2 (k : Nat) (h : k ≤ 1073741824) : IntKind.i64.wrap ((k : Int).tdiv 2) = ((k / 2 : Nat) : Int) := by
  have e : (k : Int).tdiv 2 = ((k / 2 : Nat) : Int) := rfl
  rw [e]
  exact w64 (by omega)
theorem l_up (h : Nat) (o : Option Nat) (Q : X → (Nat → D) → Store → Prop) : ∀ (m k : Nat) (xs : List Rd) (st : Store) (ρ : Nat → D), k ≤ m → k < xs.length → xs.length ≤ 1073741824 → HW st h o xs → hpu k xs → ρ 0 = .ptr h 0 → ρ 4 = .int .i64 k →
    (∀ ρ' st' ys, HW st' h o ys → hp ys → ys.Perm xs → Fr st st' h o o → Q .normal ρ' st') →
    WC Γ c_heap_Heap_Push_r0 ρ st (fun x ρ1 st1 => match x with | .goto l' => l' = 0 ∧ WC Γ (.again 0 c_heap_Heap_Push_r0) ρ1 st1 Q | x => Q x ρ1 st1) := by
  intro m
  induction m with
  | zero =>
    intro k xs st ρ hm hk hx hH hU h0 h4 hQ
    have hk0 : k = 0 := by omega
    subst hk0
    have h4' : ρ 4 = .int .i64 0 := h4
    rw [← upd_self h0, ← upd_self h4']
    unfold c_heap_Heap_Push_r0
    repeat' (first
 | (refine I_WS ?_; first
 | (refine I_mov ?_; first
 | refine W_skip rfl ?_
 | refine W_mov (v := .int _ _) rfl rfl rfl ?_
 | refine W_mov (v := .bool _) rfl rfl rfl ?_)
 | (refine I_bin ?_; first
 | refine W_gtrF rfl rfl rfl rfl (by omega) ?_
 | refine W_sub rfl rfl rfl rfl (by first | exact w64 (by omega) | rfl) ?_
 | refine W_quo rfl rfl rfl rfl (by omega) rfl ?_)
 | (refine I_call ?_; first
 | refine W_skip rfl ?_)
 | (refine I_pick ?_; first
 | refine W_pick (v := .bool _) rfl rfl rfl rfl ?_)
 | refine WS_nil ?_)
 | refine WC_seq ?_
 | refine WC_opsS ?_
 | refine WC_skip ?_
 | refine WC_condF rfl ?_)
    exact hQ _ _ xs hH (up_same hU (.inl rfl)) (List.Perm.refl _) (Fr.refl _ _ _)
  | succ m ih =>
    intro k xs st ρ hm hk hx hH hU h0 h4 hQ
    cases k with
    | zero =>
      have h4' : ρ 4 = .int .i64 0 := h4
      rw [← upd_self h0, ← upd_self h4']
      unfold c_heap_Heap_Push_r0
      repeat' (first
 | (refine I_WS ?_; first
 | (refine I_mov ?_; first
 | refine W_skip rfl ?_
 | refine W_mov (v := .int _ _) rfl rfl rfl ?_
 | refine W_mov (v := .bool _) rfl rfl rfl ?_)
 | (refine I_bin ?_; first
 | refine W_gtrF rfl rfl rfl rfl (by omega) ?_
 | refine W_sub rfl rfl rfl rfl (by first | exact w64 (by omega) | rfl) ?_
 | refine W_quo rfl rfl rfl rfl (by omega) rfl ?_)
 | (refine I_call ?_; first
 | refine W_skip rfl ?_)
 | (refine I_pick ?_; first
 | refine W_pick (v := .bool _) rfl rfl rfl rfl ?_)
 | refine WS_nil ?_)
 | refine WC_seq ?_
 | refine WC_opsS ?_
 | refine WC_skip ?_
 | refine WC_condF rfl ?_)
      exact hQ _ _ xs hH (up_same hU (.inl rfl)) (List.Perm.refl _) (Fr.refl _ _ _)
    | succ k =>
      have hak : k / 2 < xs.length := by omega
      have ha := s_ahead' hH hx hk hak
      have h4' : ρ 4 = .int .i64 ((k : Int) + 1) := h4
      have hsub : IntKind.i64.wrap ((k : Int) + 1 - 1) = (k : Int) := by rw [Int.add_sub_cancel]; exact w64 (by omega)
      have hpar : (k + 1 - 1) / 2 = k / 2 := by omega
      rw [← upd_self h0, ← upd_self h4']
      unfold c_heap_Heap_Push_r0
      by_cases hlt : (atR xs (k + 1)).lt (atR xs (k / 2))
      · have hsw := swp_hw hx hH hk hak
        have hU' := up_step hU hk (by omega) (by rw [hpar]; exact hlt)
        rw [hpar] at hU'
        rw [decide_eq_true hlt] at ha
        repeat' (first
 | (refine I_WS ?_; first
 | refine W_sub rfl rfl rfl rfl hsub ?_
 | refine W_quo rfl rfl rfl rfl (by omega) (quo2 k (by omega)) ?_
 | (refine I_mov ?_; first
 | refine W_mov (v := .int _ _) rfl rfl rfl ?_
 | refine W_mov (v := .bool _) rfl rfl rfl ?_
 | refine W_mov (v := .ptr _ _) rfl rfl rfl ?_)
 | (refine I_bin ?_; first
 | refine W_gtrT rfl rfl rfl rfl (by omega) ?_)
 | (refine I_call ?_; first
 | refine W_callRO rfl rfl rfl ha rfl rfl ?_
 | (refine W_callRWX rfl rfl rfl hsw ?_ <;> intro r1 st1 hp1))
 | (refine I_pick ?_; first
 | refine W_pick (v := .bool _) rfl rfl rfl rfl ?_)
 | refine WS_nil ?_)
 | refine WC_seq ?_
 | refine WC_opsS ?_
 | refine WC_skip ?_
 | refine WC_condT rfl ?_
 | refine WC_goto ?_)
        obtain ⟨rfl, hH1, hF1⟩ := hp1
        skip
        refine ⟨rfl, WC_again ?_⟩
        refine ih (k / 2) _ st1 _ (by omega) (by rw [swp_len]; omega) (by rw [swp_len]; exact hx) hH1 hU' rfl rfl (fun ρ' st' ys a b c d => ?_)
        exact hQ ρ' st' ys a b (c.trans (swp_perm hk hak)) (hF1.trans d)
      · rw [decide_eq_false hlt] at ha
        repeat' (first
 | (refine I_WS ?_; first
 | refine W_sub rfl rfl rfl rfl hsub ?_
 | refine W_quo rfl rfl rfl rfl (by omega) (quo2 k (by omega)) ?_
 | (refine I_mov ?_; first
 | refine W_mov (v := .int _ _) rfl rfl rfl ?_
 | refine W_mov (v := .bool _) rfl rfl rfl ?_
 | refine W_mov (v := .ptr _ _) rfl rfl rfl ?_)
 | (refine I_bin ?_; first
 | refine W_gtrT rfl rfl rfl rfl (by omega) ?_)
 | (refine I_call ?_; first
 | refine W_callRO rfl rfl rfl ha rfl rfl ?_)
 | (refine I_pick ?_; first
 | refine W_pick (v := .bool _) rfl rfl rfl rfl ?_)
 | refine WS_nil ?_)
 | refine WC_seq ?_
 | refine WC_opsS ?_
 | refine WC_skip ?_
 | refine WC_condF rfl ?_)
        exact hQ _ _ xs hH (up_same hU (.inr (by rw [hpar]; exact hlt))) (List.Perm.refl _) (Fr.refl _ _ _)
def PQ (st : Store) (h : Nat) (o : Option Nat) (a : Rd) (xs : List Rd) : X → (Nat → D) → Store → Prop := fun x ρ1 st1 => (x = .normal ∨ x = .ret) ∧ ∃ r, resAll ρ1 st1 c_heap_Heap_Push.res = some r ∧ (r.strip = .tuple [] ∧ ∃ ys o', HW st1 h o' ys ∧ hp ys ∧ ys.Perm (a :: xs) ∧ Fr st st1 h o o')
theorem s_Push (xs : List Rd) (hx : xs.length ≤ 1073741823) (st : Store) (h : Nat) (o : Option Nat) (a : Rd) (hH : HW st h o xs) (hX : hp xs) :
    EvRWX Γ 44 [.ptr h 0, a.e] st (fun r st' => r = .tuple [] ∧ ∃ ys o', HW st' h o' ys ∧ hp ys ∧ ys.Perm (a :: xs) ∧ Fr st st' h o o') := by
  have hlim := hH.lim
  have hnx := hH.nx
  have hne : h ≠ st.next := Nat.ne_of_lt hnx
  have hel : ∀ d ∈ [a.e], Elem 2 d := by intro d hd; rw [List.mem_singleton.mp hd]; exact ⟨rfl, rfl⟩
  -- what comes behind the row
  have hfin : ∀ (ρ : Nat → D) (st1 : Store) (o' : Option Nat), HW st1 h o' (xs ++ [a]) → Fr st st1 h o o' → ρ 0 = .ptr h 0 → ρ 4 = .int .i64 xs.length →
      WC Γ c_heap_Heap_Push_r0 ρ st1 (fun x ρ1 st1 => match x with | .goto l' => l' = 0 ∧ WC Γ (.again 0 c_heap_Heap_Push_r0) ρ1 st1 (PQ st h o a xs) | x => PQ st h o a xs x ρ1 st1) := by
    intro ρ st1 o' hH1 hF1 e0 e4
    refine l_up h o' _ xs.length xs.length (xs ++ [a]) st1 ρ (Nat.le_refl _) (by simp) (by simp; omega) hH1 (hpu_push a hX) e0 e4 (fun ρ' st' ys q1 q2 q3 q4 => ?_)
    refine ⟨.inl rfl, _, rfl, rfl, ys, o', q1, q2, q3.trans (List.perm_append_comm (l₁ := xs) (l₂ := [a])), hF1.trans q4⟩
  obtain ⟨_, _, ⟨rfl, rfl, hb⟩ | ⟨r, c, rfl, hrh, hb, hR, hcap⟩⟩ := hH
  · refine EvRWX_code rfl rfl ?_
    repeat' (first
 | (refine I_WS ?_; first
 | (refine I_box ?_; first
 | refine W_boxA rfl rfl rfl rfl rfl ?_)
 | refine WS_nil ?_)
 | refine WC_seq ?_
 | refine WC_opsS ?_)
    refine WC_scope ?_
    have hb1 : ∀ {x : Option Box}, (upd st.boxes st.next x h).bind Box.cs = some [.slice .isnil 0 []] := fun {x} => by rw [upd_ne _ _ hne, hb]; rfl
    have hl2 : st.lim ≤ st.next := Nat.le_trans hlim (Nat.le_of_lt hnx)
    repeat' (first
 | (refine I_WS ?_; first
 | refine W_bsliceM (ys := [a.e]) rfl rfl rfl rfl (by decide) ?_
 | (refine W_appNew (xs := []) (ys := [a.e]) rfl rfl (.inr rfl) (.inr rfl) rfl rfl (.inl rfl) (by simp) (by simp) hel (by simp) (Nat.le_succ_of_le hl2) ?_ <;> intro st1 e1 e2 e3 e4 hR1 hb2 e5)
 | (refine I_mov ?_; first
 | refine W_mov (v := .ptr _ _) rfl rfl rfl ?_)
 | (refine I_load ?_; first
 | refine W_loadM (agg := false) (d := .slice .isnil 0 []) rfl rfl hb1 hlim rfl ?_
 | refine W_loadM (agg := true) (d := .agg [_, _]) rfl rfl (bxc rfl) hl2 rfl ?_)
 | refine W_faddr rfl rfl rfl ?_
 | refine W_nilCheckM rfl rfl ?_
 | refine W_faddrM rfl rfl ?_)
 | refine WC_seq ?_
 | refine WC_drawS ?_)
    have hb3 : st1.boxes h = some (.cells [.slice .isnil 0 []]) := by
      rw [hb2 h (Nat.lt_succ_of_lt hnx)]
      show upd st.boxes st.next _ h = _
      rw [upd_ne _ _ hne, hb]
    have hne3 : h ≠ st.next + 1 := by omega
    repeat' (first
 | (refine I_WS ?_; first
 | refine W_store (cs' := [.rs (st.next + 1) 0 2 1 1]) rfl rfl hb3 rfl (by rw [e1]; exact hlim) rfl rfl rfl ?_
 | (refine I_mov ?_; first
 | refine W_mov (v := .int _ _) rfl rfl rfl ?_
 | refine W_mov (v := .ptr _ _) rfl rfl rfl ?_)
 | (refine I_bin ?_; first
 | refine W_sub rfl rfl rfl rfl (by first | exact w64 (by omega) | rfl) ?_)
 | (refine I_load ?_; first
 | refine W_load (agg := false) (d := .rs (st.next + 1) 0 2 1 1) rfl rfl rfl (bxc rfl) (by show st1.lim ≤ h; rw [e1]; exact hlim) rfl ?_)
 | refine W_lenR rfl rfl rfl ?_
 | refine W_faddr rfl rfl rfl ?_
 | refine W_nilCheckM rfl rfl ?_
 | refine WS_nil ?_)
 | refine hfin _ _ (some (st.next + 1)) ?_ ?_ ?_ ?_
 | refine WC_seq ?_
 | refine WC_opsS ?_
 | refine okF_intro rfl ?_)
    · refine ⟨by show st1.lim ≤ h; rw [e1]; exact hlim, by show h < st1.next; rw [e5]; exact Nat.lt_succ_of_lt (Nat.lt_succ_of_lt hnx), .inr ⟨st.next + 1, 1, rfl, Ne.symm hne3, upd_same _ _ _, ?_, Nat.le_refl _⟩⟩
      exact hR1.of (by show st1.lim ≤ _; rw [e1]; exact Nat.le_succ_of_le hl2) (by show _ < st1.next; rw [e5]; exact Nat.lt_succ_self _) (upd_ne _ _ (Ne.symm hne3))
    · refine ⟨e1, e2, e3, e4, by show st.next ≤ st1.next; rw [e5]; exact Nat.le_succ_of_le (Nat.le_succ _), fun q hq h1 _ => ?_, .inr ⟨_, rfl, Nat.le_succ _⟩⟩
      show upd st1.boxes h _ q = _
      rw [upd_ne _ _ h1, hb2 q (Nat.lt_succ_of_lt hq)]
      exact upd_ne _ _ (Nat.ne_of_lt hq)
    · rfl
    · rfl
  · refine EvRWX_code rfl rfl ?_
    repeat' (first
 | (refine I_WS ?_; first
 | (refine I_box ?_; first
 | refine W_boxA rfl rfl rfl rfl rfl ?_)
 | refine WS_nil ?_)
 | refine WC_seq ?_
 | refine WC_opsS ?_)
    refine WC_scope ?_
    have hb1 : ∀ {x : Option Box}, (upd st.boxes st.next x h).bind Box.cs = some [.rs r 0 2 xs.length c] := fun {x} => by rw [upd_ne _ _ hne, hb]; rfl
    have hl2 : st.lim ≤ st.next := Nat.le_trans hlim (Nat.le_of_lt hnx)
    have hrn : r ≠ st.next := Nat.ne_of_lt hR.2.1
    have hR' : ∀ {x : Option Box}, RowIs { st with boxes := upd st.boxes st.next x, next := st.next + 1 } r 2 (xs.map Rd.e) := fun {x} => hR.of hR.1 (Nat.lt_succ_of_lt hR.2.1) (upd_ne _ _ hrn)
    repeat' (first
 | (refine I_WS ?_; first
 | refine W_bsliceM (ys := [a.e]) rfl rfl rfl rfl (by decide) ?_
 | (refine W_appRow2 (xs := xs.map Rd.e) (ys := [a.e]) rfl rfl rfl hR' (List.length_map _).symm (.inl rfl) rd_cells hel (by simp; omega) ?_ <;> intro p' c' st1 e1 e2 e3 e4 hR1 hb2 e5 e6 e7)
 | (refine I_mov ?_; first
 | refine W_mov (v := .ptr _ _) rfl rfl rfl ?_)
 | (refine I_load ?_; first
 | refine W_loadM (agg := false) (d := .rs r 0 2 xs.length c) rfl rfl hb1 hlim rfl ?_
 | refine W_loadM (agg := true) (d := .agg [_, _]) rfl rfl (bxc rfl) hl2 rfl ?_)
 | refine W_faddr rfl rfl rfl ?_
 | refine W_nilCheckM rfl rfl ?_
 | refine W_faddrM rfl rfl ?_)
 | refine WC_seq ?_
 | refine WC_drawS ?_)
    have hb3 : st1.boxes h = some (.cells [.rs r 0 2 xs.length c]) := by
      rw [hb2 h (Ne.symm hrh) (Nat.lt_succ_of_lt hnx)]
      show upd st.boxes st.next _ h = _
      rw [upd_ne _ _ hne, hb]
    have e5' : st.next + 1 ≤ st1.next := e5
    have hp' : p' ≠ h := by
      rcases e6 with rfl | e6
      · exact hrh
      · have e6 : st.next + 1 ≤ p' := e6
        omega
    have hlen1 : xs.length + [a.e].length - 1 = xs.length := by simp
    repeat' (first
 | (refine I_WS ?_; first
 | refine W_store (cs' := [.rs p' 0 2 (xs.length + 1) c']) rfl rfl hb3 rfl (by rw [e1]; exact hlim) rfl rfl rfl ?_
 | refine W_sub rfl rfl rfl rfl (s := (xs.length : Int)) (by rw [show ((xs.length + 1 : Nat) : Int) - 1 = (xs.length : Int) by omega]; exact w64 (by omega)) ?_
 | (refine I_mov ?_; first
 | refine W_mov (v := .int _ _) rfl rfl rfl ?_
 | refine W_mov (v := .ptr _ _) rfl rfl rfl ?_)
 | (refine I_load ?_; first
 | refine W_load (agg := false) (d := .rs p' 0 2 (xs.length + 1) c') rfl rfl rfl (bxc rfl) (by show st1.lim ≤ h; rw [e1]; exact hlim) rfl ?_)
 | refine W_lenR rfl rfl rfl ?_
 | refine W_faddr rfl rfl rfl ?_
 | refine W_nilCheckM rfl rfl ?_
 | refine WS_nil ?_)
 | refine hfin _ _ (some p') ?_ ?_ ?_ ?_
 | refine WC_seq ?_
 | refine WC_opsS ?_
 | refine okF_intro rfl ?_)
    · refine ⟨by show st1.lim ≤ h; rw [e1]; exact hlim, by show h < st1.next; omega, .inr ⟨p', c', rfl, hp', ?_, ?_, ?_⟩⟩
      · show upd st1.boxes h _ h = _
        rw [upd_same]
        simp [Box.set]
      · have : RowIs st1 p' 2 ((xs ++ [a]).map Rd.e) := by simpa using hR1
        exact this.of this.1 this.2.1 (upd_ne _ _ hp')
      · simpa using e7
    · refine ⟨e1, e2, e3, e4, by show st.next ≤ st1.next; omega, fun q hq h1 h2 => ?_, ?_⟩
      · show upd st1.boxes h _ q = _
        rw [upd_ne _ _ h1, hb2 q (fun e => h2 (by rw [e])) (Nat.lt_succ_of_lt hq)]
        exact upd_ne _ _ (Nat.ne_of_lt hq)
      · rcases e6 with rfl | e6
        · exact .inl rfl
        · have e6 : st.next + 1 ≤ p' := e6
          exact .inr ⟨p', rfl, by omega⟩
    · rfl
    · rfl
end Go.Lea
/-
  What the heap's functions come to: the first one is taken; a heap of some.
-/
namespace Go.Lea
open Go.Ev
theorem resPop {ρ : Nat → D} {st : Store} {p : Nat} {a b : D} {t : Bool} (h2 : ρ 2 = .ptr p 0) (h3 : ρ 3 = .bool t) (hb : (st.boxes p).bind Box.cs = some [a, b]) (hl : st.lim ≤ p) : resAll ρ st c_heap_Heap_Pop.res = some (.tuple [.agg [a, b], .bool t]) := by
  simp [resAll, resD, c_heap_Heap_Pop, h2, h3, Store.cellsAt, hb, Nat.not_lt.mpr hl, cut]
theorem s_Pop (xs : List Rd) (hx : xs.length ≤ 1073741823) (st : Store) (h : Nat) (o : Option Nat) (hH : HW st h o xs) (hX : hp xs) :
    EvRWX Γ 41 [.ptr h 0] st (fun r st' => (xs = [] ∧ r = .tuple [.agg [.int .i64 0, .int .i64 0], .bool false] ∧ HW st' h o [] ∧ Fr st st' h o o) ∨ (0 < xs.length ∧ r = .tuple [(atR xs 0).e, .bool true] ∧ ∃ ys, HW st' h o ys ∧ hp ys ∧ xs.Perm (atR xs 0 :: ys) ∧ Fr st st' h o o)) := by
  have hlim := hH.lim
  have hnx := hH.nx
  have hl2 : st.lim ≤ st.next := Nat.le_trans hlim (Nat.le_of_lt hnx)
  have hne : h ≠ st.next := Nat.ne_of_lt hnx
  have hne1 : st.next ≠ st.next + 1 := by omega
  have H1 : ∀ {x : Option Box}, HW { st with boxes := upd st.boxes st.next x, next := st.next + 1 } h o xs := fun {x} => hH.of rfl (Nat.le_succ _) (fun q hq _ => upd_ne _ _ (Nat.ne_of_lt hq))
  have hpk := fun {x} => s_Peek xs (by omega) _ h o (H1 (x := x))
  by_cases h0 : xs = []
  · subst h0
    refine EvRWX_code rfl rfl ?_
    repeat' (first
 | (refine I_WS ?_; first
 | refine W_store (cs' := [_, _]) rfl rfl (upd_same _ _ _) rfl (Nat.le_succ_of_le hl2) rfl rfl rfl ?_
 | refine W_store (cs' := [_, _]) rfl rfl ((upd_ne _ _ hne1).trans ((upd_ne _ _ hne1).trans (upd_same _ _ _))) rfl hl2 rfl rfl rfl ?_
 | (refine I_mov ?_; first
 | refine W_mov (v := .bool _) rfl rfl rfl ?_
 | refine W_mov (v := .ptr _ _) rfl rfl rfl ?_
 | refine W_mov (v := .tuple _) rfl rfl rfl ?_)
 | (refine I_load ?_; first
 | refine W_load (agg := true) (d := .agg [_, _]) rfl rfl rfl (bxc rfl) (Nat.le_succ_of_le hl2) rfl ?_)
 | (refine I_call ?_; first
 | refine W_callRO rfl rfl rfl hpk rfl rfl ?_)
 | (refine I_extract ?_; first
 | refine W_extract (d := .bool _) rfl rfl rfl rfl ?_
 | refine W_extract (d := .agg _) rfl rfl rfl rfl ?_)
 | refine W_not rfl rfl rfl ?_
 | refine W_alloc rfl rfl ?_
 | refine WS_nil ?_)
 | refine WC_seq ?_
 | refine WC_opsS ?_
 | refine WC_condT rfl ?_
 | refine WC_ret ?_)
    refine ⟨.inr rfl, _, resPop rfl rfl (bxc rfl) hl2, .inl ⟨rfl, rfl, hH.of rfl ?_ (fun q hq _ => ?_), ⟨rfl, rfl, rfl, rfl, ?_, fun q hq _ _ => ?_, .inl rfl⟩⟩⟩
    · show st.next ≤ st.next + 1 + 1; omega
    · have k1 : q ≠ st.next := Nat.ne_of_lt hq
      have k2 : q ≠ st.next + 1 := by omega
      exact (upd_ne _ _ k1).trans ((upd_ne _ _ k2).trans ((upd_ne _ _ k2).trans (upd_ne _ _ k1)))
    · show st.next ≤ st.next + 1 + 1; omega
    · have k1 : q ≠ st.next := Nat.ne_of_lt hq
      have k2 : q ≠ st.next + 1 := by omega
      exact (upd_ne _ _ k1).trans ((upd_ne _ _ k2).trans ((upd_ne _ _ k2).trans (upd_ne _ _ k1)))
  · have hl : 0 < xs.length := List.length_pos_iff.mpr h0
    have hl1 : xs.length - 1 < xs.length := by omega
    have hok : (decide (0 < xs.length)) = true := by simp [hl]
    obtain ⟨_, _, ⟨rfl, rfl, hb⟩ | ⟨r, c, rfl, hrh, hb, hR, hcap⟩⟩ := id hH
    · exact absurd rfl h0
    rw [hok] at hpk
    have hbh : ∀ {x y z : Option Box}, ((upd (upd (upd st.boxes st.next x) (st.next + 1) y) (st.next + 1) z) h).bind Box.cs = some [.rs r 0 2 xs.length c] := fun {x y z} => by
      rw [upd_ne _ _ (by omega), upd_ne _ _ (by omega), upd_ne _ _ (by omega), hb]; rfl
    have H2 : ∀ {x y z : Option Box}, HW { st with boxes := upd (upd (upd st.boxes st.next x) (st.next + 1) y) (st.next + 1) z, next := st.next + 1 + 1 } h (some r) xs := fun {x y z} => hH.of rfl (by show st.next ≤ st.next + 1 + 1; omega) (fun q hq _ => (upd_ne _ _ (by omega)).trans ((upd_ne _ _ (by omega)).trans (upd_ne _ _ (by omega))))
    have hsw := fun {x y z} => swp_hw (by omega) (H2 (x := x) (y := y) (z := z)) hl hl1
    have hcast : ((xs.length : Int) - 1) = ((xs.length - 1 : Nat) : Int) := by omega
    refine EvRWX_code rfl rfl ?_
    repeat' (first
 | (refine I_WS ?_; first
 | refine W_sub rfl rfl rfl rfl (s := ((xs.length - 1 : Nat) : Int)) (by rw [hcast]; exact w64 (by omega)) ?_
 | refine W_store (cs' := [_, _]) rfl rfl (upd_same _ _ _) rfl (Nat.le_succ_of_le hl2) rfl rfl rfl ?_
 | (refine I_mov ?_; first
 | refine W_mov (v := .int _ _) rfl rfl rfl ?_
 | refine W_mov (v := .bool _) rfl rfl rfl ?_
 | refine W_mov (v := .ptr _ _) rfl rfl rfl ?_
 | refine W_mov (v := .tuple _) rfl rfl rfl ?_)
 | (refine I_load ?_; first
 | refine W_load (agg := false) (d := .rs r 0 2 xs.length c) rfl rfl rfl hbh hlim rfl ?_)
 | (refine I_call ?_; first
 | refine W_callRO rfl rfl rfl hpk rfl rfl ?_
 | (refine W_callRWX rfl rfl rfl hsw ?_ <;> intro r1 st1 hp1))
 | (refine I_extract ?_; first
 | refine W_extract (d := .bool _) rfl rfl rfl rfl ?_
 | refine W_extract (d := .agg _) rfl rfl rfl rfl ?_)
 | refine W_not rfl rfl rfl ?_
 | refine W_lenR rfl rfl rfl ?_
 | refine W_faddr rfl rfl rfl ?_
 | refine W_nilCheckM rfl rfl ?_
 | refine W_alloc rfl rfl ?_
 | refine WS_nil ?_)
 | refine WC_seq ?_
 | refine WC_opsS ?_
 | refine WC_skip ?_
 | refine WC_condF rfl ?_)
    obtain ⟨rfl, hH1, hF1⟩ := hp1
    have hn1 : st.next + 1 + 1 ≤ st1.next := hF1.next
    have hl3 : st1.lim = st.lim := hF1.lim
    have hzl : (swp xs 0 (xs.length - 1) (atR xs 0) (atR xs (xs.length - 1))).length = xs.length := swp_len _ _ _ _ _
    have hperm := pop_perm hl
    have hpx := pop_hpx hX hl
    generalize hzs : swp xs 0 (xs.length - 1) (atR xs 0) (atR xs (xs.length - 1)) = zs at *
    obtain ⟨hlim1, hnx1, ⟨e, _, _⟩ | ⟨r2, c2, e, hrh2, hb2, hR2, hcap2⟩⟩ := id hH1
    · cases e
    cases e
    have hbN : st1.boxes st.next = some (.cells [.int .i64 0, .int .i64 0]) := by
      have k1 : st.next ≠ st.next + 1 := by omega
      have := hF1.box st.next (by show st.next < st.next + 1 + 1; omega) (Ne.symm hne) (fun e => by cases e; exact absurd hR.2.1 (Nat.lt_irrefl _))
      rw [this]
      exact (upd_ne _ _ k1).trans ((upd_ne _ _ k1).trans (upd_same _ _ _))
    have hbN1 : st1.boxes (st.next + 1) = some (.cells [.int .i64 (atR xs 0).node, .int .i64 (atR xs 0).at']) := by
      have := hF1.box (st.next + 1) (by show st.next + 1 < st.next + 1 + 1; omega) (by omega) (fun e => by cases e; have := hR.2.1; omega)
      rw [this]
      exact upd_same _ _ _
    have hb3 : (st1.boxes h).bind Box.cs = some [.rs r 0 2 zs.length c2] := by rw [hb2]; rfl
    have htl : (zs.take (xs.length - 1)).length = xs.length - 1 := by rw [List.length_take, hzl]; omega
    have H4 : HW { st1 with boxes := upd st1.boxes h (some (.cells [.rs r 0 2 (xs.length - 1) c2])) } h (some r) (zs.take (xs.length - 1)) := by
      refine ⟨hlim1, hnx1, .inr ⟨r, c2, rfl, hrh, by rw [htl]; exact upd_same _ _ _, ?_, by rw [htl]; omega⟩⟩
      have : RowAt st1 r 2 ((zs.take (xs.length - 1)).map Rd.e) := by
        have h1 := hR2.at
        rw [← List.take_append_drop (xs.length - 1) zs, List.map_append] at h1
        exact h1.pre rd_cells
      exact ⟨hR2.1, hR2.2.1, this.of (upd_ne _ _ hrh)⟩
    have hdn := s_down h (some r) (xs.length - 1) 0 _ _ (by rw [htl]; omega) (Nat.zero_le _) (by rw [htl]; omega) H4 hpx
    have hcj : xs.length - 1 ≤ c2 := by omega
    repeat' (first
 | (refine I_WS ?_; first
 | refine W_sliceRHi rfl rfl (asN (xs.length - 1)) hcj rfl ?_
 | refine W_store (cs' := [.rs r 0 2 (xs.length - 1) c2]) rfl rfl hb2 rfl hlim1 rfl rfl rfl ?_
 | (refine I_mov ?_; first
 | refine W_mov (v := .int _ _) rfl rfl rfl ?_
 | refine W_mov (v := .ptr _ _) rfl rfl rfl ?_)
 | (refine I_load ?_; first
 | refine W_load (agg := false) (d := .rs r 0 2 zs.length c2) rfl rfl rfl hb3 hlim1 rfl ?_)
 | (refine I_call ?_; first
 | (refine W_callRWX rfl rfl rfl hdn ?_ <;> intro r1 st2 hp2))
 | refine W_faddr rfl rfl rfl ?_
 | refine W_nilCheckM rfl rfl ?_
 | refine WS_nil ?_)
 | refine WC_seq ?_
 | refine WC_opsS ?_)
    obtain ⟨rfl, ys, hH2, hhp, hperm2, hF2⟩ := hp2
    have hn2 : st1.next ≤ st2.next := hF2.next
    have hl4 : st2.lim = st.lim := hF2.lim.trans hl3
    have hcN : st2.boxes st.next = some (.cells [.int .i64 0, .int .i64 0]) := by
      rw [hF2.box st.next (by show st.next < st1.next; omega) (Ne.symm hne) (fun e => by cases e; exact absurd hR.2.1 (Nat.lt_irrefl _)), ← hbN]
      exact upd_ne _ _ (Ne.symm hne)
    have hcN1 : (st2.boxes (st.next + 1)).bind Box.cs = some [.int .i64 (atR xs 0).node, .int .i64 (atR xs 0).at'] := by
      have k1 : st.next + 1 ≠ h := by omega
      have eN1 : st2.boxes (st.next + 1) = st1.boxes (st.next + 1) := (hF2.box (st.next + 1) (by show st.next + 1 < st1.next; omega) k1 (fun e => by cases e; have := hR.2.1; omega)).trans (upd_ne _ _ k1)
      rw [eN1, hbN1]
      rfl
    repeat' (first
 | (refine I_WS ?_; first
 | refine W_store (cs' := [_, _]) rfl rfl hcN rfl (by rw [hl4]; exact hl2) rfl rfl rfl ?_
 | (refine I_mov ?_; first
 | refine W_mov (v := .bool _) rfl rfl rfl ?_)
 | (refine I_load ?_; first
 | refine W_load (agg := true) (d := .agg [_, _]) rfl rfl rfl hcN1 (by rw [hl4]; exact Nat.le_succ_of_le hl2) rfl ?_)
 | refine WS_nil ?_)
 | refine WC_ret ?_)
    refine ⟨.inr rfl, _, resPop rfl rfl (bxc rfl) (by show st2.lim ≤ _; rw [hl4]; exact hl2), .inr ⟨hl, rfl, ys, ?_, hhp, hperm.trans (List.Perm.cons _ hperm2.symm), ?_⟩⟩
    · refine hH2.of rfl (Nat.le_refl _) (fun q hq hq2 => upd_ne _ _ ?_)
      rcases hq2 with rfl | hq2
      · exact hne
      · cases hq2
        exact Nat.ne_of_lt hR.2.1
    · refine ⟨hl4, hF2.tlim.trans hF1.tlim, hF2.toks.trans hF1.toks, hF2.ntok.trans hF1.ntok, by show st.next ≤ st2.next; omega, fun q hq q1 q2 => ?_, .inl rfl⟩
      have k1 : q ≠ st.next := Nat.ne_of_lt hq
      have k2 : q ≠ st.next + 1 := by omega
      refine (upd_ne _ _ k1).trans ?_
      rw [hF2.box q (by show q < st1.next; omega) q1 q2]
      refine (upd_ne _ _ q1).trans ?_
      rw [hF1.box q (by show q < st.next + 1 + 1; omega) q1 q2]
      exact (upd_ne _ _ k2).trans ((upd_ne _ _ k2).trans (upd_ne _ _ k1))
end Go.Lea
/-
  What the heap's functions come to, as rows in order.
-/
namespace Go.Lea
open Go.Ev
def AH (st : Store) (h : Nat) (o : Option Nat) (s : List Rd) : Prop := ∃ xs, HW st h o xs ∧ hp xs ∧ xs.Perm s ∧ Srt s
theorem AH.of {st st' : Store} {h : Nat} {o : Option Nat} {s : List Rd} (H : AH st h o s) (hl : st'.lim = st.lim) (hn : st.next ≤ st'.next) (hb : ∀ q, q < st.next → q = h ∨ some q = o → st'.boxes q = st.boxes q) : AH st' h o s := by
  obtain ⟨xs, h1, h2, h3, h4⟩ := H
  exact ⟨xs, h1.of hl hn hb, h2, h3, h4⟩
theorem AH.nx {st : Store} {h : Nat} {o : Option Nat} {s : List Rd} (H : AH st h o s) : h < st.next := by
  obtain ⟨xs, h1, _⟩ := H
  exact h1.nx
theorem AH.lim {st : Store} {h : Nat} {o : Option Nat} {s : List Rd} (H : AH st h o s) : st.lim ≤ h := by
  obtain ⟨xs, h1, _⟩ := H
  exact h1.lim
theorem AH.onx {st : Store} {h r : Nat} {s : List Rd} (H : AH st h (some r) s) : r < st.next := by
  obtain ⟨xs, ⟨_, _, ⟨h1, _⟩ | ⟨r', c, h1, _, _, h3, _⟩⟩, _⟩ := H
  · cases h1
  · cases h1; exact h3.2.1
def hdR (s : List Rd) : Rd := s.headD ⟨0, 0⟩
theorem s_LenA {st : Store} {h : Nat} {o : Option Nat} {s : List Rd} (H : AH st h o s) (hs : s.length ≤ 1073741823) : EvRO Γ 40 [.ptr h 0] st (.int .i64 s.length) := by
  obtain ⟨xs, h1, h2, h3, h4⟩ := H
  rw [← h3.length_eq]
  exact s_Len xs (by have := h3.length_eq; omega) st h o h1
theorem top_eq {xs s : List Rd} (h2 : hp xs) (h3 : xs.Perm s) (h4 : Srt s) (hl : 0 < xs.length) : atR xs 0 = hdR s := by
  cases s with
  | nil => have := h3.length_eq; simp at this; simp [this] at hl
  | cons x s =>
    show atR xs 0 = x
    have hm : atR xs 0 ∈ xs := List.mem_of_getElem? (atR_some hl)
    have hx : x ∈ xs := h3.mem_iff.mpr List.mem_cons_self
    refine lt_antisymm ?_ ?_
    · rcases List.mem_cons.mp (h3.mem_iff.mp hm) with e | e
      · rw [e]; exact lt_irrefl _
      · exact h4.1 _ e
    · obtain ⟨j, hj, e⟩ := List.getElem_of_mem hx
      have := hp_min h2 j hj
      rw [atR_of (List.getElem?_eq_some_iff.mpr ⟨hj, e⟩)] at this
      exact this
theorem s_PushA {st : Store} {h : Nat} {o : Option Nat} {s : List Rd} (H : AH st h o s) (hs : s.length ≤ 1073741823) (a : Rd) :
    EvRWX Γ 44 [.ptr h 0, a.e] st (fun r st' => r = .tuple [] ∧ ∃ o', AH st' h o' (ins a s) ∧ Fr st st' h o o') := by
  obtain ⟨xs, h1, h2, h3, h4⟩ := H
  refine (s_Push xs (by have := h3.length_eq; omega) st h o a h1 h2).mono (fun r st' hp => ?_)
  obtain ⟨rfl, ys, o', k1, k2, k3, k4⟩ := hp
  exact ⟨rfl, o', ⟨ys, k1, k2, k3.trans ((h3.cons a).trans (ins_perm a s).symm), ins_srt a s h4⟩, k4⟩
theorem s_PopA {st : Store} {h : Nat} {o : Option Nat} {s : List Rd} (H : AH st h o s) (hs : s.length ≤ 1073741823) :
    EvRWX Γ 41 [.ptr h 0] st (fun r st' => r = .tuple [(hdR s).e, .bool (decide (0 < s.length))] ∧ AH st' h o s.tail ∧ Fr st st' h o o) := by
  obtain ⟨xs, h1, h2, h3, h4⟩ := H
  have hl := h3.length_eq
  refine (s_Pop xs (by omega) st h o h1 h2).mono (fun r st' hp => ?_)
  rcases hp with ⟨rfl, rfl, k1, k2⟩ | ⟨k0, rfl, ys, k1, k2, k3, k4⟩
  · have e2 : s = [] := List.length_eq_zero_iff.mp (by simpa using hl.symm)
    subst e2
    exact ⟨rfl, ⟨[], k1, h2, List.Perm.refl _, trivial⟩, k2⟩
  · have ht := top_eq h2 h3 h4 k0
    have h0 : 0 < s.length := by omega
    cases s with
    | nil => simp at h0
    | cons x s =>
      have ht : atR xs 0 = x := ht
      rw [ht] at k3 ⊢
      exact ⟨by simp [hdR], ⟨ys, k1, k2, (List.perm_cons x).mp (k3.symm.trans h3), h4.2⟩, k4⟩
structure Nw (st st' : Store) : Prop where
  lim : st'.lim = st.lim
  tlim : st'.tlim = st.tlim
  toks : st'.toks = st.toks
  ntok : st'.ntok = st.ntok
  next : st.next ≤ st'.next
  box : ∀ q, q < st.next → st'.boxes q = st.boxes q
theorem at_mid' {l pre post : List Rd} {x : Rd} (h : l = pre ++ x :: post) : l[pre.length]? = some x := by rw [h]; simp
theorem l_New (st0 : Store) (h : Nat) (hh : st0.next ≤ h) (hl : st0.lim ≤ st0.next) (l : List Rd) (hll : l.length ≤ 1073741823) (t : Tok) (sz : Nat) (hsz : sz = 2 ∨ l = []) : ∀ (post pre : List Rd), l = pre ++ post →
    ∀ (ρ : Nat → D) (st : Store) (o : Option Nat), AH st h o (sortL pre) → Nw st0 st → (∀ r, o = some r → st0.next ≤ r) → ρ 3 = .ptr h 0 → ρ 8 = .slice t sz (l.map Rd.e) → ρ 9 = .int .i64 l.length → ρ 10 = .int .i64 pre.length → ∀ (Q : X → (Nat → D) → Store → Prop),
    (∀ ρ' st' o', AH st' h o' (sortL l) → Nw st0 st' → (∀ r, o' = some r → st0.next ≤ r) → ρ' 3 = .ptr h 0 → Q (.exit 0) ρ' st') → WC Γ (.loop c_heap_New_l0) ρ st Q := by
  intro post
  induction post with
  | nil =>
    intro pre hp ρ st o H N ho h3 h8 h9 h10 Q hQ
    rw [List.append_nil] at hp
    subst hp
    rw [← upd_self h3, ← upd_self h8, ← upd_self h9, ← upd_self h10]
    refine WC_loop ?_
    repeat' (first
 | (refine I_WS ?_; first
 | (refine I_bin ?_; first
 | refine W_lssF rfl rfl rfl rfl (by omega) ?_)
 | refine WS_nil ?_)
 | refine WC_seq ?_
 | refine WC_opsS ?_
 | refine WC_condF rfl ?_
 | refine WC_exit ?_)
    exact hQ _ _ o H N ho rfl
  | cons x post ih =>
    intro pre hp ρ st o H N ho h3 h8 h9 h10 Q hQ
    have hv := at_mid' hp
    have hlen : l.length = pre.length + (post.length + 1) := by rw [hp]; simp
    have hnx := H.nx
    have hlim2 : st.lim ≤ st.next := Nat.le_trans H.lim (Nat.le_of_lt hnx)
    have hsl : (sortL pre).length = pre.length := (sort_perm pre).length_eq
    have hA : ∀ {x y : Option Box}, AH { st with boxes := upd (upd st.boxes st.next x) st.next y, next := st.next + 1 } h o (sortL pre) := fun {x y} => H.of rfl (Nat.le_succ _) (fun q hq _ => (upd_ne _ _ (Nat.ne_of_lt hq)).trans (upd_ne _ _ (Nat.ne_of_lt hq)))
    have hps := fun {u v : Option Box} => s_PushA (hA (x := u) (y := v)) (by omega) x
    rw [← upd_self h3, ← upd_self h8, ← upd_self h9, ← upd_self h10]
    refine WC_loop ?_
    repeat' (first
 | (refine I_WS ?_; first
 | refine W_store (cs' := [_, _]) rfl rfl (upd_same _ _ _) rfl hlim2 rfl rfl rfl ?_
 | (refine I_mov ?_; first
 | refine W_mov (v := .int _ _) rfl rfl rfl ?_
 | refine W_mov (v := .ptr _ _) rfl rfl rfl ?_)
 | (refine I_bin ?_; first
 | refine W_lssT rfl rfl rfl rfl (by omega) ?_
 | refine W_add rfl rfl rfl rfl (by first | exact w64 (by omega) | rfl) ?_)
 | (refine I_load ?_; first
 | refine W_loadE (agg := true) (d := .agg [_, _]) rfl rfl rfl hv rfl ?_
 | refine W_load (agg := true) (d := .agg [_, _]) rfl rfl rfl (bxc rfl) hlim2 rfl ?_)
 | (refine I_call ?_; first
 | (refine W_callRWX rfl rfl rfl hps ?_ <;> intro r1 st1 hp1))
 | refine W_alloc rfl rfl ?_
 | refine W_iaddr rfl rfl rfl rfl (by first | rfl | exact sz_of (by assumption) (by omega)) (by first | decide | (simp only [List.length_map]; omega)) ?_
 | refine WS_nil ?_)
 | refine WC_seq ?_
 | refine WC_opsS ?_
 | refine WC_skip ?_
 | refine WC_condT rfl ?_
 | refine WC_block ?_)
    obtain ⟨rfl, o', H1, F1⟩ := hp1
    skip
    have hn1 : st.next + 1 ≤ st1.next := F1.next
    refine ih (pre ++ [x]) (by simp [hp]) _ st1 o' (by rw [show sortL (pre ++ [x]) = ins x (sortL pre) by simp [sortL]]; exact H1) ?_ ?_ rfl rfl rfl (by rw [List.length_append]; rfl) Q hQ
    · refine ⟨F1.lim.trans N.lim, F1.tlim.trans N.tlim, F1.toks.trans N.toks, F1.ntok.trans N.ntok, by have := N.next; omega, fun q hq => ?_⟩
      have hq2 : q < st.next := Nat.lt_of_lt_of_le hq N.next
      rw [F1.box q (Nat.lt_succ_of_lt hq2) (by omega) (fun e => by have := ho q e.symm; omega), ← N.box q hq]
      exact (upd_ne _ _ (Nat.ne_of_lt hq2)).trans (upd_ne _ _ (Nat.ne_of_lt hq2))
    · intro r hr
      rcases F1.own with e | ⟨r', e, hr'⟩
      · exact ho r (by rw [← e]; exact hr)
      · rw [hr] at e
        cases e
        have := N.next
        have hr' : st.next + 1 ≤ r := hr'
        omega
theorem s_New (l : List Rd) (hll : l.length ≤ 1073741823) (t : Tok) (sz : Nat) (hsz : sz = 2 ∨ l = []) (st : Store) (hl : st.lim ≤ st.next) :
    EvRWX Γ 39 [.slice t sz (l.map Rd.e)] st (fun r st' => ∃ h o, r = .ptr h 0 ∧ st.next ≤ h ∧ (∀ r, o = some r → st.next ≤ r) ∧ AH st' h o (sortL l) ∧ Nw st st') := by
  refine EvRWX_code rfl rfl ?_
  repeat' (first
 | (refine I_WS ?_; first
 | refine W_lenM rfl rfl rfl ?_
 | (refine I_mov ?_; first
 | refine W_mov (v := .int _ _) rfl rfl rfl ?_
 | refine W_mov (v := .slice _ _ _) rfl rfl rfl ?_
 | refine W_mov (v := .ptr _ _) rfl rfl rfl ?_
 | refine W_mov (v := .nilptr) rfl rfl rfl ?_)
 | (refine I_build ?_; first
 | refine W_build (cs := [_]) rfl rfl rfl ?_)
 | (refine I_box ?_; first
 | refine W_boxA rfl rfl rfl rfl rfl ?_)
 | refine WS_nil ?_)
 | refine WC_seq ?_
 | refine WC_opsS ?_
 | refine WC_block ?_)
  refine l_New st st.next (Nat.le_refl _) hl l hll _ sz hsz l [] rfl _ _ none ?_ ?_ (fun r hr => by cases hr) rfl rfl rfl rfl _ (fun ρ' st' o' H N ho h3 => ?_)
  · exact ⟨[], ⟨hl, Nat.lt_succ_self _, .inl ⟨rfl, rfl, upd_same _ _ _⟩⟩, fun j _ hj => by simp at hj, List.Perm.refl _, trivial⟩
  · exact ⟨rfl, rfl, rfl, rfl, Nat.le_succ _, fun q hq => upd_ne _ _ (Nat.ne_of_lt hq)⟩
  · rw [← upd_self h3]
    repeat' (first
 | (refine I_WS ?_; first
 | (refine I_mov ?_; first
 | refine W_mov (v := .ptr _ _) rfl rfl rfl ?_)
 | refine WS_nil ?_)
 | refine WC_seq ?_
 | refine WC_opsS ?_
 | refine WC_ret ?_)
    exact ⟨.inr rfl, _, rfl, _, o', rfl, Nat.le_refl _, ho, H, N⟩
end Go.Lea
/-
  What may be, rounding up.
-/
namespace Go.Lea
open Go.Ev
theorem s_num_In (n lo hi : Int) : EvP Γ 74 [.int .i64 n, .int .i64 lo, .int .i64 hi] (.bool (decide (lo ≤ n ∧ n ≤ hi))) := by
  refine EvP_code rfl rfl ?_
  repeat' (first
 | (refine I_WS ?_; first
 | (refine I_mov ?_; first
 | refine W_skip rfl ?_
 | refine W_mov (v := .int _ _) rfl rfl rfl ?_
 | refine W_mov (v := .bool _) rfl rfl rfl ?_)
 | (refine I_bin ?_; first
 | refine W_skip rfl ?_
 | (refine W_leq rfl rfl rfl rfl ?_ ?_ <;> intro _))
 | (refine I_pick ?_; first
 | refine W_pick (v := .bool _) rfl rfl rfl rfl ?_)
 | refine WS_nil ?_)
 | refine WC_seq ?_
 | refine WC_opsS ?_
 | refine WC_ret ?_)
  all_goals refine fin_bool (by simp) rfl ?_
  all_goals simp [*]
theorem s_check_Node (n : Int) : EvP Γ 47 [.int .i64 n] (.bool (decide (1 ≤ n ∧ n ≤ 255))) := by
  refine EvP_code rfl rfl ?_
  repeat' (first
 | (refine I_WS ?_; first
 | (refine I_mov ?_; first
 | refine W_mov (v := .int _ _) rfl rfl rfl ?_
 | refine W_mov (v := .bool _) rfl rfl rfl ?_)
 | (refine I_call ?_; first
 | refine W_callB rfl rfl rfl (s_num_In _ _ _) rfl ?_ ?_ <;> intro _)
 | refine WS_nil ?_)
 | refine WC_seq ?_
 | refine WC_opsS ?_
 | refine WC_ret ?_)
  all_goals refine fin_bool (by simp) rfl ?_
  all_goals simp_all
def ceilI (a b : Int) : Int := a.tdiv b + (if 1 < a.tmod b then 1 else a.tmod b)
theorem ceilI_in {a b : Int} (ha : 0 ≤ a) (hb : 1 ≤ b) : 0 ≤ ceilI a b ∧ ceilI a b ≤ a + 1 := by
  unfold ceilI
  rw [Int.tdiv_eq_ediv_of_nonneg ha, Int.tmod_eq_emod_of_nonneg ha]
  have h1 := Int.ediv_nonneg ha (show 0 ≤ b by omega)
  have h2 := Int.emod_nonneg a (show b ≠ 0 by omega)
  have h3 : a / b ≤ a := Int.ediv_le_self _ ha
  split <;> omega
theorem s_Ceil (a b : Int) (ha : 0 ≤ a) (ha2 : a ≤ 4611686018427387904) (hb : 1 ≤ b) : EvP Γ 90 [.int .i64 a, .int .i64 b] (.tuple [.int .i64 (ceilI a b), .bool true]) := by
  refine EvP_code rfl rfl ?_
  have hc := ceilI_in ha hb
  unfold ceilI at hc ⊢
  have h1 : 0 ≤ a.tdiv b ∧ a.tdiv b ≤ a := by
    rw [Int.tdiv_eq_ediv_of_nonneg ha]
    exact ⟨Int.ediv_nonneg ha (by omega), Int.ediv_le_self _ ha⟩
  have h2 : 0 ≤ a.tmod b := by
    rw [Int.tmod_eq_emod_of_nonneg ha]
    exact Int.emod_nonneg a (by omega)
  generalize hq : a.tdiv b = q at *
  generalize hr : a.tmod b = r at *
  have hb0 : b ≠ 0 := by omega
  have hq' : IntKind.wrap .i64 (a.tdiv b) = q := by rw [hq]; exact w64 (by omega)
  have hsum : IntKind.wrap .i64 (q + if 1 < r then 1 else r) = q + if 1 < r then 1 else r := w64 (by omega)
  repeat' (first
 | (refine I_WS ?_; first
 | refine W_quo (s := q) rfl rfl rfl rfl hb0 hq' ?_
 | refine W_rem (s := r) rfl rfl rfl rfl hb0 hr ?_
 | refine W_add rfl rfl rfl rfl hsum ?_
 | (refine I_mov ?_; first
 | refine W_mov (v := .int _ _) rfl rfl rfl ?_
 | refine W_mov (v := .bool _) rfl rfl rfl ?_)
 | (refine I_bin ?_; first
 | refine W_lssF rfl rfl rfl rfl (by omega) ?_)
 | (refine I_pick ?_; first
 | refine W_pick (v := .bool _) rfl rfl rfl rfl ?_)
 | refine W_min2 rfl rfl rfl rfl ?_
 | refine WS_nil ?_)
 | refine WC_seq ?_
 | refine WC_opsS ?_
 | refine WC_drawS ?_
 | refine WC_skip ?_
 | refine WC_condF rfl ?_
 | refine WC_ret ?_
 | refine okF_intro rfl ?_)
  exact fin_ground (r' := .tuple [.int _ _, .bool _]) (.inr rfl) rfl rfl rfl
end Go.Lea
/-
  What the view's functions come to: edges from a node.
-/
namespace Go.Lea
open Go.Ev
structure Eg where
  id : Int
  fr : Int
  to : Int
  op : Int
  en : Int
  ra : Int
  ow : Int
  ro : Int
deriving DecidableEq
def Eg.e (r : Eg) : D := .agg [.int .i64 r.id, .int .i64 r.fr, .int .i64 r.to, .int .i64 r.op, .int .i64 r.en, .int .i64 r.ra, .int .i64 r.ow, .int .i64 r.ro]
theorem eg_mid {l pre post : List Eg} {x : Eg} (h : l = pre ++ x :: post) : l[pre.length]? = some x := by rw [h]; simp
def fromE (n : Int) (l : List Eg) : List Eg := l.filter (fun x => decide (x.fr = n))
theorem fromE_snoc (n : Int) (l : List Eg) (x : Eg) : fromE n (l ++ [x]) = if x.fr = n then fromE n l ++ [x] else fromE n l := by
  unfold fromE
  rw [List.filter_append]
  by_cases h : x.fr = n <;> simp [h]
theorem l_From (n : Int) (l : List Eg) (hll : l.length ≤ 1073741824) (t0 : Tok) (sz0 : Nat) (hs0 : sz0 = 8 ∨ l = []) : ∀ (post pre : List Eg), l = pre ++ post → ∀ (ρ : Nat → D) (st : Store) (t : Tok) (sz : Nat), st.lim ≤ 0 → st.tlim ≤ st.ntok → AppOK st 8 t sz ((fromE n pre).map Eg.e) →
    ρ 1 = .int .i64 n → ρ 4 = .slice t sz ((fromE n pre).map Eg.e) → ρ 7 = .slice t0 sz0 (l.map Eg.e) → ρ 8 = .int .i64 l.length → ρ 9 = .int .i64 pre.length → ∀ (Q : X → (Nat → D) → Store → Prop),
    (∀ ρ' st' t' sz', (sz' = 8 ∨ fromE n l = []) → ρ' 4 = .slice t' sz' ((fromE n l).map Eg.e) → Q (.exit 0) ρ' st') → WC Γ (.loop c_view_From_l0) ρ st Q := by
  intro post
  induction post with
  | nil =>
    intro pre hp ρ st t sz hlim htk hO h1 h4 h7 h8 h9 Q hQ
    rw [List.append_nil] at hp
    subst hp
    have hsz : sz = 8 ∨ fromE n l = [] := by
      rcases hO with ⟨_, h | ⟨_, h⟩⟩ | ⟨k, _, _, _, h⟩
      · exact .inl h
      · exact .inr (List.map_eq_nil_iff.mp h)
      · exact .inl h
    rw [← upd_self h1, ← upd_self h4, ← upd_self h7, ← upd_self h8, ← upd_self h9]
    refine WC_loop ?_
    repeat' (first
 | (refine I_WS ?_; first
 | (refine I_bin ?_; first
 | refine W_lssF rfl rfl rfl rfl (by omega) ?_)
 | refine WS_nil ?_)
 | refine WC_seq ?_
 | refine WC_opsS ?_
 | refine WC_condF rfl ?_
 | refine WC_exit ?_)
    exact hQ _ _ t sz hsz rfl
  | cons x post ih =>
    intro pre hp ρ st t sz hlim htk hO h1 h4 h7 h8 h9 Q hQ
    have hv := eg_mid hp
    have hlen : l.length = pre.length + (post.length + 1) := by rw [hp]; simp
    have hsz0 : sz0 = 8 := by
      rcases hs0 with h | h
      · exact h
      · rw [h] at hlen; simp at hlen
    subst hsz0
    have hlim2 : st.lim ≤ st.next := by omega
    have hfl : (fromE n pre).length ≤ pre.length := List.length_filter_le _ _
    have hby : (((fromE n pre).map Eg.e).length + ([x.e] : List D).length) * 64 ≤ 140737488355328 := by simp; omega
    have hO1 : ∀ {u v : Option Box}, AppOK { st with boxes := upd (upd st.boxes st.next u) st.next v, next := st.next + 1 } 8 t sz ((fromE n pre).map Eg.e) := fun {u v} => hO
    have hpl : pre.length < (l.map Eg.e).length := by simp; omega
    have hltl : (pre.length : Int) < l.length := by omega
    rw [← upd_self h1, ← upd_self h4, ← upd_self h7, ← upd_self h8, ← upd_self h9]
    refine WC_loop ?_
    by_cases hx : x.fr = n
    · repeat' (first
 | (refine I_WS ?_; first
 | refine W_iaddr (j := pre.length) rfl rfl rfl rfl rfl hpl ?_
 | refine W_store (cs' := [_, _, _, _, _, _, _, _]) rfl rfl (upd_same _ _ _) rfl hlim2 rfl rfl rfl ?_
 | (refine W_app (ys := [x.e]) rfl rfl rfl hO1 (.inl rfl) hby htk rfl ?_ <;> intro k1 st1 e1 e2 e3 e4 e5 e6 e7)
 | (refine I_mov ?_; first
 | refine W_mov (v := .int _ _) rfl rfl rfl ?_
 | refine W_mov (v := .slice _ _ _) rfl rfl rfl ?_)
 | (refine I_bin ?_; first
 | refine W_lssT rfl rfl rfl rfl (by omega) ?_
 | refine W_eqlT rfl rfl rfl rfl (by omega) ?_
 | refine W_add rfl rfl rfl rfl (by first | exact w64 (by omega) | rfl) ?_)
 | (refine I_load ?_; first
 | refine W_loadE (agg := true) (d := .agg [_, _, _, _, _, _, _, _]) rfl rfl rfl hv rfl ?_
 | refine W_load (agg := false) (d := .int _ _) rfl rfl rfl (bxc rfl) hlim2 rfl ?_
 | refine W_load (agg := true) (d := .agg [_, _, _, _, _, _, _, _]) rfl rfl rfl (bxc rfl) hlim2 rfl ?_)
 | refine W_faddr rfl rfl rfl ?_
 | refine W_alloc rfl rfl ?_
 | refine W_bslice (ys := [_]) rfl rfl rfl (by decide) rfl ?_
 | refine WS_nil ?_)
 | refine WC_seq ?_
 | refine WC_opsS ?_
 | refine WC_skip ?_
 | refine WC_condT rfl ?_
 | refine WC_block ?_)
      refine ih (pre ++ [x]) (by simp [hp]) _ st1 (.own k1) 8 (by rw [e3]; exact hlim) e5 (.inr ⟨k1, rfl, e6, e7, rfl⟩) ?_ ?_ ?_ ?_ ?_ Q hQ
      · rfl
      · rw [fromE_snoc, if_pos hx, List.map_append]; rfl
      · rfl
      · rfl
      · rw [List.length_append]; rfl
    · repeat' (first
 | (refine I_WS ?_; first
 | refine W_iaddr (j := pre.length) rfl rfl rfl rfl rfl hpl ?_
 | refine W_store (cs' := [_, _, _, _, _, _, _, _]) rfl rfl (upd_same _ _ _) rfl hlim2 rfl rfl rfl ?_
 | (refine I_mov ?_; first
 | refine W_mov (v := .int _ _) rfl rfl rfl ?_)
 | (refine I_bin ?_; first
 | refine W_lssT rfl rfl rfl rfl (by omega) ?_
 | refine W_eqlF rfl rfl rfl rfl (by omega) ?_
 | refine W_add rfl rfl rfl rfl (by first | exact w64 (by omega) | rfl) ?_)
 | (refine I_load ?_; first
 | refine W_loadE (agg := true) (d := .agg [_, _, _, _, _, _, _, _]) rfl rfl rfl hv rfl ?_
 | refine W_load (agg := false) (d := .int _ _) rfl rfl rfl (bxc rfl) hlim2 rfl ?_)
 | refine W_faddr rfl rfl rfl ?_
 | refine W_alloc rfl rfl ?_
 | refine WS_nil ?_)
 | refine WC_seq ?_
 | refine WC_opsS ?_
 | refine WC_skip ?_
 | refine WC_condT rfl ?_
 | refine WC_condF rfl ?_
 | refine WC_block ?_)
      refine ih (pre ++ [x]) (by simp [hp]) _ _ t sz ?_ ?_ ?_ ?_ ?_ ?_ ?_ ?_ Q hQ
      · exact hlim
      · exact htk
      · rw [fromE_snoc, if_neg hx]; exact hO
      · rfl
      · rw [fromE_snoc, if_neg hx]; rfl
      · rfl
      · rfl
      · rw [List.length_append]; rfl
theorem s_From (n : Int) (l : List Eg) (hll : l.length ≤ 1073741824) (t : Tok) (sz : Nat) (hs : sz = 8 ∨ l = []) : EvX Γ 42 [.slice t sz (l.map Eg.e), .int .i64 n] (IsS Eg.e 8 (fromE n l)) := by
  refine EvX_code rfl rfl ?_
  repeat' (first
 | (refine I_WS ?_; first
 | refine W_lenM rfl rfl rfl ?_
 | (refine I_mov ?_; first
 | refine W_mov (v := .int _ _) rfl rfl rfl ?_
 | refine W_mov (v := .slice _ _ _) rfl rfl rfl ?_)
 | refine WS_nil ?_)
 | refine WC_seq ?_
 | refine WC_opsS ?_
 | refine WC_block ?_)
  refine l_From n l hll t sz hs l [] rfl _ _ .isnil 0 (Nat.le_refl _) (Nat.le_refl _) (.inl ⟨.inl rfl, .inr ⟨rfl, rfl⟩⟩) ?_ ?_ ?_ ?_ ?_ _ (fun ρ' st' t' sz' hsz h4 => ?_)
  · rfl
  · rfl
  · rfl
  · rfl
  · rfl
  rw [← upd_self h4]
  repeat' (first
 | (refine I_WS ?_; first
 | (refine I_mov ?_; first
 | refine W_mov (v := .slice _ _ _) rfl rfl rfl ?_)
 | refine WS_nil ?_)
 | refine WC_seq ?_
 | refine WC_opsS ?_
 | refine WC_ret ?_)
  exact finX_S (.inr rfl) rfl hsz rfl
end Go.Lea
/-
  What hop's functions come to: when what is ready is there.
-/
namespace Go.Lea
open Go.Ev
def Eg.ok (x : Eg) : Prop := ((1 ≤ x.fr ∧ x.fr ≤ 255) ∧ (1 ≤ x.to ∧ x.to ≤ 255) ∧ x.fr ≠ x.to) ∧ ((0 ≤ x.op ∧ x.op ≤ 1099511627776) ∧ (1 ≤ x.en ∧ x.en ≤ 2147483647) ∧ (0 ≤ x.ow ∧ x.ow ≤ 2147483647)) ∧ (1 ≤ x.id ∧ x.id ≤ 1048576) ∧ (1 ≤ x.ra ∧ x.ra ≤ 2147483647) ∧ (0 ≤ x.ro ∧ x.ro ≤ 4611686018427387904)
instance (x : Eg) : Decidable x.ok := by unfold Eg.ok; infer_instance
set_option maxHeartbeats 4000000 in
theorem s_hRight (x : Eg) : EvP Γ 89 [x.e] (.bool (decide x.ok)) := by
  refine EvP_code rfl rfl ?_
  unfold Eg.ok
  repeat' (first
 | (refine I_WS ?_; first
 | (refine I_mov ?_; first
 | refine W_skip rfl ?_
 | refine W_mov (v := .bool _) rfl rfl rfl ?_)
 | (refine I_bin ?_; first
 | refine W_skip rfl ?_
 | (refine W_neq rfl rfl rfl rfl ?_ ?_ <;> intro _))
 | (refine I_load ?_; first
 | refine W_skip rfl ?_
 | refine W_load (agg := false) (d := .int _ _) rfl rfl rfl rfl (by first | exact Nat.zero_le _ | omega) rfl ?_)
 | (refine I_call ?_; first
 | refine W_skip rfl ?_
 | (refine W_callB rfl rfl rfl (s_check_Node _) rfl ?_ ?_ <;> intro _)
 | (refine W_callB rfl rfl rfl (s_num_In _ _ _) rfl ?_ ?_ <;> intro _))
 | (refine I_pick ?_; first
 | refine W_pick (v := .bool _) rfl rfl rfl rfl ?_)
 | (refine I_box ?_; first
 | refine W_boxA rfl rfl rfl rfl rfl ?_)
 | refine W_faddr rfl rfl rfl ?_
 | refine W_skip rfl ?_
 | refine WS_nil ?_)
 | refine WC_seq ?_
 | refine WC_opsS ?_
 | refine WC_ret ?_)
  all_goals (refine fin_bool (by simp) rfl ?_; first | (simp_all; done) | (simp_all; omega) | (simp only [eq_comm (a := true), eq_comm (a := false), decide_eq_true_eq, decide_eq_false_iff_not] at *; omega) | grind)
def rightE (x : Eg) (t sz : Int) : Prop := (0 ≤ t ∧ t ≤ 1099511627776) ∧ (0 ≤ sz ∧ sz ≤ 1099511627775) ∧ x.ok
instance (x : Eg) (t sz : Int) : Decidable (rightE x t sz) := by unfold rightE; infer_instance
theorem s_right (x : Eg) (t sz : Int) : EvP Γ 70 [x.e, .int .i64 t, .int .i64 sz] (.bool (decide (rightE x t sz))) := by
  refine EvP_code rfl rfl ?_
  unfold rightE
  repeat' (first
 | (refine I_WS ?_; first
 | (refine I_mov ?_; first
 | refine W_skip rfl ?_
 | refine W_mov (v := .int _ _) rfl rfl rfl ?_
 | refine W_mov (v := .bool _) rfl rfl rfl ?_)
 | (refine I_load ?_; first
 | refine W_skip rfl ?_
 | refine W_load (agg := true) (d := .agg [_, _, _, _, _, _, _, _]) rfl rfl rfl rfl (by first | exact Nat.zero_le _ | omega) rfl ?_)
 | (refine I_call ?_; first
 | refine W_skip rfl ?_
 | (refine W_callB rfl rfl rfl (s_hRight _) rfl ?_ ?_ <;> intro _)
 | (refine W_callB rfl rfl rfl (s_num_In _ _ _) rfl ?_ ?_ <;> intro _))
 | (refine I_pick ?_; first
 | refine W_pick (v := .bool _) rfl rfl rfl rfl ?_)
 | (refine I_box ?_; first
 | refine W_boxA rfl rfl rfl rfl rfl ?_)
 | refine WS_nil ?_)
 | refine WC_seq ?_
 | refine WC_opsS ?_
 | refine WC_ret ?_)
  all_goals (refine fin_bool (by simp) rfl ?_; first | (simp_all; done) | (simp_all; omega) | (simp only [eq_comm (a := true), eq_comm (a := false), decide_eq_true_eq, decide_eq_false_iff_not] at *; omega) | grind)
def takesE (x : Eg) (sz : Int) : Int := if rightE x 0 sz then ceilI sz x.ra else 0
theorem takes_in (x : Eg) (sz : Int) : 0 ≤ takesE x sz ∧ takesE x sz ≤ 1099511627776 := by
  unfold takesE
  split
  · rename_i h
    have := ceilI_in (a := sz) (b := x.ra) h.2.1.1 h.2.2.2.2.2.1.1
    have := h.2.1.2
    omega
  · omega
theorem s_Takes (x : Eg) (sz : Int) : EvP Γ 69 [x.e, .int .i64 sz] (.int .i64 (takesE x sz)) := by
  refine EvP_code rfl rfl ?_
  unfold takesE
  by_cases h : rightE x 0 sz
  · rw [if_pos h]
    have hc := s_Ceil sz x.ra h.2.1.1 (by have := h.2.1.2; omega) h.2.2.2.2.2.1.1
    have hr := s_right x 0 sz
    rw [decide_eq_true h] at hr
    generalize ceilI sz x.ra = c at hc ⊢
    repeat' (first
 | (refine I_WS ?_; first
 | (refine I_mov ?_; first
 | refine W_mov (v := .int _ _) rfl rfl rfl ?_
 | refine W_mov (v := .bool _) rfl rfl rfl ?_
 | refine W_mov (v := .tuple _) rfl rfl rfl ?_)
 | (refine I_load ?_; first
 | refine W_load (agg := false) (d := .int _ _) rfl rfl rfl rfl (by first | exact Nat.zero_le _ | omega) rfl ?_
 | refine W_load (agg := true) (d := .agg [_, _, _, _, _, _, _, _]) rfl rfl rfl rfl (by first | exact Nat.zero_le _ | omega) rfl ?_)
 | (refine I_call ?_; first
 | refine W_call rfl rfl rfl hr rfl rfl ?_
 | refine W_call rfl rfl rfl hc rfl rfl ?_)
 | (refine I_extract ?_; first
 | refine W_extract (d := .int _ _) rfl rfl rfl rfl ?_
 | refine W_extract (d := .bool _) rfl rfl rfl rfl ?_)
 | (refine I_box ?_; first
 | refine W_boxA rfl rfl rfl rfl rfl ?_)
 | refine W_not rfl rfl rfl ?_
 | refine W_faddr rfl rfl rfl ?_
 | refine WS_nil ?_)
 | refine WC_seq ?_
 | refine WC_opsS ?_
 | refine WC_skip ?_
 | refine WC_condF rfl ?_
 | refine WC_ret ?_)
    exact fin_int (.inr rfl) rfl rfl
  · rw [if_neg h]
    have hr := s_right x 0 sz
    rw [decide_eq_false h] at hr
    repeat' (first
 | (refine I_WS ?_; first
 | (refine I_mov ?_; first
 | refine W_mov (v := .int _ _) rfl rfl rfl ?_)
 | (refine I_load ?_; first
 | refine W_load (agg := true) (d := .agg [_, _, _, _, _, _, _, _]) rfl rfl rfl rfl (by first | exact Nat.zero_le _ | omega) rfl ?_)
 | (refine I_call ?_; first
 | refine W_call rfl rfl rfl hr rfl rfl ?_)
 | (refine I_box ?_; first
 | refine W_boxA rfl rfl rfl rfl rfl ?_)
 | refine W_not rfl rfl rfl ?_
 | refine WS_nil ?_)
 | refine WC_seq ?_
 | refine WC_opsS ?_
 | refine WC_condT rfl ?_
 | refine WC_ret ?_)
    exact fin_int (.inr rfl) rfl rfl
def mx (a b : Int) : Int := if b > a then b else a
theorem mx_le {a b c : Int} : mx a b ≤ c ↔ a ≤ c ∧ b ≤ c := by unfold mx; split <;> omega
theorem le_mx {a b : Int} : a ≤ mx a b ∧ b ≤ mx a b := by unfold mx; split <;> omega
section
variable {Γ : Nat → Option FD} {ρ : Nat → D} {st : Store} {dr : Bool} {R : (Nat → D) → Store → List Fl → Prop} {l : List Op1} {g : Option (Nat × Bool)} {mv : Bool} {k : Nat} {x y : A}
theorem W_mx {κ κ' : IntKind} {n m s : Int} (hg : guardV ρ g = some true) (hx : x.ev ρ = .int κ n) (hm : mv = false) (hy : y.ev ρ = .int κ' m) (hs : mx n m = s) (h : WS Γ dr l (upd ρ k (.int κ s)) st (nx .n R)) : WS Γ dr (⟨some k, g, mv, .max [x, y]⟩ :: l) ρ st R := by
  subst hs
  exact W_max2 hg hx hm hy h
end
def passC (x : Eg) (t sz : Int) : Prop := rightE x t sz ∧ sz ≤ x.ro ∧ mx t x.op ≤ x.en - mx (takesE x sz) 1
instance (x : Eg) (t sz : Int) : Decidable (passC x t sz) := by unfold passC; infer_instance
def thereE (x : Eg) (t sz : Int) : Int := mx t x.op + takesE x sz + x.ow
def passT (x : Eg) (t sz : Int) : D := if passC x t sz then .tuple [.int .i64 (mx t x.op), .int .i64 (thereE x t sz), .bool true] else .tuple [.int .i64 0, .int .i64 0, .bool false]
set_option maxHeartbeats 4000000 in
theorem s_Pass (x : Eg) (t sz : Int) : EvP Γ 43 [x.e, .int .i64 t, .int .i64 sz] (passT x t sz) := by
  refine EvP_code rfl rfl ?_
  have hT := s_Takes x sz
  have hk := takes_in x sz
  have hr := s_right x t sz
  unfold passT
  by_cases hc : passC x t sz
  · rw [if_pos hc]
    obtain ⟨h1, h2, h3⟩ := hc
    rw [decide_eq_true h1] at hr
    obtain ⟨ht, hs, hok⟩ := h1
    have hop := hok.2.1.1
    have hen := hok.2.1.2.1
    have how := hok.2.1.2.2
    have hro := hok.2.2.2.2
    have hm := le_mx (a := t) (b := x.op)
    have hm1 := le_mx (a := takesE x sz) (b := 1)
    have hmt : mx (takesE x sz) 1 ≤ 1099511627776 := mx_le.mpr ⟨hk.2, by omega⟩
    have hmo : mx t x.op ≤ 1099511627776 := mx_le.mpr ⟨ht.2, hop.2⟩
    have hm0 : 0 ≤ mx t x.op := by omega
    unfold thereE
    clear hok
    generalize takesE x sz = k at *
    generalize e1 : mx t x.op = m at *
    generalize e2 : mx k 1 = k1 at *
    repeat' (first
 | (refine I_WS ?_; first
 | refine W_mx rfl rfl rfl rfl e1 ?_
 | refine W_mx rfl rfl rfl rfl e2 ?_
 | (refine I_mov ?_; first
 | refine W_mov (v := .int _ _) rfl rfl rfl ?_
 | refine W_mov (v := .bool _) rfl rfl rfl ?_)
 | (refine I_bin ?_; first
 | refine W_gtrF rfl rfl rfl rfl (by omega) ?_
 | refine W_add rfl rfl rfl rfl (by first | exact w64 (by omega) | rfl) ?_
 | refine W_sub rfl rfl rfl rfl (by first | exact w64 (by omega) | rfl) ?_)
 | (refine I_load ?_; first
 | refine W_load (agg := false) (d := .int _ _) rfl rfl rfl rfl (by first | exact Nat.zero_le _ | omega) rfl ?_
 | refine W_load (agg := true) (d := .agg [_, _, _, _, _, _, _, _]) rfl rfl rfl rfl (by first | exact Nat.zero_le _ | omega) rfl ?_)
 | (refine I_call ?_; first
 | refine W_call rfl rfl rfl hr rfl rfl ?_
 | refine W_call rfl rfl rfl hT rfl rfl ?_)
 | (refine I_pick ?_; first
 | refine W_pick (v := .bool _) rfl rfl rfl rfl ?_)
 | (refine I_box ?_; first
 | refine W_boxA rfl rfl rfl rfl rfl ?_)
 | refine W_not rfl rfl rfl ?_
 | refine W_faddr rfl rfl rfl ?_
 | refine WS_nil ?_)
 | refine WC_seq ?_
 | refine WC_opsS ?_
 | refine WC_drawS ?_
 | refine WC_skip ?_
 | refine WC_condF rfl ?_
 | refine WC_ret ?_
 | refine okF_intro rfl ?_)
    all_goals exact fin_ground (r' := .tuple [.int _ _, .int _ _, .bool _]) (.inr rfl) rfl rfl rfl
  · rw [if_neg hc]
    by_cases h1 : rightE x t sz
    · have h1' := h1
      obtain ⟨ht, hs, hok⟩ := h1'
      have hop := hok.2.1.1
      have hen := hok.2.1.2.1
      have hm1 := le_mx (a := takesE x sz) (b := 1)
      have hmt : mx (takesE x sz) 1 ≤ 1099511627776 := mx_le.mpr ⟨hk.2, by omega⟩
      have hc' : ¬ (sz ≤ x.ro ∧ mx t x.op ≤ x.en - mx (takesE x sz) 1) := fun h => hc ⟨h1, h.1, h.2⟩
      rw [decide_eq_true h1] at hr
      clear hok hc h1
      generalize takesE x sz = k at *
      generalize e1 : mx t x.op = m at *
      generalize e2 : mx k 1 = k1 at *
      repeat' (first
 | (refine I_WS ?_; first
 | refine W_mx rfl rfl rfl rfl e1 ?_
 | refine W_mx rfl rfl rfl rfl e2 ?_
 | (refine I_mov ?_; first
 | refine W_skip rfl ?_
 | refine W_mov (v := .int _ _) rfl rfl rfl ?_
 | refine W_mov (v := .bool _) rfl rfl rfl ?_)
 | (refine I_bin ?_; first
 | refine W_skip rfl ?_
 | refine W_gtrT rfl rfl rfl rfl (by omega) ?_
 | (refine W_gtr rfl rfl rfl rfl ?_ ?_ <;> intro _)
 | refine W_sub rfl rfl rfl rfl (by first | exact w64 (by omega) | rfl) ?_)
 | (refine I_load ?_; first
 | refine W_skip rfl ?_
 | refine W_load (agg := false) (d := .int _ _) rfl rfl rfl rfl (by first | exact Nat.zero_le _ | omega) rfl ?_
 | refine W_load (agg := true) (d := .agg [_, _, _, _, _, _, _, _]) rfl rfl rfl rfl (by first | exact Nat.zero_le _ | omega) rfl ?_)
 | (refine I_call ?_; first
 | refine W_call rfl rfl rfl hr rfl rfl ?_
 | refine W_call rfl rfl rfl hT rfl rfl ?_)
 | (refine I_pick ?_; first
 | refine W_pick (v := .bool _) rfl rfl rfl rfl ?_)
 | (refine I_box ?_; first
 | refine W_boxA rfl rfl rfl rfl rfl ?_)
 | refine W_not rfl rfl rfl ?_
 | refine W_faddr rfl rfl rfl ?_
 | refine W_skip rfl ?_
 | refine WS_nil ?_)
 | refine WC_seq ?_
 | refine WC_opsS ?_
 | refine WC_condT rfl ?_
 | refine WC_ret ?_)
      all_goals first
        | exact fin_ground (r' := .tuple [.int _ _, .int _ _, .bool _]) (.inr rfl) rfl rfl rfl
        | (exfalso; omega)
    · rw [decide_eq_false h1] at hr
      repeat' (first
 | (refine I_WS ?_; first
 | (refine I_mov ?_; first
 | refine W_skip rfl ?_
 | refine W_mov (v := .int _ _) rfl rfl rfl ?_
 | refine W_mov (v := .bool _) rfl rfl rfl ?_)
 | (refine I_bin ?_; first
 | refine W_skip rfl ?_)
 | (refine I_load ?_; first
 | refine W_skip rfl ?_
 | refine W_load (agg := false) (d := .int _ _) rfl rfl rfl rfl (by first | exact Nat.zero_le _ | omega) rfl ?_
 | refine W_load (agg := true) (d := .agg [_, _, _, _, _, _, _, _]) rfl rfl rfl rfl (by first | exact Nat.zero_le _ | omega) rfl ?_)
 | (refine I_call ?_; first
 | refine W_call rfl rfl rfl hr rfl rfl ?_
 | refine W_call rfl rfl rfl hT rfl rfl ?_)
 | (refine I_pick ?_; first
 | refine W_pick (v := .bool _) rfl rfl rfl rfl ?_)
 | (refine I_box ?_; first
 | refine W_boxA rfl rfl rfl rfl rfl ?_)
 | refine W_not rfl rfl rfl ?_
 | refine W_max2 rfl rfl rfl rfl ?_
 | refine W_faddr rfl rfl rfl ?_
 | refine W_skip rfl ?_
 | refine WS_nil ?_)
 | refine WC_seq ?_
 | refine WC_opsS ?_
 | refine WC_condT rfl ?_
 | refine WC_ret ?_)
      all_goals exact fin_ground (r' := .tuple [.int _ _, .int _ _, .bool _]) (.inr rfl) rfl rfl rfl
end Go.Lea
