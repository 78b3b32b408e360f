/-
  The reference's insertion into a row: the inner loop.
-/
import Derived.Test.YtdjokmfncammeaaVitVitV
import Derived.Test.YtdjokmfncammeaaVitVitV
import Derived.Test.YtdjokmfncammeaaVitVitV
import Derived.Test.YtdjokmfncammeaaVitVitV
import Derived.Test.YtdjokmfncammeaaVitVitV
import Derived.Test.YtdjokmfncammeaaVitVitV
import Derived.Test.YtdjokmfncammeaaVitVitV
set_option linter.unusedVariables false
set_option linter.unusedSimpArgs false
set_option linter.unnecessarySimpa false

namespace Go.Vit
open Go.Ev
set_option linter.unusedVariables false
set_option linter.unusedSimpArgs false
theorem at_len (s : List Eg) (e : Eg) (k : Nat) : (at' s e k).length = s.length + 1 := (at_perm s e k).length_eq
theorem at_mid {s : List Eg} {e : Eg} {k : Nat} (h : k ≤ s.length) : (at' s e k)[k]? = some e := by
  unfold at'
  rw [List.getElem?_append_right (by simp; omega)]
  simp [Nat.min_eq_left h]
theorem at_pre {s : List Eg} {e y : Eg} {k : Nat} (hy : s[k]? = some y) : (at' s e (k + 1))[k]? = some y := by
  have := (List.getElem?_eq_some_iff.mp hy).1
  unfold at'
  rw [List.getElem?_append_left (by simp; omega), List.getElem?_take_of_lt (by omega), hy]
theorem at_swap {s : List Eg} {e y : Eg} {k : Nat} (hy : s[k]? = some y) : ((at' s e (k + 1)).set k e).set (k + 1) y = at' s e k := by
  have hk := (List.getElem?_eq_some_iff.mp hy).1
  obtain ⟨a, b, hs, ha⟩ : ∃ a b, s = a ++ y :: b ∧ a.length = k := ⟨s.take k, s.drop (k + 1), by
    have h1 : s.drop k = y :: s.drop (k + 1) := by
      rw [List.drop_eq_getElem_cons hk]
      congr 1
      rw [List.getElem?_eq_getElem hk] at hy
      exact Option.some.inj hy
    rw [← h1, List.take_append_drop], by simp; omega⟩
  subst hs ha
  unfold at'
  have h1 : (a ++ y :: b).take (a.length + 1) = a ++ [y] := by
    simp [List.take_append]
    exact List.take_of_length_le (by omega)
  have h2 : (a ++ y :: b).drop (a.length + 1) = b := by simp [List.drop_append]
  rw [h1, h2]
  simp [List.set_append]
theorem rd8 (x : Eg) : x.e = .agg [.int .i64 x.id, .int .i64 x.fr, .int .i64 x.to, .int .i64 x.op, .int .i64 x.en, .int .i64 x.ra, .int .i64 x.ow, .int .i64 x.ro] := rfl
theorem map_at {l : List Eg} {i : Nat} {x : Eg} (h : l[i]? = some x) : (l.map Eg.e)[i]? = some (.agg [.int .i64 x.id, .int .i64 x.fr, .int .i64 x.to, .int .i64 x.op, .int .i64 x.en, .int .i64 x.ra, .int .i64 x.ow, .int .i64 x.ro]) := by
  rw [List.getElem?_map, h]; rfl
set_option maxHeartbeats 4000000 in
theorem l_ins (s : List Eg) (e : Eg) (hll : s.length ≤ 1073741824) (q c : Nat) (d1 d2 d3 d8 : D) : ∀ (k : Nat), k ≤ s.length → (∀ y ∈ s.drop k, e.id ≤ y.id) → ∀ (ρ : Nat → D) (st : Store), st.lim ≤ 0 → RowIs st q 8 ((at' s e k).map Eg.e) →
    ρ 1 = d1 → ρ 2 = d2 → ρ 3 = d3 → ρ 7 = .rs q 0 8 (s.length + 1) c → ρ 8 = d8 → ρ 11 = .int .i64 k → ∀ (Q : X → (Nat → D) → Store → Prop),
    (∀ k' ρ' st', k' ≤ s.length → st'.lim ≤ 0 → st.next ≤ st'.next → (∀ b, b ≠ q → b < st.next → st'.boxes b = st.boxes b) → RowIs st' q 8 ((at' s e k').map Eg.e) → (∀ y ∈ s.drop k', e.id ≤ y.id) → (∀ y, s[k' - 1]? = some y → 0 < k' → y.id ≤ e.id) → ρ' 1 = d1 → ρ' 2 = d2 → ρ' 3 = d3 → ρ' 7 = .rs q 0 8 (s.length + 1) c → ρ' 8 = d8 → Q (.exit 2) ρ' st') → WC Γ (.loop c_feluccaref11_All_l0) ρ st Q := by
  intro k
  induction k with
  | zero =>
    intro hk hge ρ st hlim hR h1 h2 h3 h7 h8 h11 Q hQ
    rw [← upd_self h1, ← upd_self h2, ← upd_self h3, ← upd_self h7, ← upd_self h8, ← upd_self h11]
    refine WC_loop ?_
    repeat' (first
 | (refine I_WS ?_; first
 | (refine I_mov ?_; first
 | refine W_skip rfl ?_
 | refine W_mov (v := .int _ _) rfl rfl rfl ?_
 | refine W_mov (v := .bool _) rfl rfl rfl ?_)
 | (refine I_bin ?_; first
 | refine W_skip rfl ?_
 | refine W_gtrF rfl rfl rfl rfl (by omega) ?_)
 | (refine I_load ?_; first
 | refine W_skip rfl ?_)
 | (refine I_pick ?_; first
 | refine W_pick (v := .bool _) rfl rfl rfl rfl ?_)
 | refine W_skip rfl ?_
 | refine WS_nil ?_)
 | refine WC_seq ?_
 | refine WC_drawS ?_
 | refine WC_condF rfl ?_
 | refine WC_exit ?_
 | refine okF_intro rfl ?_)
    refine hQ 0 _ _ (Nat.zero_le _) hlim (Nat.le_refl _) (fun _ _ _ => rfl) hR hge (fun _ _ h => absurd h (Nat.lt_irrefl _)) ?_ ?_ ?_ ?_ ?_ <;> rfl
  | succ k ih =>
    intro hk hge ρ st hlim hR h1 h2 h3 h7 h8 h11 Q hQ
    obtain ⟨y, hy⟩ : ∃ y, s[k]? = some y := ⟨s[k]'(by omega), List.getElem?_eq_getElem _⟩
    have hve := map_at (at_mid (s := s) (e := e) hk)
    have hvy := map_at (at_pre (e := e) hy)
    have hsub : IntKind.i64.wrap (((k + 1 : Nat) : Int) - 1) = ((k : Nat) : Int) := by rw [w64 (by omega)]; omega
    have hk1 : k < s.length + 1 := by omega
    have hk2 : k + 1 < s.length + 1 := by omega
    have hpos : (0 : Int) < ((k + 1 : Nat) : Int) := by omega
    have hlim2 : st.lim ≤ st.next := by omega
    have hqlt := hR.2.1
    have hlq : st.lim ≤ q := by omega
    have hqn : q ≠ st.next := by omega
    have hkl : k < ((at' s e (k + 1)).map Eg.e).length := by rw [List.length_map, at_len]; omega
    rw [← upd_self h1, ← upd_self h2, ← upd_self h3, ← upd_self h7, ← upd_self h8, ← upd_self h11]
    refine WC_loop ?_
    by_cases hlt : e.id < y.id
    · repeat' (first
 | (refine I_WS ?_; first
 | refine W_sub (s := ((k : Nat) : Int)) rfl rfl rfl rfl hsub ?_
 | refine W_iaddrR (j := k) rfl rfl rfl rfl hk1 ?_
 | refine W_iaddrR (j := k + 1) rfl rfl rfl rfl hk2 ?_
 | refine W_store (cs' := [_, _, _, _, _, _, _, _]) rfl rfl (upd_same _ _ _) rfl hlim2 rfl rfl rfl ?_
 | (refine I_mov ?_; first
 | refine W_mov (v := .int _ _) rfl rfl rfl ?_
 | refine W_mov (v := .bool _) rfl rfl rfl ?_
 | refine W_mov (v := .rs _ _ _ _ _) rfl rfl rfl ?_)
 | (refine I_bin ?_; first
 | refine W_gtrT rfl rfl rfl rfl (by omega) ?_)
 | (refine I_load ?_; first
 | refine W_loadRow1 (j := k) (o := 0) rfl rfl hR (by omega) el8 hvy rfl rfl ?_
 | refine W_loadRow1 (j := k + 1) (o := 0) rfl rfl hR (by omega) el8 hve rfl rfl ?_
 | refine W_loadRow (j := k) rfl rfl hR.at (by omega) el8 hvy rfl ?_
 | refine W_loadRow (j := k + 1) rfl rfl (hR.of (by exact hlq) (by show q < st.next + 1; omega) (by dsimp only; rw [upd_ne _ _ hqn, upd_ne _ _ hqn])).at (by omega) el8 hve rfl ?_)
 | (refine I_pick ?_; first
 | refine W_pick (v := .bool _) rfl rfl rfl rfl ?_)
 | (refine I_store ?_; first
 | (refine W_storeRow (j := k) rfl rfl rfl (hR.of (by exact hlq) (by show q < st.next + 1; omega) (by dsimp only; rw [upd_ne _ _ hqn, upd_ne _ _ hqn])) (by omega) el8 hkl rfl rfl rfl ?_ <;> intro st1 e1 e2 e3 e4 e5 hR1 hb2))
 | refine W_faddr rfl rfl rfl ?_
 | refine W_alloc rfl rfl ?_
 | refine WS_nil ?_)
 | refine okF_intro (okFlags_rd rfl) ?_
 | refine WC_seq ?_
 | refine WC_opsS ?_
 | refine WC_drawS ?_
 | refine WC_skip ?_
 | refine WC_condT rfl ?_
 | refine WC_block ?_)
      have hbx : (st1.boxes st.next).bind Box.cs = some y.e.cells := by
        rw [hb2 _ (Ne.symm hqn)]
        dsimp only
        rw [upd_same]
        rfl
      have hl1 : st1.lim ≤ st.next := by rw [e1]; exact hlim2
      have hkl2 : k + 1 < (((at' s e (k + 1)).map Eg.e).set k e.e).length := by rw [List.length_set, List.length_map, at_len]; omega
      have hel2 : ∀ d ∈ ((at' s e (k + 1)).map Eg.e).set k e.e, d.cells.length = 8 := fun d hd => by
        rcases List.mem_or_eq_of_mem_set hd with hd | rfl
        · exact el8 d hd
        · rfl
      repeat' (first
 | (refine I_WS ?_; first
 | refine W_sub (s := ((k : Nat) : Int)) rfl rfl rfl rfl hsub ?_
 | refine W_iaddrR (j := k + 1) rfl rfl rfl rfl hk2 ?_
 | (refine I_mov ?_; first
 | refine W_mov (v := .int _ _) rfl rfl rfl ?_)
 | (refine I_load ?_; first
 | refine W_load (agg := true) (d := .agg [_, _, _, _, _, _, _, _]) rfl rfl rfl hbx hl1 rfl ?_)
 | (refine I_store ?_; first
 | (refine W_storeRow (j := k + 1) rfl rfl rfl hR1 (by omega) hel2 hkl2 rfl rfl rfl ?_ <;> intro st2 g1 g2 g3 g4 g5 hR2 hb3))
 | refine WS_nil ?_)
 | refine WC_opsS ?_)
      refine ih (by omega) (fun z hz => ?_) _ st2 ?_ ?_ ?_ ?_ ?_ ?_ ?_ ?_ Q (fun k' ρ' st' a0 a1 a2 a3 a4 a5 a6 a7 a8 a9 a10 a11 => ?_)
      · rw [List.drop_eq_getElem_cons (show k < s.length by omega)] at hz
        rcases List.mem_cons.mp hz with rfl | hz
        · rw [List.getElem?_eq_getElem (show k < s.length by omega)] at hy
          rw [Option.some.inj hy]
          omega
        · exact hge z hz
      · rw [g1, e1]; exact hlim
      · have hsw : (((at' s e (k + 1)).map Eg.e).set k e.e).set (k + 1) y.e = (at' s e k).map Eg.e := by
          rw [← List.map_set, ← List.map_set, at_swap hy]
        rw [← hsw]
        exact hR2
      · rfl
      · rfl
      · rfl
      · rfl
      · rfl
      · rfl
      · have hn2 : st.next ≤ st2.next := by rw [g5, e5]; exact Nat.le_succ _
        refine hQ k' ρ' st' a0 a1 (Nat.le_trans hn2 a2) (fun b hb hbn => ?_) a4 a5 a6 a7 a8 a9 a10 a11
        rw [a3 b hb (by omega), hb3 b hb, hb2 b hb]
        dsimp only
        rw [upd_ne _ _ (show b ≠ st.next by omega), upd_ne _ _ (show b ≠ st.next by omega)]
    · have hle : y.id ≤ e.id := by omega
      repeat' (first
 | (refine I_WS ?_; first
 | refine W_sub (s := ((k : Nat) : Int)) rfl rfl rfl rfl hsub ?_
 | refine W_iaddrR (j := k) rfl rfl rfl rfl hk1 ?_
 | refine W_iaddrR (j := k + 1) rfl rfl rfl rfl hk2 ?_
 | (refine I_mov ?_; first
 | refine W_mov (v := .int _ _) rfl rfl rfl ?_
 | refine W_mov (v := .bool _) rfl rfl rfl ?_
 | refine W_mov (v := .rs _ _ _ _ _) rfl rfl rfl ?_)
 | (refine I_bin ?_; first
 | refine W_gtrT rfl rfl rfl rfl (by omega) ?_
 | refine W_gtrF rfl rfl rfl rfl (by omega) ?_)
 | (refine I_load ?_; first
 | refine W_loadRow1 (j := k) (o := 0) rfl rfl hR (by omega) el8 hvy rfl rfl ?_
 | refine W_loadRow1 (j := k + 1) (o := 0) rfl rfl hR (by omega) el8 hve rfl rfl ?_)
 | (refine I_pick ?_; first
 | refine W_pick (v := .bool _) rfl rfl rfl rfl ?_)
 | refine W_faddr rfl rfl rfl ?_
 | refine WS_nil ?_)
 | refine okF_intro (okFlags_rd rfl) ?_
 | refine WC_seq ?_
 | refine WC_drawS ?_
 | refine WC_condF rfl ?_
 | refine WC_exit ?_)
      refine hQ (k + 1) _ _ hk hlim (Nat.le_refl _) (fun _ _ _ => rfl) hR hge (fun z hz _ => ?_) ?_ ?_ ?_ ?_ ?_
      · rw [Nat.add_sub_cancel, hy] at hz
        cases hz
        exact hle
      all_goals rfl
end Go.Vit

/-
  What the reference's functions come to: room, how long signals take, rounding up, an edge.
-/
namespace Go.Vit
open Go.Ev
set_option linter.unusedVariables false
set_option linter.unusedSimpArgs false
theorem r_Room (l : List Bk) (hs : Srt l) (id fr to st en ra : Int) (k : Int) (hl : l.length ≤ 1073741824) (hu : (getB l id).U) (t : Tok) (sz : Nat) (hsz : sz = 4 ∨ l = []) :
    EvP Γ 42 [.slice t sz (l.map Bk.e), .agg [.int .i64 id, .int .i64 fr, .int .i64 to, .int .i64 st, .int .i64 en, .int .i64 ra], .int .i64 k] (.int .i64 (room l id fr to st en ra k)) := by
  refine EvP_code rfl rfl ?_
  have hB := fun t sz hsz => r_Backlog l id k hl hu t sz hsz
  have hV := r_Volume id fr to st en ra
  have hVi := volC_in id fr to st en ra
  have hR := bkl_in hu k
  unfold room
  rw [row_get hs]
  generalize bkl (getB l id) k = bl at *
  generalize volC id fr to st en ra = vl at *
  by_cases hk : 0 ≤ k ∧ k < 3
  · repeat' (first
 | (refine I_WS ?_; first
 | (refine I_mov ?_; first
 | refine W_mov (v := .int _ _) rfl rfl rfl ?_
 | refine W_mov (v := .slice _ _ _) rfl rfl rfl ?_)
 | (refine I_bin ?_; first
 | refine W_sub rfl rfl rfl rfl (by first | exact w64 (by omega) | rfl) ?_)
 | (refine I_load ?_; first
 | refine W_load (agg := false) (d := .int _ _) rfl rfl rfl rfl (by first | exact Nat.zero_le _ | omega) rfl ?_
 | refine W_load (agg := true) (d := .agg [_, _, _, _, _, _]) rfl rfl rfl rfl (by first | exact Nat.zero_le _ | omega) rfl ?_)
 | (refine I_call ?_; first
 | refine W_callBT rfl rfl rfl (r_class _) (decide_eq_true hk) rfl ?_
 | refine W_call rfl rfl rfl (hB _ _ hsz) rfl rfl ?_
 | refine W_call rfl rfl rfl hV rfl rfl ?_)
 | (refine I_box ?_; first
 | refine W_boxA rfl rfl rfl rfl rfl ?_)
 | refine W_not rfl rfl rfl ?_
 | refine W_max2 rfl rfl rfl rfl ?_
 | refine W_faddr rfl rfl rfl ?_
 | refine WS_nil ?_)
 | refine WC_seq ?_
 | refine WC_opsS ?_
 | refine WC_drawS ?_
 | refine WC_skip ?_
 | refine WC_condF rfl ?_
 | refine WC_ret ?_
 | refine okF_intro rfl ?_)
    refine fin_int (by simp) rfl ?_
    rw [if_pos hk]
    split <;> split <;> omega
  · repeat' (first
 | (refine I_WS ?_; first
 | (refine I_mov ?_; first
 | refine W_mov (v := .int _ _) rfl rfl rfl ?_)
 | (refine I_call ?_; first
 | refine W_callBF rfl rfl rfl (r_class _) (decide_eq_false hk) rfl ?_)
 | (refine I_box ?_; first
 | refine W_boxA rfl rfl rfl rfl rfl ?_)
 | refine W_not rfl rfl rfl ?_
 | refine WS_nil ?_)
 | refine WC_seq ?_
 | refine WC_opsS ?_
 | refine WC_condT rfl ?_
 | refine WC_ret ?_)
    refine fin_int (by simp) rfl ?_
    rw [if_neg hk]
theorem rl_Owlt (rs : List Rg) (c : Ct) (hll : rs.length ≤ 1073741824) (t : Tok) (sz : Nat) (hs : sz = 5 ∨ rs = []) (st : Store) (hlim : st.lim ≤ 0) (hb : (st.boxes 0).bind Box.cs = some c.e.cells) : ∀ (post pre : List Rg), rs = pre ++ post → (∀ r ∈ pre, cov c r = false) → ∀ (ρ : Nat → D),
    ρ 0 = .slice t sz (rs.map Rg.e) → ρ 3 = .ptr 0 0 → ρ 6 = .int .i64 pre.length → ∀ (Q : X → (Nat → D) → Store → Prop),
    ((∀ r ∈ rs, cov c r = false) → ∀ ρ', Q (.exit 0) ρ' st) → (∀ x, rs.find? (cov c) = some x → ∀ ρ', ρ' 4 = .int .i64 x.ow → ρ' 5 = .bool true → Q .ret ρ' st) → WC Γ (.loop c_feluccaref07_Owlt_l0) ρ st Q := by
  intro post
  induction post with
  | nil =>
    intro pre hpp hn ρ h0 h3 h6 Q hQ hQ2
    rw [List.append_nil] at hpp
    have hlen : rs.length = pre.length := by rw [hpp]
    rw [← hpp] at hn
    rw [← upd_self h0, ← upd_self h3, ← upd_self h6]
    refine WC_loop ?_
    repeat' (first
 | (refine I_WS ?_; first
 | (refine I_mov ?_; first
 | refine W_mov (v := .int _ _) rfl rfl rfl ?_
 | refine W_mov (v := .slice _ _ _) rfl rfl rfl ?_)
 | (refine I_bin ?_; first
 | refine W_lssF rfl rfl rfl rfl (by omega) ?_)
 | refine W_lenM rfl rfl rfl ?_
 | refine WS_nil ?_)
 | refine WC_seq ?_
 | refine WC_opsS ?_
 | refine WC_condF rfl ?_
 | refine WC_exit ?_)
    exact hQ hn _
  | cons x post ih =>
    intro pre hpp hn ρ h0 h3 h6 Q hQ hQ2
    have hv := l_mid hpp
    have hlen : rs.length = pre.length + (post.length + 1) := by rw [hpp]; simp
    have hz : sz = 5 := hs.resolve_right (by rintro rfl; simp at hlen)
    subst hz
    have hpl : pre.length < (rs.map Rg.e).length := by simp; omega
    have hltl : (pre.length : Int) < rs.length := by omega
    have hfx : cov c x = true → rs.find? (cov c) = some x := fun h => by
      rw [hpp, List.find?_append, List.find?_eq_none.mpr (fun y hy => by rw [hn y hy]; simp), List.find?_cons_of_pos h]
      rfl
    have hnext : cov c x = false → ∀ (ρ' : Nat → D), ρ' 0 = .slice t 5 (rs.map Rg.e) → ρ' 3 = .ptr 0 0 → ρ' 6 = .int .i64 ((pre.length : Int) + 1) → WC Γ (.loop c_feluccaref07_Owlt_l0) ρ' st Q := fun hcx ρ' e1 e2 e3 =>
      ih (pre ++ [x]) (by simp [hpp]) (fun y hy => by
        rcases List.mem_append.mp hy with h | h
        · exact hn y h
        · rw [List.mem_singleton.mp h]; exact hcx) ρ' e1 e2 (by rw [List.length_append]; exact e3) Q hQ hQ2
    have hQ3 : cov c x = true → ∀ ρ', ρ' 4 = .int .i64 x.ow → ρ' 5 = .bool true → Q .ret ρ' st := fun h ρ' a b => hQ2 x (hfx h) ρ' a b
    clear ih hpp hn hQ hQ2 hfx
    unfold cov at hnext hQ3
    rw [← upd_self h0, ← upd_self h3, ← upd_self h6]
    refine WC_loop ?_
    repeat' (first
 | (refine I_WS ?_; first
 | refine W_iaddr (j := pre.length) rfl rfl rfl rfl rfl hpl ?_
 | (refine I_mov ?_; first
 | refine W_skip rfl ?_
 | refine W_mov (v := .int _ _) rfl rfl rfl ?_
 | refine W_mov (v := .bool _) rfl rfl rfl ?_
 | refine W_mov (v := .slice _ _ _) rfl rfl rfl ?_)
 | (refine I_bin ?_; first
 | refine W_skip rfl ?_
 | refine W_lssT rfl rfl rfl rfl (by omega) ?_
 | (refine W_leq rfl rfl rfl rfl ?_ ?_ <;> intro _)
 | (refine W_geq rfl rfl rfl rfl ?_ ?_ <;> intro _)
 | (refine W_eql rfl rfl rfl rfl ?_ ?_ <;> intro _)
 | refine W_add rfl rfl rfl rfl (by first | exact w64 (by omega) | rfl) ?_)
 | (refine I_load ?_; first
 | refine W_skip rfl ?_
 | refine W_loadE (agg := false) (d := .int _ _) rfl rfl rfl hv rfl ?_
 | refine W_load (agg := false) (d := .int _ _) rfl rfl rfl hb hlim rfl ?_)
 | (refine I_pick ?_; first
 | refine W_pick (v := .bool _) rfl rfl rfl rfl ?_)
 | refine W_lenM rfl rfl rfl ?_
 | refine W_faddr rfl rfl rfl ?_
 | refine W_faddrE rfl rfl rfl ?_
 | refine W_skip rfl ?_
 | refine WS_nil ?_)
 | refine WC_seq ?_
 | refine WC_opsS ?_
 | refine WC_drawS ?_
 | refine WC_skip ?_
 | refine WC_condT rfl ?_
 | refine WC_condF rfl ?_
 | refine WC_block ?_
 | refine WC_ret ?_
 | refine okF_intro rfl ?_)
    all_goals first
      | (refine hQ3 (decide_eq_true (by refine ⟨?_, ?_, ?_, ?_⟩ <;> omega)) _ ?_ ?_ <;> rfl)
      | (refine hnext (decide_eq_false (by rintro ⟨_, _, _, _⟩; omega)) _ ?_ ?_ ?_ <;> rfl)
theorem r_Owlt (rs : List Rg) (c : Ct) (hll : rs.length ≤ 1073741824) (t : Tok) (sz : Nat) (hs : sz = 5 ∨ rs = []) : EvP Γ 38 [.slice t sz (rs.map Rg.e), c.e] (.tuple [.int .i64 ((owl rs c).getD 0), .bool (owl rs c).isSome]) := by
  refine EvP_code rfl rfl ?_
  unfold owl
  repeat' (first
 | (refine I_WS ?_; first
 | (refine I_mov ?_; first
 | refine W_mov (v := .int _ _) rfl rfl rfl ?_
 | refine W_mov (v := .bool _) rfl rfl rfl ?_)
 | (refine I_box ?_; first
 | refine W_boxA rfl rfl rfl rfl rfl ?_)
 | refine WS_nil ?_)
 | refine WC_seq ?_
 | refine WC_opsS ?_
 | refine WC_block ?_)
  refine rl_Owlt rs c hll t sz hs _ ?_ ?_ rs [] rfl (by simp) _ ?_ ?_ ?_ _ (fun hn ρ => ?_) (fun x hx ρ h4 h5 => ?_)
  · exact Nat.le_refl _
  · rfl
  · rfl
  · rfl
  · rfl
  · rw [List.find?_eq_none.mpr (fun y hy => by rw [hn y hy]; simp)]
    repeat' (first
 | (refine I_WS ?_; first
 | (refine I_mov ?_; first
 | refine W_mov (v := .int _ _) rfl rfl rfl ?_
 | refine W_mov (v := .bool _) rfl rfl rfl ?_)
 | refine WS_nil ?_)
 | refine WC_seq ?_
 | refine WC_opsS ?_
 | refine WC_ret ?_)
    exact fin_ground (r' := .tuple [.int _ _, .bool _]) (.inr rfl) rfl rfl rfl
  · rw [hx, ← upd_self h4, ← upd_self h5]
    exact fin_ground (r' := .tuple [.int _ _, .bool _]) (.inr rfl) rfl rfl rfl
end Go.Vit

/-
  What the reference's functions come to: rounding up, an edge, an edge of an ID.
-/
namespace Go.Vit
open Go.Ev
set_option linter.unusedVariables false
set_option linter.unusedSimpArgs false
theorem r_Ceil (a b : Int) (ha : 0 ≤ a) (ha2 : a ≤ 4611686018427387904) (hb : 1 ≤ b) : EvP Γ 40 [.int .i64 a, .int .i64 b] (.tuple [.int .i64 (ceilI a b), .bool true]) := by
  refine EvP_code rfl rfl ?_
  unfold ceilI
  have h1 : 0 ≤ a.tdiv b ∧ a.tdiv b ≤ a := by
    rw [Int.tdiv_eq_ediv_of_nonneg ha]
    exact ⟨Int.ediv_nonneg ha (by omega), Int.ediv_le_self _ ha⟩
  have h2 : 0 ≤ a.tmod b := by
    rw [Int.tmod_eq_emod_of_nonneg ha]
    exact Int.emod_nonneg a (by omega)
  generalize hq : a.tdiv b = q at *
  generalize hr : a.tmod b = r at *
  have hb0 : b ≠ 0 := by omega
  have hq' : IntKind.wrap .i64 (a.tdiv b) = q := by rw [hq]; exact w64 (by omega)
  have hsum : IntKind.wrap .i64 (q + 1) = q + 1 := w64 (by omega)
  by_cases h0 : r = 0
  · have e : (q + if 1 < r then 1 else r) = q := by split <;> omega
    rw [e]
    repeat' (first
 | (refine I_WS ?_; first
 | refine W_quo (s := q) rfl rfl rfl rfl hb0 hq' ?_
 | refine W_rem (s := r) rfl rfl rfl rfl hb0 hr ?_
 | (refine I_mov ?_; first
 | refine W_mov (v := .int _ _) rfl rfl rfl ?_
 | refine W_mov (v := .bool _) rfl rfl rfl ?_)
 | (refine I_bin ?_; first
 | refine W_lssF rfl rfl rfl rfl (by omega) ?_
 | refine W_neqF rfl rfl rfl rfl (by omega) ?_)
 | (refine I_pick ?_; first
 | refine W_pick (v := .bool _) rfl rfl rfl rfl ?_)
 | refine WS_nil ?_)
 | refine WC_seq ?_
 | refine WC_opsS ?_
 | refine WC_skip ?_
 | refine WC_condF rfl ?_
 | refine WC_ret ?_)
    exact fin_ground (r' := .tuple [.int _ _, .bool _]) (.inr rfl) rfl rfl rfl
  · have e : (q + if 1 < r then 1 else r) = q + 1 := by split <;> omega
    rw [e]
    repeat' (first
 | (refine I_WS ?_; first
 | refine W_quo (s := q) rfl rfl rfl rfl hb0 hq' ?_
 | refine W_rem (s := r) rfl rfl rfl rfl hb0 hr ?_
 | refine W_add rfl rfl rfl rfl hsum ?_
 | (refine I_mov ?_; first
 | refine W_mov (v := .int _ _) rfl rfl rfl ?_
 | refine W_mov (v := .bool _) rfl rfl rfl ?_)
 | (refine I_bin ?_; first
 | refine W_lssF rfl rfl rfl rfl (by omega) ?_
 | refine W_neqT rfl rfl rfl rfl (by omega) ?_)
 | (refine I_pick ?_; first
 | refine W_pick (v := .bool _) rfl rfl rfl rfl ?_)
 | refine WS_nil ?_)
 | refine WC_seq ?_
 | refine WC_opsS ?_
 | refine WC_skip ?_
 | refine WC_condT rfl ?_
 | refine WC_condF rfl ?_
 | refine WC_ret ?_)
    exact fin_ground (r' := .tuple [.int _ _, .bool _]) (.inr rfl) rfl rfl rfl
set_option maxHeartbeats 2000000 in
theorem r_Edge (p : Pl) (hp : p.Sm) (lg : List Bk) (hlg : Led lg) (c : Ct) (k : Int) (t : Tok) (sz : Nat) (hsz : sz = 4 ∨ lg = []) : EvP Γ 13 [p.e, .slice t sz (lg.map Bk.e), c.e, .int .i64 k] (.tuple [((edg p.rs lg k c).getD zeroE).e, .bool (edg p.rs lg k c).isSome]) := by
  have hO := r_Owlt p.rs c hp.hr .no 5 (.inl rfl)
  have hK : EvP Γ 39 [c.e] (.bool (decide c.ok)) := r_Contact c.id c.fr c.to c.st c.en c.ra
  have hu : (getB lg c.id).U := by rw [← row_get hlg.hs]; exact hlg.hu _
  have hB := fun t => r_Backlog lg c.id k hlg.hl hu t sz hsz
  have hR := fun t => r_Room lg hlg.hs c.id c.fr c.to c.st c.en c.ra k hlg.hl hu t sz hsz
  have hbk := bkl_in (hlg.hu c.id) k
  rw [← row_get hlg.hs] at hB
  refine EvP_code rfl rfl ?_
  by_cases hok : c.ok
  · cases ho : owl p.rs c with
    | none =>
      rw [ho] at hO
      have e : edg p.rs lg k c = none := by unfold edg; rw [if_pos hok, ho]; rfl
      rw [e]
      repeat' (first
 | (refine I_WS ?_; first
 | (refine I_mov ?_; first
 | refine W_skip rfl ?_
 | refine W_mov (v := .int _ _) rfl rfl rfl ?_
 | refine W_mov (v := .bool _) rfl rfl rfl ?_
 | refine W_mov (v := .tuple _) rfl rfl rfl ?_)
 | (refine I_load ?_; first
 | refine W_load (agg := false) (d := .slice _ _ _) rfl rfl rfl rfl (by first | exact Nat.zero_le _ | omega) rfl ?_
 | refine W_load (agg := true) (d := .agg [_, _, _, _, _, _]) rfl rfl rfl rfl (by first | exact Nat.zero_le _ | omega) rfl ?_)
 | (refine I_call ?_; first
 | refine W_call rfl rfl rfl hO rfl rfl ?_
 | (refine W_callB rfl rfl rfl hK rfl ?_ ?_ <;> intro _))
 | (refine I_pick ?_; first
 | refine W_pick (v := .bool _) rfl rfl rfl rfl ?_)
 | (refine I_extract ?_; first
 | refine W_extract (d := .int _ _) rfl rfl rfl rfl ?_
 | refine W_extract (d := .bool _) rfl rfl rfl rfl ?_)
 | (refine I_build ?_; first
 | refine W_build (cs := [_, _, _, _, _, _, _, _]) rfl rfl rfl ?_)
 | (refine I_box ?_; first
 | refine W_boxA rfl rfl rfl rfl rfl ?_)
 | (refine I_store ?_; first
 | refine W_store (cs' := [_, _, _, _, _, _, _, _]) rfl rfl rfl rfl (by first | exact Nat.zero_le _ | omega) rfl rfl rfl ?_)
 | refine W_not rfl rfl rfl ?_
 | refine W_faddr rfl rfl rfl ?_
 | refine W_alloc rfl rfl ?_
 | refine W_skip rfl ?_
 | refine WS_nil ?_)
 | refine WC_seq ?_
 | refine WC_opsS ?_
 | refine WC_condT rfl ?_
 | refine WC_ret ?_)
      all_goals (refine edge_close (x := none) (.inr rfl) ?_ ?_ ?_ ?_ <;> first | rfl | exact Nat.zero_le _)
    | some o =>
      rw [ho] at hO
      have e : edg p.rs lg k c = some (mkE lg c k o) := by unfold edg; rw [if_pos hok, ho]; rfl
      rw [e]
      have hra : 1 ≤ c.ra := hok.2.2.2.1
      have hst : 0 ≤ c.st ∧ c.st ≤ 2147483647 := by have := hok.2.1; omega
      have hCe := r_Ceil (bkl (row lg c.id) k) c.ra hbk.1 hbk.2 hra
      have hci := ceilI_in hbk.1 hra
      unfold mkE
      generalize bkl (row lg c.id) k = bl at *
      generalize ceilI bl c.ra = ce at *
      generalize room lg c.id c.fr c.to c.st c.en c.ra k = rm at *
      rw [decide_eq_true hok] at hK
      have hop : clampI (c.st + ce) 0 1099511627776 = (if 1099511627776 < c.st + (if 1099511627776 < ce then 1099511627776 else ce) then 1099511627776 else c.st + (if 1099511627776 < ce then 1099511627776 else ce)) := by
        unfold clampI
        repeat' split
        all_goals omega
      rw [hop]
      generalize hm : (if 1099511627776 < ce then 1099511627776 else ce) = m at *
      have hmb : 0 ≤ m ∧ m ≤ 1099511627776 := by rw [← hm]; split <;> omega
      generalize hcl : (if 1099511627776 < c.st + m then 1099511627776 else c.st + m) = cl at *
      have hca : IntKind.wrap .i64 (c.st + m) = c.st + m := w64 (by omega)
      have hm1 : ∀ {κ : IntKind}, D.int κ (if 1099511627776 < ce then 1099511627776 else ce) = D.int κ m := fun {κ} => by rw [hm]
      clear hbk hlg
      subst hcl hm
      repeat' (first
 | (refine I_WS ?_; first
 | refine W_add rfl rfl rfl rfl hca ?_
 | refine W_build (cs := [_, _, _, _, _, _, _, _]) rfl rfl rfl ?_
 | (refine I_mov ?_; first
 | refine W_mov (v := .int _ _) rfl rfl rfl ?_
 | refine W_mov (v := .bool _) rfl rfl rfl ?_
 | refine W_mov (v := .slice _ _ _) rfl rfl rfl ?_
 | refine W_mov (v := .tuple _) rfl rfl rfl ?_)
 | (refine I_load ?_; first
 | refine W_load (agg := false) (d := .int _ _) rfl rfl rfl rfl (by first | exact Nat.zero_le _ | omega) rfl ?_
 | refine W_load (agg := false) (d := .slice _ _ _) rfl rfl rfl rfl (by first | exact Nat.zero_le _ | omega) rfl ?_
 | refine W_load (agg := true) (d := .agg [_, _, _, _, _, _]) rfl rfl rfl rfl (by first | exact Nat.zero_le _ | omega) rfl ?_)
 | (refine I_call ?_; first
 | refine W_call rfl rfl rfl hO rfl rfl ?_
 | refine W_call rfl rfl rfl hK rfl rfl ?_
 | refine W_call rfl rfl rfl (hB _) rfl rfl ?_
 | refine W_call rfl rfl rfl hCe rfl rfl ?_
 | refine W_call rfl rfl rfl (hR _) rfl rfl ?_)
 | (refine I_pick ?_; first
 | refine W_pick (v := .bool _) rfl rfl rfl rfl ?_)
 | (refine I_extract ?_; first
 | refine W_extract (d := .int _ _) rfl rfl rfl rfl ?_
 | refine W_extract (d := .bool _) rfl rfl rfl rfl ?_)
 | (refine I_box ?_; first
 | refine W_boxA rfl rfl rfl rfl rfl ?_)
 | (refine I_store ?_; first
 | refine W_store (cs' := [_, _, _, _, _, _, _, _]) rfl rfl rfl rfl (by first | exact Nat.zero_le _ | omega) rfl rfl rfl ?_)
 | refine W_not rfl rfl rfl ?_
 | refine W_min2 rfl rfl rfl rfl ?_
 | refine W_faddr rfl rfl rfl ?_
 | refine W_alloc rfl rfl ?_
 | refine WS_nil ?_)
 | refine WC_seq ?_
 | refine WC_opsS ?_
 | refine WC_drawS ?_
 | refine WC_skip ?_
 | refine WC_condF rfl ?_
 | refine WC_ret ?_
 | refine okF_intro rfl ?_)
      refine edge_close (x := some ⟨c.id, c.fr, c.to, _, c.en, c.ra, o, rm⟩) (.inr rfl) ?_ ?_ ?_ ?_ <;> first | rfl | exact Nat.zero_le _
  · have e : edg p.rs lg k c = none := by unfold edg; rw [if_neg hok]
    rw [e]
    rw [decide_eq_false hok] at hK
    cases ho : owl p.rs c with
    | none =>
      rw [ho] at hO
      repeat' (first
 | (refine I_WS ?_; first
 | (refine I_mov ?_; first
 | refine W_skip rfl ?_
 | refine W_mov (v := .int _ _) rfl rfl rfl ?_
 | refine W_mov (v := .bool _) rfl rfl rfl ?_
 | refine W_mov (v := .tuple _) rfl rfl rfl ?_)
 | (refine I_load ?_; first
 | refine W_load (agg := false) (d := .slice _ _ _) rfl rfl rfl rfl (by first | exact Nat.zero_le _ | omega) rfl ?_
 | refine W_load (agg := true) (d := .agg [_, _, _, _, _, _]) rfl rfl rfl rfl (by first | exact Nat.zero_le _ | omega) rfl ?_)
 | (refine I_call ?_; first
 | refine W_call rfl rfl rfl hO rfl rfl ?_
 | refine W_call rfl rfl rfl hK rfl rfl ?_)
 | (refine I_pick ?_; first
 | refine W_pick (v := .bool _) rfl rfl rfl rfl ?_)
 | (refine I_extract ?_; first
 | refine W_extract (d := .int _ _) rfl rfl rfl rfl ?_
 | refine W_extract (d := .bool _) rfl rfl rfl rfl ?_)
 | (refine I_build ?_; first
 | refine W_build (cs := [_, _, _, _, _, _, _, _]) rfl rfl rfl ?_)
 | (refine I_box ?_; first
 | refine W_boxA rfl rfl rfl rfl rfl ?_)
 | (refine I_store ?_; first
 | refine W_store (cs' := [_, _, _, _, _, _, _, _]) rfl rfl rfl rfl (by first | exact Nat.zero_le _ | omega) rfl rfl rfl ?_)
 | refine W_not rfl rfl rfl ?_
 | refine W_faddr rfl rfl rfl ?_
 | refine W_alloc rfl rfl ?_
 | refine W_skip rfl ?_
 | refine WS_nil ?_)
 | refine WC_seq ?_
 | refine WC_opsS ?_
 | refine WC_condT rfl ?_
 | refine WC_ret ?_)
      refine edge_close (x := none) (.inr rfl) ?_ ?_ ?_ ?_ <;> first | rfl | exact Nat.zero_le _
    | some o =>
      rw [ho] at hO
      repeat' (first
 | (refine I_WS ?_; first
 | (refine I_mov ?_; first
 | refine W_mov (v := .int _ _) rfl rfl rfl ?_
 | refine W_mov (v := .bool _) rfl rfl rfl ?_
 | refine W_mov (v := .tuple _) rfl rfl rfl ?_)
 | (refine I_load ?_; first
 | refine W_load (agg := false) (d := .slice _ _ _) rfl rfl rfl rfl (by first | exact Nat.zero_le _ | omega) rfl ?_
 | refine W_load (agg := true) (d := .agg [_, _, _, _, _, _]) rfl rfl rfl rfl (by first | exact Nat.zero_le _ | omega) rfl ?_)
 | (refine I_call ?_; first
 | refine W_call rfl rfl rfl hO rfl rfl ?_
 | refine W_call rfl rfl rfl hK rfl rfl ?_)
 | (refine I_pick ?_; first
 | refine W_pick (v := .bool _) rfl rfl rfl rfl ?_)
 | (refine I_extract ?_; first
 | refine W_extract (d := .int _ _) rfl rfl rfl rfl ?_
 | refine W_extract (d := .bool _) rfl rfl rfl rfl ?_)
 | (refine I_build ?_; first
 | refine W_build (cs := [_, _, _, _, _, _, _, _]) rfl rfl rfl ?_)
 | (refine I_box ?_; first
 | refine W_boxA rfl rfl rfl rfl rfl ?_)
 | (refine I_store ?_; first
 | refine W_store (cs' := [_, _, _, _, _, _, _, _]) rfl rfl rfl rfl (by first | exact Nat.zero_le _ | omega) rfl rfl rfl ?_)
 | refine W_not rfl rfl rfl ?_
 | refine W_faddr rfl rfl rfl ?_
 | refine W_alloc rfl rfl ?_
 | refine WS_nil ?_)
 | refine WC_seq ?_
 | refine WC_opsS ?_
 | refine WC_condT rfl ?_
 | refine WC_ret ?_)
      refine edge_close (x := none) (.inr rfl) ?_ ?_ ?_ ?_ <;> first | rfl | exact Nat.zero_le _
end Go.Vit

/-
  The reference's edges, all.
-/
namespace Go.Vit
open Go.Ev
set_option linter.unusedVariables false
set_option linter.unusedSimpArgs false
theorem r_Edge' (p : Pl) (hp : p.Sm) (lg : List Bk) (hlg : Led lg) (c : Ct) (k : Int) (t : Tok) (sz : Nat) (hsz : sz = 4 ∨ lg = []) (r : Eg) (b : Bool) (hr : (edg p.rs lg k c).getD zeroE = r) (hb : (edg p.rs lg k c).isSome = b) : EvP Γ 13 [p.e, .slice t sz (lg.map Bk.e), c.e, .int .i64 k] (.tuple [r.e, .bool b]) := by
  rw [← hr, ← hb]
  exact r_Edge p hp lg hlg c k t sz hsz
/-- What is there of the edges, in order. -/
def OutS (st : Store) (d : D) (es : List Eg) : Prop := ∃ s, (s.Pairwise fun a b => a.id ≤ b.id) ∧ s.Perm es ∧ OutOK st d s
theorem OutS.of {st st' : Store} {d : D} {es : List Eg} (h : OutS st d es) (hl : st'.lim ≤ 0) (hn : st.next ≤ st'.next) (hb : ∀ q, q < st.next → st'.boxes q = st.boxes q) : OutS st' d es := by
  obtain ⟨s, h1, h2, h3⟩ := h
  exact ⟨s, h1, h2, h3.of hl hn hb⟩
theorem at_end (s : List Eg) (e : Eg) : at' s e s.length = s ++ [e] := by
  unfold at'
  rw [List.take_length, List.drop_length]
theorem outS_ins {st : Store} {q c k : Nat} {s es : List Eg} {e : Eg} (h0 : 0 < q) (hs : s.Pairwise fun a b => a.id ≤ b.id) (hp : s.Perm es) (hR : RowIs st q 8 ((at' s e k).map Eg.e)) (h1 : ∀ y ∈ s.drop k, e.id ≤ y.id) (h2 : ∀ y, s[k - 1]? = some y → 0 < k → y.id ≤ e.id) (hk : k ≤ s.length) : OutS st (.rs q 0 8 (s.length + 1) c) (es ++ [e]) := by
  refine ⟨at' s e k, at_sorted hs h1 (fun y hy => ?_), ?_, .inr ⟨q, s.length + 1, c, h0, (at_len s e k).symm, ?_, rfl, hR⟩⟩
  · obtain ⟨i, hi, rfl⟩ := List.getElem_of_mem hy
    rw [List.length_take] at hi
    have hk0 : 0 < k := by omega
    obtain ⟨z, hz⟩ : ∃ z, s[k - 1]? = some z := ⟨s[k - 1]'(by omega), List.getElem?_eq_getElem _⟩
    have hz2 := h2 z hz hk0
    rw [List.getElem_take]
    obtain ⟨hzl, rfl⟩ := List.getElem?_eq_some_iff.mp hz
    rcases Nat.lt_or_eq_of_le (show i ≤ k - 1 by omega) with h | h
    · exact Int.le_trans (List.pairwise_iff_getElem.mp hs i (k - 1) (by omega) hzl h) hz2
    · subst h
      exact hz2
  · exact (at_perm s e k).trans ((hp.cons e).trans (List.perm_append_singleton e es).symm)
  · intro h
    have := at_len s e k
    rw [h] at this
    simp at this
set_option maxHeartbeats 8000000 in
theorem rl_All (p : Pl) (hp : p.Sm) (lg : List Bk) (hlg : Led lg) (k : Int) (t : Tok) (sz : Nat) (hsz : sz = 4 ∨ lg = []) : ∀ (post pre : List Ct), p.cs = pre ++ post → ∀ (ρ : Nat → D) (st : Store) (d7 : D), st.lim ≤ 0 → 0 < st.next → st.boxes 0 = some (.cells p.e.cells) → OutS st d7 (pre.filterMap (edg p.rs lg k)) →
    ρ 1 = .slice t sz (lg.map Bk.e) → ρ 2 = .int .i64 k → ρ 3 = .ptr 0 0 → ρ 7 = d7 → ρ 8 = .int .i64 pre.length → ∀ (Q : X → (Nat → D) → Store → Prop),
    (∀ ρ' st' d7, OutS st' d7 (p.cs.filterMap (edg p.rs lg k)) → ρ' 7 = d7 → Q (.exit 0) ρ' st') → WC Γ (.loop c_feluccaref11_All_l1) ρ st Q := by
  intro post
  induction post with
  | nil =>
    intro pre hpp ρ st d7 hlim hnx hb0 hO h1 h2 h3 h7 h8 Q hQ
    rw [List.append_nil] at hpp
    rw [← hpp] at hO
    have hlen : p.cs.length = pre.length := by rw [hpp]
    have hbb0 : (st.boxes 0).bind Box.cs = some p.e.cells := by rw [hb0]; rfl
    rw [← upd_self h1, ← upd_self h2, ← upd_self h3, ← upd_self h7, ← upd_self h8]
    refine WC_loop ?_
    repeat' (first
 | (refine I_WS ?_; first
 | (refine I_mov ?_; first
 | refine W_mov (v := .int _ _) rfl rfl rfl ?_)
 | (refine I_bin ?_; first
 | refine W_lssF rfl rfl rfl rfl (by omega) ?_)
 | (refine I_load ?_; first
 | refine W_load (agg := false) (d := .slice _ _ _) rfl rfl rfl hbb0 hlim rfl ?_)
 | refine W_lenM rfl rfl rfl ?_
 | refine W_faddr rfl rfl rfl ?_
 | refine WS_nil ?_)
 | refine WC_seq ?_
 | refine WC_opsS ?_
 | refine WC_condF rfl ?_
 | refine WC_exit ?_)
    exact hQ _ _ d7 hO rfl
  | cons x post ih =>
    intro pre hpp ρ st d7 hlim hnx hb0 hO h1 h2 h3 h7 h8 Q hQ
    have hv := l_mid hpp
    have hlen : p.cs.length = pre.length + (post.length + 1) := by rw [hpp]; simp
    have hpl : pre.length < (p.cs.map Ct.e).length := by simp; omega
    have hltl : (pre.length : Int) < p.cs.length := by omega
    have hcl := hp.hc
    have hbb0 : (st.boxes 0).bind Box.cs = some p.e.cells := by rw [hb0]; rfl
    have hE := fun r b h1 h2 t => r_Edge' p hp lg hlg x k t sz hsz r b h1 h2
    have hel := List.length_filterMap_le (edg p.rs lg k) pre
    have hsn : (pre ++ [x]).filterMap (edg p.rs lg k) = pre.filterMap (edg p.rs lg k) ++ (edg p.rs lg k x).toList := by
      rw [List.filterMap_append]
      cases h : edg p.rs lg k x <;> simp [h]
    have hnext : ∀ (ρ' : Nat → D) (st' : Store) (d : D), st'.lim ≤ 0 → 0 < st'.next → st'.boxes 0 = some (.cells p.e.cells) → OutS st' d ((pre ++ [x]).filterMap (edg p.rs lg k)) → ρ' 1 = .slice t sz (lg.map Bk.e) → ρ' 2 = .int .i64 k → ρ' 3 = .ptr 0 0 → ρ' 7 = d → ρ' 8 = .int .i64 ((pre.length : Int) + 1) → WC Γ (.loop c_feluccaref11_All_l1) ρ' st' Q := by
      intro ρ' st' d e1 e2 e3 e4 e5 e6 e7 e8 e9
      exact ih (pre ++ [x]) (by simp [hpp]) ρ' st' d e1 e2 e3 e4 e5 e6 e7 e8 (by rw [List.length_append]; exact e9) Q hQ
    clear ih hlg hsz hpp hQ
    generalize hes : pre.filterMap (edg p.rs lg k) = es at *
    obtain ⟨s, hso, hsp, hO⟩ := hO
    have hsl := hsp.length_eq
    rw [← upd_self h1, ← upd_self h2, ← upd_self h3, ← upd_self h7, ← upd_self h8]
    refine WC_loop ?_
    cases he : edg p.rs lg k x with
    | none =>
      rw [he] at hsn hE
      have hE2 := hE zeroE false rfl rfl
      clear hE
      rw [Option.toList_none, List.append_nil] at hsn
      repeat' (first
 | (refine I_WS ?_; first
 | (refine I_mov ?_; first
 | refine W_mov (v := .int _ _) rfl rfl rfl ?_)
 | (refine I_bin ?_; first
 | refine W_lssT rfl rfl rfl rfl (by omega) ?_)
 | (refine I_load ?_; first
 | refine W_load (agg := false) (d := .slice _ _ _) rfl rfl rfl hbb0 hlim rfl ?_)
 | refine W_lenM rfl rfl rfl ?_
 | refine W_faddr rfl rfl rfl ?_
 | refine WS_nil ?_)
 | refine WC_seq ?_
 | refine WC_opsS ?_
 | refine WC_skip ?_
 | refine WC_condT rfl ?_
 | refine WC_block ?_)
      refine WC_drawAS ?_
      simp only [hoist, hoist1, Store.ahead, withB, withB1, Nat.add_assoc, Nat.reduceAdd, List.length_cons, List.length_nil]
      generalize hN : st.next = N at *
      have hl12 : st.lim ≤ N + 12 := by omega
      repeat' (first
 | (refine I_WS ?_; first
 | refine W_iaddr (j := pre.length) rfl rfl rfl rfl rfl hpl ?_
 | refine W_store (cs' := [_, _, _, _, _, _, _, _]) rfl rfl (upd_same _ _ _) rfl hl12 rfl rfl rfl ?_
 | (refine I_mov ?_; first
 | refine W_mov (v := .int _ _) rfl rfl rfl ?_
 | refine W_mov (v := .bool _) rfl rfl rfl ?_
 | refine W_mov (v := .slice _ _ _) rfl rfl rfl ?_
 | refine W_mov (v := .ptr _ _) rfl rfl rfl ?_
 | refine W_mov (v := .tuple _) rfl rfl rfl ?_)
 | (refine I_load ?_; first
 | refine W_load (agg := true) (d := .agg [_, _, _, _]) rfl rfl rfl hbb0 hlim rfl ?_
 | refine W_load (agg := false) (d := .slice _ _ _) rfl rfl rfl hbb0 hlim rfl ?_
 | refine W_loadE (agg := true) (d := .agg [_, _, _, _, _, _]) rfl rfl rfl hv rfl ?_)
 | (refine I_call ?_; first
 | refine W_call rfl rfl rfl (hE2 _) rfl rfl ?_)
 | (refine I_extract ?_; first
 | refine W_extract (d := .bool _) rfl rfl rfl rfl ?_
 | refine W_extract (d := .agg _) rfl rfl rfl rfl ?_)
 | refine W_faddr rfl rfl rfl ?_
 | refine WS_nil ?_))
      refine ⟨?_, ?_⟩
      · rw [Bool.and_eq_true]
        have e3 : (0 == N + 12) = false := by simp
        have e4 : (N + 12 == 0) = false := by simp
        constructor
        · simp [okFlags, List.range, List.range.loop, Fl.clash, e3, e4]
        · simp [okTouch, List.range, List.range.loop, hnx]
      repeat' (first
 | (refine I_WS ?_; first
 | (refine I_mov ?_; first
 | refine W_mov (v := .int _ _) rfl rfl rfl ?_
 | refine W_mov (v := .bool _) rfl rfl rfl ?_)
 | (refine I_bin ?_; first
 | refine W_add rfl rfl rfl rfl (by first | exact w64 (by omega) | rfl) ?_)
 | refine W_not rfl rfl rfl ?_
 | refine WS_nil ?_)
 | refine WC_seq ?_
 | refine WC_opsS ?_
 | refine WC_condT rfl ?_
 | refine WC_exit ?_)
      refine hnext _ _ d7 ?_ ?_ ?_ ?_ ?_ ?_ ?_ ?_ ?_
      · exact hlim
      · exact Nat.succ_pos _
      · exact hb0
      · rw [hsn]
        exact ⟨s, hso, hsp, hO.of hlim (by show st.next ≤ N + 15; omega) (fun q hq => by dsimp only; rw [upd_ne _ _ (show q ≠ N + 12 by omega), upd_ne _ _ (show q ≠ N + 12 by omega)])⟩
      all_goals rfl
    | some r =>
      rw [he] at hsn hE
      have hE2 := hE r true rfl rfl
      clear hE
      have hsn2 : (pre ++ [x]).filterMap (edg p.rs lg k) = es ++ [r] := hsn
      clear hsn
      repeat' (first
 | (refine I_WS ?_; first
 | (refine I_mov ?_; first
 | refine W_mov (v := .int _ _) rfl rfl rfl ?_)
 | (refine I_bin ?_; first
 | refine W_lssT rfl rfl rfl rfl (by omega) ?_)
 | (refine I_load ?_; first
 | refine W_load (agg := false) (d := .slice _ _ _) rfl rfl rfl hbb0 hlim rfl ?_)
 | refine W_lenM rfl rfl rfl ?_
 | refine W_faddr rfl rfl rfl ?_
 | refine WS_nil ?_)
 | refine WC_seq ?_
 | refine WC_opsS ?_
 | refine WC_skip ?_
 | refine WC_condT rfl ?_
 | refine WC_block ?_)
      refine WC_drawAS ?_
      simp only [hoist, hoist1, Store.ahead, withB, withB1, Nat.add_assoc, Nat.reduceAdd, List.length_cons, List.length_nil]
      generalize hN : st.next = N at *
      have hl12 : st.lim ≤ N + 12 := by omega
      repeat' (first
 | (refine I_WS ?_; first
 | refine W_iaddr (j := pre.length) rfl rfl rfl rfl rfl hpl ?_
 | refine W_store (cs' := [_, _, _, _, _, _, _, _]) rfl rfl (upd_same _ _ _) rfl hl12 rfl rfl rfl ?_
 | (refine I_mov ?_; first
 | refine W_mov (v := .int _ _) rfl rfl rfl ?_
 | refine W_mov (v := .bool _) rfl rfl rfl ?_
 | refine W_mov (v := .slice _ _ _) rfl rfl rfl ?_
 | refine W_mov (v := .ptr _ _) rfl rfl rfl ?_
 | refine W_mov (v := .tuple _) rfl rfl rfl ?_)
 | (refine I_load ?_; first
 | refine W_load (agg := true) (d := .agg [_, _, _, _]) rfl rfl rfl hbb0 hlim rfl ?_
 | refine W_load (agg := false) (d := .slice _ _ _) rfl rfl rfl hbb0 hlim rfl ?_
 | refine W_loadE (agg := true) (d := .agg [_, _, _, _, _, _]) rfl rfl rfl hv rfl ?_)
 | (refine I_call ?_; first
 | refine W_call rfl rfl rfl (hE2 _) rfl rfl ?_)
 | (refine I_extract ?_; first
 | refine W_extract (d := .bool _) rfl rfl rfl rfl ?_
 | refine W_extract (d := .agg _) rfl rfl rfl rfl ?_)
 | refine W_faddr rfl rfl rfl ?_
 | refine WS_nil ?_))
      refine ⟨?_, ?_⟩
      · rw [Bool.and_eq_true]
        have e3 : (0 == N + 12) = false := by simp
        have e4 : (N + 12 == 0) = false := by simp
        constructor
        · simp [okFlags, List.range, List.range.loop, Fl.clash, e3, e4]
        · simp [okTouch, List.range, List.range.loop, hnx]
      have hl15 : st.lim ≤ N + 15 := by omega
      rcases hO with ⟨rfl, rfl⟩ | ⟨q, _, c, hq0, rfl, hne, rfl, hR⟩
      · have hnil : ∀ d ∈ ([] : List D), Elem 8 d := by simp
        have hb64 : (([] : List D).length + [r.e].length) * 64 ≤ 140737488355328 := by simp
        repeat' (first
 | (refine I_WS ?_; first
 | (refine W_appNew (t0 := .isnil) (xs := []) (ys := [r.e]) rfl rfl (.inr rfl) (.inr rfl) rfl rfl (.inl rfl) (Nat.succ_pos _) hnil (elem8 r) hb64 hl15 ?_ <;> intro st1 e1 e2 e3 e4 e5 e6 e7)
 | (refine I_mov ?_; first
 | refine W_mov (v := .int _ _) rfl rfl rfl ?_
 | refine W_mov (v := .bool _) rfl rfl rfl ?_
 | refine W_mov (v := .slice _ _ _) rfl rfl rfl ?_
 | refine W_mov (v := .rs _ _ _ _ _) rfl rfl rfl ?_)
 | (refine I_load ?_; first
 | refine W_load (agg := true) (d := .agg [_, _, _, _, _, _, _, _]) rfl rfl rfl (bxc rfl) hl12 rfl ?_)
 | refine W_not rfl rfl rfl ?_
 | refine W_lenS0 rfl rfl rfl ?_
 | refine W_bslice (ys := [_]) rfl rfl rfl (by decide) rfl ?_
 | refine WS_nil ?_)
 | refine WC_seq ?_
 | refine WC_opsS ?_
 | refine WC_skip ?_
 | refine WC_condF rfl ?_
 | refine WC_block ?_)
        refine l_ins [] r (by simp) (N + 15) (0 + 1) (.slice t sz (lg.map Bk.e)) (.int .i64 k) (.ptr 0 0) (.int .i64 pre.length) 0 (Nat.le_refl _) (by simp) _ st1 ?_ ?_ ?_ ?_ ?_ ?_ ?_ ?_ _ (fun k' ρ' st' a0 a1 a2 a3 a4 a5 a6 a7 a8 a9 a10 a11 => ?_)
        · rw [e1]; exact hlim
        · exact e5
        · rfl
        · rfl
        · rfl
        · rfl
        · rfl
        · rfl
        rw [← upd_self a7, ← upd_self a8, ← upd_self a9, ← upd_self a10, ← upd_self a11]
        repeat' (first
 | (refine I_WS ?_; first
 | (refine I_mov ?_; first
 | refine W_mov (v := .int _ _) rfl rfl rfl ?_)
 | (refine I_bin ?_; first
 | refine W_add rfl rfl rfl rfl (by first | exact w64 (by omega) | rfl) ?_)
 | refine WS_nil ?_)
 | refine WC_opsS ?_)
        refine hnext _ _ (.rs (N + 15) 0 8 (0 + 1) (0 + 1)) ?_ ?_ ?_ ?_ ?_ ?_ ?_ ?_ ?_
        · exact a1
        · exact Nat.lt_of_lt_of_le (by rw [e7]; exact Nat.succ_pos _) a2
        · rw [a3 0 (by omega) (by rw [e7]; exact Nat.succ_pos _), e6 0 (by exact Nat.succ_pos _)]
          exact hb0
        · rw [hsn2]
          exact outS_ins (s := []) (Nat.succ_pos _) hso hsp a4 a5 a6 a0
        all_goals rfl
      · have hby : (s.length + ([r.e] : List D).length) * 64 ≤ 140737488355328 := by simp; omega
        have hqn := hR.2.1
        have hlq : st.lim ≤ q := by omega
        have hq12 : q ≠ N + 12 := by omega
        have hnm : s.length = (s.map Eg.e).length := by simp
        repeat' (first
 | (refine I_WS ?_; first
 | (refine W_appRow (ys := [r.e]) rfl rfl rfl (hR.of (by exact hlq) (by show q < N + 15; omega) (by dsimp only; rw [upd_ne _ _ hq12, upd_ne _ _ hq12])) hnm (.inl rfl) el8 (elem8 r) hby ?_ <;> intro p' c' st1 e1 e2 e3 e4 e5 e6 e7 e8)
 | (refine I_mov ?_; first
 | refine W_mov (v := .int _ _) rfl rfl rfl ?_
 | refine W_mov (v := .bool _) rfl rfl rfl ?_
 | refine W_mov (v := .rs _ _ _ _ _) rfl rfl rfl ?_)
 | (refine I_load ?_; first
 | refine W_load (agg := true) (d := .agg [_, _, _, _, _, _, _, _]) rfl rfl rfl (bxc rfl) hl12 rfl ?_)
 | refine W_not rfl rfl rfl ?_
 | refine W_lenR rfl rfl rfl ?_
 | refine W_bslice (ys := [_]) rfl rfl rfl (by decide) rfl ?_
 | refine WS_nil ?_)
 | refine WC_seq ?_
 | refine WC_opsS ?_
 | refine WC_skip ?_
 | refine WC_condF rfl ?_
 | refine WC_block ?_)
        have hp0 : 0 < p' := by
          rcases e8 with rfl | h
          · exact hq0
          · exact Nat.lt_of_lt_of_le (Nat.succ_pos _) h
        refine l_ins s r (by omega) p' c' (.slice t sz (lg.map Bk.e)) (.int .i64 k) (.ptr 0 0) (.int .i64 pre.length) s.length (Nat.le_refl _) (by simp) _ st1 ?_ ?_ ?_ ?_ ?_ ?_ ?_ ?_ _ (fun k' ρ' st' a0 a1 a2 a3 a4 a5 a6 a7 a8 a9 a10 a11 => ?_)
        · rw [e1]; exact hlim
        · rw [at_end, List.map_append]; exact e5
        · rfl
        · rfl
        · rfl
        · rfl
        · rfl
        · rfl
        rw [← upd_self a7, ← upd_self a8, ← upd_self a9, ← upd_self a10, ← upd_self a11]
        repeat' (first
 | (refine I_WS ?_; first
 | (refine I_mov ?_; first
 | refine W_mov (v := .int _ _) rfl rfl rfl ?_)
 | (refine I_bin ?_; first
 | refine W_add rfl rfl rfl rfl (by first | exact w64 (by omega) | rfl) ?_)
 | refine WS_nil ?_)
 | refine WC_opsS ?_)
        refine hnext _ _ (.rs p' 0 8 (s.length + 1) c') ?_ ?_ ?_ ?_ ?_ ?_ ?_ ?_ ?_
        · exact a1
        · exact Nat.lt_of_lt_of_le (Nat.lt_of_lt_of_le (Nat.succ_pos _) e7) a2
        · rw [a3 0 (by omega) (Nat.lt_of_lt_of_le (Nat.succ_pos _) e7), e6 0 (by omega) (by exact Nat.succ_pos _)]
          exact hb0
        · rw [hsn2]
          exact outS_ins hp0 hso hsp a4 a5 a6 a0
        all_goals rfl
end Go.Vit

/-
  The reference's edges, all: the same as the view's.
-/
namespace Go.Vit
open Go.Ev
set_option linter.unusedVariables false
set_option linter.unusedSimpArgs false
theorem nodup_lt : ∀ {l : List Eg}, (l.Pairwise fun a b => a.id ≤ b.id) → (l.map Eg.id).Nodup → l.Pairwise fun a b => a.id < b.id
  | [], _, _ => List.Pairwise.nil
  | a :: l, h, hn => by
    rw [List.map_cons, List.nodup_cons] at hn
    have h' := List.pairwise_cons.mp h
    refine List.pairwise_cons.mpr ⟨fun b hb => ?_, nodup_lt h'.2 hn.2⟩
    have h1 := h'.1 b hb
    have h2 : a.id ≠ b.id := fun e => hn.1 (by rw [e]; exact List.mem_map.mpr ⟨b, hb, rfl⟩)
    omega
theorem allE_lt {p : Pl} (lg : List Bk) (k : Int) (hd : (p.cs.map Ct.id).Nodup) : (allE p lg k).Pairwise fun a b => a.id < b.id :=
  nodup_lt (srtK_sorted Eg.id _) (((srtK_perm Eg.id _).map Eg.id).nodup_iff.mpr (edg_nodup p.rs lg k p.cs hd))
theorem outS_all {p : Pl} (hd : (p.cs.map Ct.id).Nodup) {lg : List Bk} {k : Int} {st : Store} {d : D} (h : OutS st d (p.cs.filterMap (edg p.rs lg k))) : OutOK st d (allE p lg k) := by
  obtain ⟨s, h1, h2, h3⟩ := h
  have : s = allE p lg k := pw_eq (h2.trans (srtK_perm Eg.id _).symm) h1 (allE_lt lg k hd)
  rw [← this]
  exact h3
theorem r_All (p : Pl) (hp : p.Sm) (hd : (p.cs.map Ct.id).Nodup) (lg : List Bk) (hlg : Led lg) (k : Int) (t : Tok) (sz : Nat) (hsz : sz = 4 ∨ lg = []) : EvX Γ 18 [p.e, .slice t sz (lg.map Bk.e), .int .i64 k] (IsN Eg.e 8 (allE p lg k)) := by
  refine EvX_code rfl rfl ?_
  repeat' (first
 | (refine I_WS ?_; first
 | (refine I_mov ?_; first
 | refine W_mov (v := .int _ _) rfl rfl rfl ?_
 | refine W_mov (v := .slice _ _ _) rfl rfl rfl ?_)
 | (refine I_box ?_; first
 | refine W_boxA rfl rfl rfl rfl rfl ?_)
 | refine WS_nil ?_)
 | refine WC_seq ?_
 | refine WC_opsS ?_
 | refine WC_block ?_)
  refine rl_All p hp lg hlg k t sz hsz p.cs [] rfl _ _ (.slice .isnil 0 []) ?_ ?_ ?_ ?_ ?_ ?_ ?_ ?_ ?_ _ (fun ρ' st' d hO h7 => ?_)
  · exact Nat.le_refl _
  · exact Nat.succ_pos _
  · rfl
  · exact ⟨[], List.Pairwise.nil, List.Perm.refl _, .inl ⟨rfl, rfl⟩⟩
  · rfl
  · rfl
  · rfl
  · rfl
  · rfl
  have hO := outS_all hd hO
  rcases hO with ⟨he, rfl⟩ | ⟨q, m, c, h0, hn, hne, rfl, hR⟩
  · rw [← upd_self h7]
    repeat' (first
 | (refine I_WS ?_; first
 | (refine I_mov ?_; first
 | refine W_mov (v := .slice _ _ _) rfl rfl rfl ?_)
 | refine WS_nil ?_)
 | refine WC_seq ?_
 | refine WC_opsS ?_
 | refine WC_ret ?_)
    exact fin_out (d := .slice .isnil 0 []) (.inr rfl) rfl (.inl ⟨he, rfl⟩)
  · rw [← upd_self h7]
    repeat' (first
 | (refine I_WS ?_; first
 | (refine I_mov ?_; first
 | refine W_mov (v := .rs _ _ _ _ _) rfl rfl rfl ?_)
 | refine WS_nil ?_)
 | refine WC_seq ?_
 | refine WC_opsS ?_
 | refine WC_ret ?_)
    exact fin_out (d := .rs q 0 8 m c) (.inr rfl) rfl (.inr ⟨q, m, c, h0, hn, hne, rfl, hR⟩)
theorem r_Bare (p : Pl) (hp : p.Sm) (hd : (p.cs.map Ct.id).Nodup) : EvX Γ 20 [p.e] (IsN Eg.e 8 (allE p [] 0)) := by
  have hA := r_All p hp hd [] led_nil 0 .isnil 0 (.inr rfl)
  refine EvX_code rfl rfl ?_
  repeat' (first
 | (refine I_WS ?_; first
 | (refine I_mov ?_; first
 | refine W_mov (v := .slice _ _ _) rfl rfl rfl ?_)
 | (refine I_load ?_; first
 | refine W_load (agg := true) (d := .agg [_, _, _, _]) rfl rfl rfl rfl (by first | exact Nat.zero_le _ | omega) rfl ?_)
 | (refine I_call ?_; first
 | (refine W_callN rfl rfl rfl hA rfl ?_ <;> intro _ _ s1 d1))
 | (refine I_box ?_; first
 | refine W_boxA rfl rfl rfl rfl rfl ?_)
 | refine WS_nil ?_)
 | refine WC_seq ?_
 | refine WC_opsS ?_
 | refine WC_ret ?_)
  exact finX_D (.inr rfl) rfl d1 s1 rfl
end Go.Vit

/-
  A right ledger.
-/
namespace Go.Vit
open Go.Ev
set_option linter.unusedVariables false
set_option linter.unusedSimpArgs false
instance (b : Bk) : Decidable b.U := by unfold Bk.U; infer_instance
/-- What is right. -/
def rt : Int → List Bk → Bool
  | _, [] => true
  | p, b :: l => decide (p < b.id ∧ b.id ≤ 1048576 ∧ ¬ (b.u0 = 0 ∧ b.u1 = 0 ∧ b.u2 = 0) ∧ b.U) && rt b.id l
set_option maxHeartbeats 4000000 in
theorem l_right (l : List Bk) (hl : l.length ≤ 1073741824) (t : Tok) (sz : Nat) (hsz : sz = 4 ∨ l = []) : ∀ (post pre : List Bk) (p : Int), l = pre ++ post → ((pre = [] ∧ p = 0) ∨ (∃ pre' a, pre = pre' ++ [a] ∧ a.id = p ∧ 1 ≤ p)) →
    ∀ (ρ : Nat → D) (st : Store) (hlim : st.lim ≤ st.next) (h0 : ρ 0 = .slice t sz (l.map Bk.e)) (h7 : ρ 7 = .slice t sz (l.map Bk.e)) (h8 : ρ 8 = .int .i64 l.length) (h9 : ρ 9 = .int .i64 pre.length) (Q : X → (Nat → D) → Store → Prop),
    (rt p post = true → ∀ ρ' st', Q (.exit 0) ρ' st') → (rt p post = false → ∀ ρ' st', ρ' 2 = .bool false → Q .ret ρ' st') → WC Γ (.loop c_ledger_Right_l1) ρ st Q := by
  intro post
  induction post with
  | nil =>
    intro pre p hp hpp ρ st hlim h0 h7 h8 h9 Q hQ hQ2
    rw [List.append_nil] at hp
    subst hp
    rw [← upd_self h0, ← upd_self h7, ← upd_self h8, ← upd_self h9]
    refine WC_loop ?_
    repeat' (first
 | (refine I_WS ?_; first
 | (refine I_bin ?_; first
 | refine W_lssF rfl rfl rfl rfl (by omega) ?_)
 | refine WS_nil ?_)
 | refine WC_seq ?_
 | refine WC_opsS ?_
 | refine WC_condF rfl ?_
 | refine WC_exit ?_)
    exact hQ rfl _ _
  | cons b post ih =>
    intro pre p hp hpp ρ st hlim h0 h7 h8 h9 Q hQ hQ2
    have hv := l_mid hp
    have hlen : l.length = pre.length + (post.length + 1) := by rw [hp]; simp
    rw [← upd_self h0, ← upd_self h7, ← upd_self h8, ← upd_self h9]
    have hstep : ∀ (ρ' : Nat → D) (st' : Store), st'.lim ≤ st'.next → ρ' 0 = .slice t sz (l.map Bk.e) → ρ' 7 = .slice t sz (l.map Bk.e) → ρ' 8 = .int .i64 l.length → ρ' 9 = .int .i64 (pre.length + 1 : Nat) → p < b.id ∧ b.id ≤ 1048576 ∧ ¬ (b.u0 = 0 ∧ b.u1 = 0 ∧ b.u2 = 0) ∧ b.U → 1 ≤ b.id → WC Γ (.loop c_ledger_Right_l1) ρ' st' Q := fun ρ' st' hlim' h0 h7 h8 h9 hok h1 =>
      ih (pre ++ [b]) b.id (by simp [hp]) (.inr ⟨pre, b, rfl, rfl, h1⟩) ρ' st' hlim' h0 h7 h8 (by rw [h9]; simp) Q (fun h => hQ (by simp only [rt, hok, h, Bool.and_true]; simp)) (fun h => hQ2 (by simp only [rt, h, Bool.and_false]))
    have hbad : ¬ (p < b.id ∧ b.id ≤ 1048576 ∧ ¬ (b.u0 = 0 ∧ b.u1 = 0 ∧ b.u2 = 0) ∧ b.U) → ∀ (ρ' : Nat → D) (st' : Store), ρ' 2 = .bool false → Q .ret ρ' st' := fun h ρ' st' h2 => hQ2 (by simp only [rt, decide_eq_false h, Bool.false_and]) ρ' st' h2
    clear hQ hQ2 ih
    unfold Bk.U at hstep hbad
    rcases hpp with ⟨rfl, rfl⟩ | ⟨pre', a, rfl, ha, hp1⟩
    · have hz0 : ([] : List Bk).length = 0 := rfl
      refine WC_loop ?_
      repeat' (first
 | (refine I_WS ?_; first
 | (refine I_mov ?_; first
 | refine W_skip rfl ?_
 | refine W_mov (v := .int _ _) rfl rfl rfl ?_
 | refine W_mov (v := .bool _) rfl rfl rfl ?_)
 | (refine I_bin ?_; first
 | refine W_skip rfl ?_
 | refine W_lssT rfl rfl rfl rfl (by omega) ?_
 | refine W_lssF rfl rfl rfl rfl (by omega) ?_
 | (refine W_lss rfl rfl rfl rfl ?_ ?_ <;> intro _)
 | refine W_gtrF rfl rfl rfl rfl (by omega) ?_
 | (refine W_gtr rfl rfl rfl rfl ?_ ?_ <;> intro _)
 | refine W_add rfl rfl rfl rfl (by first | exact w64 (by omega) | rfl) ?_)
 | (refine I_load ?_; first
 | refine W_skip rfl ?_
 | refine W_loadE (agg := true) (d := .agg [_, _, _, _]) rfl rfl rfl hv rfl ?_
 | refine W_load (agg := false) (d := .int _ _) rfl rfl rfl (bxc rfl) (by first | exact Nat.zero_le _ | assumption | exact Nat.le_trans hlim (Nat.zero_le _) | omega) rfl ?_
 | refine W_load (agg := true) (d := .agg [_, _, _]) rfl rfl rfl (bxc rfl) (by first | exact Nat.zero_le _ | assumption | exact Nat.le_trans hlim (Nat.zero_le _) | omega) rfl ?_)
 | (refine I_pick ?_; first
 | refine W_pick (v := .bool _) rfl rfl rfl rfl ?_
 | refine W_skip rfl ?_)
 | (refine I_build ?_; first
 | refine W_build (cs := [_, _, _]) rfl rfl rfl ?_
 | refine W_skip rfl ?_)
 | (refine I_store ?_; first
 | refine W_store (cs' := [_, _, _, _]) rfl rfl (upd_same _ _ _) rfl (by first | exact Nat.zero_le _ | assumption | exact Nat.le_trans hlim (Nat.zero_le _) | omega) rfl rfl rfl ?_)
 | (refine W_eqlP rfl rfl rfl rfl rfl rfl (eqAt3 _ _ _ _ _ _) ?_ ?_ <;> intro hq)
 | refine W_faddr rfl rfl rfl ?_
 | refine W_alloc rfl rfl ?_
 | refine W_indexA (agg := false) (d := .int _ _) rfl rfl rfl rfl (by decide) rfl ?_
 | refine W_skip rfl ?_
 | refine W_iaddr rfl rfl rfl rfl (by first | rfl | exact sz_of (by assumption) (by omega)) (by first | decide | (simp only [List.length_map]; omega)) ?_
 | refine WS_nil ?_)
 | refine WC_loop (b := c_ledger_Right_l0) ?_
 | refine WC_seq ?_
 | refine WC_opsS ?_
 | refine WC_drawS ?_
 | refine WC_skip ?_
 | refine WC_condT rfl ?_
 | refine WC_condF rfl ?_
 | refine WC_block ?_
 | refine WC_exit ?_
 | refine WC_ret ?_
 | refine okF_intro rfl ?_)
      all_goals first
        | (refine hbad ?_ _ _ rfl; first | omega | (simp only [decide_eq_true_eq] at hq; omega))
        | (refine hstep _ _ (by first | assumption | exact Nat.le_succ_of_le hlim) rfl rfl rfl rfl ?_ ?_ <;> simp only [decide_eq_false_iff_not] at hq <;> omega)
    · have hva : l[pre'.length]? = some a := by simp [hp]
      have hlp : (pre' ++ [a]).length = pre'.length + 1 := by simp
      refine WC_loop ?_
      repeat' (first
 | (refine I_WS ?_; first
 | refine W_sub (s := ((pre'.length : Nat) : Int)) rfl rfl rfl rfl (by rw [w64 (by omega)]; omega) ?_
 | (refine I_mov ?_; first
 | refine W_skip rfl ?_
 | refine W_mov (v := .int _ _) rfl rfl rfl ?_
 | refine W_mov (v := .bool _) rfl rfl rfl ?_
 | refine W_mov (v := .slice _ _ _) rfl rfl rfl ?_)
 | (refine I_bin ?_; first
 | refine W_skip rfl ?_
 | refine W_lssT rfl rfl rfl rfl (by omega) ?_
 | refine W_lssF rfl rfl rfl rfl (by omega) ?_
 | (refine W_lss rfl rfl rfl rfl ?_ ?_ <;> intro _)
 | refine W_gtrT rfl rfl rfl rfl (by omega) ?_
 | (refine W_gtr rfl rfl rfl rfl ?_ ?_ <;> intro _)
 | (refine W_geq rfl rfl rfl rfl ?_ ?_ <;> intro _)
 | refine W_add rfl rfl rfl rfl (by first | exact w64 (by omega) | rfl) ?_)
 | (refine I_load ?_; first
 | refine W_skip rfl ?_
 | refine W_loadE (agg := true) (d := .agg [_, _, _, _]) rfl rfl rfl hv rfl ?_
 | refine W_loadE (agg := false) (d := .int _ _) rfl rfl rfl hva rfl ?_
 | refine W_load (agg := false) (d := .int _ _) rfl rfl rfl (bxc rfl) (by first | exact Nat.zero_le _ | assumption | exact Nat.le_trans hlim (Nat.zero_le _) | omega) rfl ?_
 | refine W_load (agg := true) (d := .agg [_, _, _]) rfl rfl rfl (bxc rfl) (by first | exact Nat.zero_le _ | assumption | exact Nat.le_trans hlim (Nat.zero_le _) | omega) rfl ?_)
 | (refine I_pick ?_; first
 | refine W_pick (v := .bool _) rfl rfl rfl rfl ?_
 | refine W_skip rfl ?_)
 | (refine I_build ?_; first
 | refine W_build (cs := [_, _, _]) rfl rfl rfl ?_
 | refine W_skip rfl ?_)
 | (refine I_store ?_; first
 | refine W_store (cs' := [_, _, _, _]) rfl rfl (upd_same _ _ _) rfl (by first | exact Nat.zero_le _ | assumption | exact Nat.le_trans hlim (Nat.zero_le _) | omega) rfl rfl rfl ?_)
 | (refine W_eqlP rfl rfl rfl rfl rfl rfl (eqAt3 _ _ _ _ _ _) ?_ ?_ <;> intro hq)
 | refine W_faddr rfl rfl rfl ?_
 | refine W_faddrE rfl rfl rfl ?_
 | refine W_alloc rfl rfl ?_
 | refine W_indexA (agg := false) (d := .int _ _) rfl rfl rfl rfl (by decide) rfl ?_
 | refine W_skip rfl ?_
 | refine W_iaddr rfl rfl rfl rfl (by first | rfl | exact sz_of (by assumption) (by omega)) (by first | decide | (simp only [List.length_map]; omega)) ?_
 | refine WS_nil ?_)
 | refine WC_loop (b := c_ledger_Right_l0) ?_
 | refine WC_seq ?_
 | refine WC_opsS ?_
 | refine WC_drawS ?_
 | refine WC_skip ?_
 | refine WC_condT rfl ?_
 | refine WC_condF rfl ?_
 | refine WC_block ?_
 | refine WC_exit ?_
 | refine WC_ret ?_
 | refine okF_intro rfl ?_)
      all_goals first
        | (refine hbad ?_ _ _ rfl; first | omega | (simp only [decide_eq_true_eq] at hq; omega))
        | (refine hstep _ _ (by first | assumption | exact Nat.le_succ_of_le hlim) rfl rfl rfl rfl ?_ ?_ <;> simp only [decide_eq_false_iff_not] at hq <;> omega)
theorem s_lRight (l : List Bk) (hl : l.length ≤ 1073741824) (t : Tok) (sz : Nat) (hsz : sz = 4 ∨ l = []) : EvP Γ 27 [.slice t sz (l.map Bk.e)] (.bool (rt 0 l)) := by
  refine EvP_code rfl rfl ?_
  repeat' (first
 | (refine I_WS ?_; first
 | (refine I_mov ?_; first
 | refine W_mov (v := .int _ _) rfl rfl rfl ?_
 | refine W_mov (v := .bool _) rfl rfl rfl ?_
 | refine W_mov (v := .slice _ _ _) rfl rfl rfl ?_)
 | refine W_lenM rfl rfl rfl ?_
 | refine WS_nil ?_)
 | refine WC_seq ?_
 | refine WC_opsS ?_
 | refine WC_block ?_)
  refine l_right l hl t sz hsz l [] 0 rfl (.inl ⟨rfl, rfl⟩) _ _ (Nat.le_refl _) rfl rfl rfl rfl _ (fun he ρ st => ?_) (fun he ρ st h2 => ?_)
  · repeat' (first
 | (refine I_WS ?_; first
 | (refine I_mov ?_; first
 | refine W_mov (v := .bool _) rfl rfl rfl ?_)
 | refine WS_nil ?_)
 | refine WC_seq ?_
 | refine WC_opsS ?_
 | refine WC_ret ?_)
    exact fin_bool (by simp) rfl he.symm
  · rw [← upd_self h2]
    exact fin_bool (by simp) rfl he.symm

theorem rt_all : ∀ (l : List Bk) (p : Int), rt p l = true → (∀ b ∈ l, p < b.id ∧ b.U) ∧ Srt l
  | [], _, _ => ⟨by simp, List.Pairwise.nil⟩
  | b :: l, p, h => by
    rw [rt, Bool.and_eq_true, decide_eq_true_eq] at h
    obtain ⟨h1, h2⟩ := h
    obtain ⟨h3, h4⟩ := rt_all l b.id h2
    refine ⟨fun c hc => ?_, List.pairwise_cons.mpr ⟨fun c hc => (h3 c hc).1, h4⟩⟩
    rcases List.mem_cons.mp hc with rfl | hc
    · exact ⟨h1.1, h1.2.2.2⟩
    · exact ⟨Int.lt_trans h1.1 (h3 c hc).1, (h3 c hc).2⟩
theorem rt_led {l : List Bk} (h : rt 0 l = true) (hl : l.length ≤ 1073741824) : Led l := by
  obtain ⟨h1, h2⟩ := rt_all l 0 h
  refine ⟨h2, hl, fun id => ?_⟩
  unfold row
  split
  · rename_i b hb
    split
    · exact (h1 b (List.mem_of_getElem? hb)).2
    · simp [Bk.U]
  · simp [Bk.U]
end Go.Vit

/-
  What the reference's functions come to: a right ledger.
-/
namespace Go.Vit
open Go.Ev
set_option linter.unusedVariables false
set_option linter.unusedSimpArgs false
set_option maxHeartbeats 4000000 in
theorem rl_right (l : List Bk) (hl : l.length ≤ 1073741824) (t : Tok) (sz : Nat) (hsz : sz = 4 ∨ l = []) : ∀ (post pre : List Bk) (p : Int), l = pre ++ post → ((pre = [] ∧ p = 0) ∨ (∃ pre' a, pre = pre' ++ [a] ∧ a.id = p ∧ 1 ≤ p)) →
    ∀ (ρ : Nat → D) (st : Store) (hlim : st.lim ≤ st.next) (h0 : ρ 0 = .slice t sz (l.map Bk.e)) (h3 : ρ 3 = .int .i64 pre.length) (Q : X → (Nat → D) → Store → Prop),
    (rt p post = true → ∀ ρ' st', Q (.exit 0) ρ' st') → (rt p post = false → ∀ ρ' st', ρ' 2 = .bool false → Q .ret ρ' st') → WC Γ (.loop c_feluccaref09_Right_l1) ρ st Q := by
  intro post
  induction post with
  | nil =>
    intro pre p hp hpp ρ st hlim h0 h3 Q hQ hQ2
    rw [List.append_nil] at hp
    subst hp
    rw [← upd_self h0, ← upd_self h3]
    refine WC_loop ?_
    repeat' (first
 | (refine I_WS ?_; first
 | (refine I_mov ?_; first
 | refine W_mov (v := .int _ _) rfl rfl rfl ?_
 | refine W_mov (v := .slice _ _ _) rfl rfl rfl ?_)
 | (refine I_bin ?_; first
 | refine W_lssF rfl rfl rfl rfl (by omega) ?_)
 | refine W_lenM rfl rfl rfl ?_
 | refine WS_nil ?_)
 | refine WC_seq ?_
 | refine WC_opsS ?_
 | refine WC_condF rfl ?_
 | refine WC_exit ?_)
    exact hQ rfl _ _
  | cons b post ih =>
    intro pre p hp hpp ρ st hlim h0 h3 Q hQ hQ2
    have hv := l_mid hp
    have hlen : l.length = pre.length + (post.length + 1) := by rw [hp]; simp
    rw [← upd_self h0, ← upd_self h3]
    have hstep : ∀ (ρ' : Nat → D) (st' : Store), st'.lim ≤ st'.next → ρ' 0 = .slice t sz (l.map Bk.e) → ρ' 3 = .int .i64 (pre.length + 1 : Nat) → p < b.id ∧ b.id ≤ 1048576 ∧ ¬ (b.u0 = 0 ∧ b.u1 = 0 ∧ b.u2 = 0) ∧ b.U → 1 ≤ b.id → WC Γ (.loop c_feluccaref09_Right_l1) ρ' st' Q := fun ρ' st' hlim' h0 h3 hok h1 =>
      ih (pre ++ [b]) b.id (by simp [hp]) (.inr ⟨pre, b, rfl, rfl, h1⟩) ρ' st' hlim' h0 (by rw [h3]; simp) Q (fun h => hQ (by simp only [rt, hok, h, Bool.and_true]; simp)) (fun h => hQ2 (by simp only [rt, h, Bool.and_false]))
    have hbad : ¬ (p < b.id ∧ b.id ≤ 1048576 ∧ ¬ (b.u0 = 0 ∧ b.u1 = 0 ∧ b.u2 = 0) ∧ b.U) → ∀ (ρ' : Nat → D) (st' : Store), ρ' 2 = .bool false → Q .ret ρ' st' := fun h ρ' st' h2 => hQ2 (by simp only [rt, decide_eq_false h, Bool.false_and]) ρ' st' h2
    clear hQ hQ2 ih
    unfold Bk.U at hstep hbad
    rcases hpp with ⟨rfl, rfl⟩ | ⟨pre', a, rfl, ha, hp1⟩
    · have hz0 : ([] : List Bk).length = 0 := rfl
      refine WC_loop ?_
      repeat' (first
 | (refine I_WS ?_; first
 | refine W_add (s := 1) rfl rfl rfl rfl rfl ?_
 | refine W_add (s := 2) rfl rfl rfl rfl rfl ?_
 | refine W_add (s := 3) rfl rfl rfl rfl rfl ?_
 | (refine I_mov ?_; first
 | refine W_skip rfl ?_
 | refine W_mov (v := .int _ _) rfl rfl rfl ?_
 | refine W_mov (v := .bool _) rfl rfl rfl ?_
 | refine W_mov (v := .slice _ _ _) rfl rfl rfl ?_)
 | (refine I_bin ?_; first
 | refine W_skip rfl ?_
 | refine W_lssT rfl rfl rfl rfl (by omega) ?_
 | refine W_lssF rfl rfl rfl rfl (by omega) ?_
 | (refine W_lss rfl rfl rfl rfl ?_ ?_ <;> intro _)
 | refine W_gtrF rfl rfl rfl rfl (by omega) ?_
 | (refine W_gtr rfl rfl rfl rfl ?_ ?_ <;> intro _))
 | (refine I_load ?_; first
 | refine W_skip rfl ?_
 | refine W_loadE (agg := true) (d := .agg [_, _, _, _]) rfl rfl rfl hv rfl ?_
 | refine W_load (agg := false) (d := .int _ _) rfl rfl rfl (bxc rfl) (by first | exact Nat.zero_le _ | assumption | exact Nat.le_trans hlim (Nat.zero_le _) | omega) rfl ?_)
 | (refine I_pick ?_; first
 | refine W_pick (v := .bool _) rfl rfl rfl rfl ?_
 | refine W_skip rfl ?_)
 | (refine I_store ?_; first
 | refine W_store (cs' := [_, _, _, _]) rfl rfl (upd_same _ _ _) rfl (by first | exact Nat.zero_le _ | assumption | exact Nat.le_trans hlim (Nat.zero_le _) | omega) rfl rfl rfl ?_)
 | refine W_not rfl rfl rfl ?_
 | refine W_lenM rfl rfl rfl ?_
 | refine W_faddr rfl rfl rfl ?_
 | refine W_alloc rfl rfl ?_
 | refine W_iaddrA rfl rfl rfl rfl (by decide) ?_
 | refine W_skip rfl ?_
 | refine W_iaddr rfl rfl rfl rfl (by first | rfl | exact sz_of (by assumption) (by omega)) (by first | decide | (simp only [List.length_map]; omega)) ?_
 | refine WS_nil ?_)
 | refine WC_loop (b := c_feluccaref09_Right_l0) ?_
 | refine WC_seq ?_
 | refine WC_opsS ?_
 | refine WC_drawS ?_
 | refine WC_skip ?_
 | refine WC_condT rfl ?_
 | refine WC_condF rfl ?_
 | refine WC_block ?_
 | refine WC_exit ?_
 | refine WC_ret ?_
 | refine okF_intro rfl ?_)
      all_goals first
        | (refine hbad ?_ _ _ rfl; omega)
        | (refine hstep _ _ (by first | assumption | exact Nat.le_succ_of_le hlim) rfl rfl ?_ ?_ <;> omega)
    · have hva : l[pre'.length]? = some a := by simp [hp]
      have hlp : (pre' ++ [a]).length = pre'.length + 1 := by simp
      refine WC_loop ?_
      repeat' (first
 | (refine I_WS ?_; first
 | refine W_add (s := 1) rfl rfl rfl rfl rfl ?_
 | refine W_add (s := 2) rfl rfl rfl rfl rfl ?_
 | refine W_add (s := 3) rfl rfl rfl rfl rfl ?_
 | refine W_sub (s := ((pre'.length : Nat) : Int)) rfl rfl rfl rfl (by rw [w64 (by omega)]; omega) ?_
 | (refine I_mov ?_; first
 | refine W_skip rfl ?_
 | refine W_mov (v := .int _ _) rfl rfl rfl ?_
 | refine W_mov (v := .bool _) rfl rfl rfl ?_
 | refine W_mov (v := .slice _ _ _) rfl rfl rfl ?_)
 | (refine I_bin ?_; first
 | refine W_skip rfl ?_
 | refine W_lssT rfl rfl rfl rfl (by omega) ?_
 | refine W_lssF rfl rfl rfl rfl (by omega) ?_
 | (refine W_lss rfl rfl rfl rfl ?_ ?_ <;> intro _)
 | (refine W_leq rfl rfl rfl rfl ?_ ?_ <;> intro _)
 | refine W_gtrT rfl rfl rfl rfl (by omega) ?_
 | (refine W_gtr rfl rfl rfl rfl ?_ ?_ <;> intro _)
 | refine W_add rfl rfl rfl rfl (by first | exact w64 (by omega) | rfl) ?_)
 | (refine I_load ?_; first
 | refine W_skip rfl ?_
 | refine W_loadE (agg := true) (d := .agg [_, _, _, _]) rfl rfl rfl hv rfl ?_
 | refine W_loadE (agg := false) (d := .int _ _) rfl rfl rfl hva rfl ?_
 | refine W_load (agg := false) (d := .int _ _) rfl rfl rfl (bxc rfl) (by first | exact Nat.zero_le _ | assumption | exact Nat.le_trans hlim (Nat.zero_le _) | omega) rfl ?_)
 | (refine I_pick ?_; first
 | refine W_pick (v := .bool _) rfl rfl rfl rfl ?_
 | refine W_skip rfl ?_)
 | (refine I_store ?_; first
 | refine W_store (cs' := [_, _, _, _]) rfl rfl (upd_same _ _ _) rfl (by first | exact Nat.zero_le _ | assumption | exact Nat.le_trans hlim (Nat.zero_le _) | omega) rfl rfl rfl ?_)
 | refine W_not rfl rfl rfl ?_
 | refine W_lenM rfl rfl rfl ?_
 | refine W_faddr rfl rfl rfl ?_
 | refine W_faddrE rfl rfl rfl ?_
 | refine W_alloc rfl rfl ?_
 | refine W_iaddrA rfl rfl rfl rfl (by decide) ?_
 | refine W_skip rfl ?_
 | refine W_iaddr rfl rfl rfl rfl (by first | rfl | exact sz_of (by assumption) (by omega)) (by first | decide | (simp only [List.length_map]; omega)) ?_
 | refine WS_nil ?_)
 | refine WC_loop (b := c_feluccaref09_Right_l0) ?_
 | refine WC_seq ?_
 | refine WC_opsS ?_
 | refine WC_drawS ?_
 | refine WC_skip ?_
 | refine WC_condT rfl ?_
 | refine WC_condF rfl ?_
 | refine WC_block ?_
 | refine WC_exit ?_
 | refine WC_ret ?_
 | refine okF_intro rfl ?_)
      all_goals first
        | (refine hbad ?_ _ _ rfl; omega)
        | (refine hstep _ _ (by first | assumption | exact Nat.le_succ_of_le hlim) rfl rfl ?_ ?_ <;> omega)
theorem r_Right (l : List Bk) (hl : l.length ≤ 1073741824) (t : Tok) (sz : Nat) (hsz : sz = 4 ∨ l = []) : EvP Γ 11 [.slice t sz (l.map Bk.e)] (.bool (rt 0 l)) := by
  refine EvP_code rfl rfl ?_
  repeat' (first
 | (refine I_WS ?_; first
 | (refine I_mov ?_; first
 | refine W_mov (v := .int _ _) rfl rfl rfl ?_
 | refine W_mov (v := .bool _) rfl rfl rfl ?_)
 | refine WS_nil ?_)
 | refine WC_seq ?_
 | refine WC_opsS ?_
 | refine WC_block ?_)
  refine rl_right l hl t sz hsz l [] 0 rfl (.inl ⟨rfl, rfl⟩) _ _ (Nat.le_refl _) rfl rfl _ (fun he ρ st => ?_) (fun he ρ st h2 => ?_)
  · repeat' (first
 | (refine I_WS ?_; first
 | (refine I_mov ?_; first
 | refine W_mov (v := .bool _) rfl rfl rfl ?_)
 | refine WS_nil ?_)
 | refine WC_seq ?_
 | refine WC_opsS ?_
 | refine WC_ret ?_)
    exact fin_bool (by simp) rfl he.symm
  · rw [← upd_self h2]
    exact fin_bool (by simp) rfl he.symm
end Go.Vit

/-
  Rows compared, the view's way and the reference's; the reference's edge of an ID.
-/
namespace Go.Vit
open Go.Ev
set_option linter.unusedVariables false
set_option linter.unusedSimpArgs false
theorem Eg.ext' {a b : Eg} : (a.id = b.id ∧ a.fr = b.fr ∧ a.to = b.to ∧ a.op = b.op ∧ a.en = b.en ∧ a.ra = b.ra ∧ a.ow = b.ow ∧ a.ro = b.ro) ↔ a = b := by
  cases a
  cases b
  simp
theorem l_eqv (a b : List Eg) (hl : a.length ≤ 1073741824) (hab : a.length = b.length) (t t' : Tok) (sa sb : Nat) (ha : sa = 8 ∨ a = []) (hb : sb = 8 ∨ b = []) : ∀ (m i : Nat), a.length - i = m → i ≤ a.length → a.take i = b.take i →
    ∀ (ρ : Nat → D) (h0 : ρ 0 = .slice t sa (a.map Eg.e)) (h1 : ρ 1 = .slice t' sb (b.map Eg.e)) (h12 : ρ 12 = .int .i64 a.length) (h13 : ρ 13 = .int .i64 i) (Q : X → (Nat → D) → Store → Prop),
    (a = b → ∀ ρ', Q (.exit 0) ρ' Store.empty) → (a ≠ b → ∀ ρ', ρ' 4 = .bool false → Q .ret ρ' Store.empty) → WC Γ (.loop c_slices_Equal_Edge_l0) ρ Store.empty Q := by
  intro m
  induction m with
  | zero =>
    intro i hm hi he ρ h0 h1 h12 h13 Q hQ hQ2
    rw [← upd_self h0, ← upd_self h1, ← upd_self h12, ← upd_self h13]
    refine WC_loop ?_
    repeat' (first
 | (refine I_WS ?_; first
 | (refine I_bin ?_; first
 | refine W_lssF rfl rfl rfl rfl (by omega) ?_)
 | refine WS_nil ?_)
 | refine WC_seq ?_
 | refine WC_opsS ?_
 | refine WC_condF rfl ?_
 | refine WC_exit ?_)
    refine hQ ?_ _
    rw [List.take_of_length_le (by omega), List.take_of_length_le (by omega)] at he
    exact he
  | succ m ih =>
    intro i hm hi he ρ h0 h1 h12 h13 Q hQ hQ2
    rw [← upd_self h0, ← upd_self h1, ← upd_self h12, ← upd_self h13]
    obtain ⟨x, hx⟩ : ∃ v, a[i]? = some v := ⟨_, List.getElem?_eq_getElem (by omega)⟩
    obtain ⟨y, hy⟩ : ∃ v, b[i]? = some v := ⟨_, List.getElem?_eq_getElem (by omega)⟩
    have hz : sa = 8 := ha.resolve_right (by rintro rfl; simp at hx)
    have hz2 : sb = 8 := hb.resolve_right (by rintro rfl; simp at hy)
    subst hz hz2
    have hpa : i < (a.map Eg.e).length := by simp; omega
    have hpb : i < (b.map Eg.e).length := by simp; omega
    have hltl : (i : Int) < a.length := by omega
    refine WC_loop ?_
    repeat' (first
 | (refine I_WS ?_; first
 | refine W_iaddr (j := i) rfl rfl rfl rfl rfl hpa ?_
 | refine W_iaddr (j := i) rfl rfl rfl rfl rfl hpb ?_
 | (refine W_neqP rfl rfl rfl rfl rfl rfl (eqAt8 _ _ _ _ _ _ _ _ _ _ _ _ _ _ _ _) ?_ ?_ <;> intro)
 | (refine I_mov ?_; first
 | refine W_mov (v := .int _ _) rfl rfl rfl ?_
 | refine W_mov (v := .bool _) rfl rfl rfl ?_
 | refine W_mov (v := .slice _ _ _) rfl rfl rfl ?_)
 | (refine I_bin ?_; first
 | refine W_lssT rfl rfl rfl rfl (by omega) ?_
 | refine W_add rfl rfl rfl rfl (by first | exact w64 (by omega) | rfl) ?_)
 | (refine I_load ?_; first
 | refine W_loadE (agg := true) (d := .agg [_, _, _, _, _, _, _, _]) rfl rfl rfl hx rfl ?_
 | refine W_loadE (agg := true) (d := .agg [_, _, _, _, _, _, _, _]) rfl rfl rfl hy rfl ?_)
 | refine WS_nil ?_)
 | refine WC_seq ?_
 | refine WC_opsS ?_
 | refine WC_drawS ?_
 | refine WC_skip ?_
 | refine WC_condT rfl ?_
 | refine WC_condF rfl ?_
 | refine WC_block ?_
 | refine WC_ret ?_
 | refine okF_intro rfl ?_)
    · rename_i hq
      refine ih (i + 1) (by omega) (by omega) ?_ _ rfl rfl rfl rfl Q hQ hQ2
      rw [decide_eq_true_eq, Eg.ext'] at hq
      rw [List.take_add_one, List.take_add_one, he, hx, hy, hq]
    · rename_i hq
      refine hQ2 (fun hab => ?_) _ rfl
      rw [decide_eq_false_iff_not, Eg.ext'] at hq
      subst hab
      rw [hx] at hy
      exact hq (by cases hy; rfl)
theorem s_EqV (a b : List Eg) (hl : a.length ≤ 1073741824) (t t' : Tok) (sa sb : Nat) (ha : sa = 8 ∨ a = []) (hb : sb = 8 ∨ b = []) : EvP Γ 46 [.slice t sa (a.map Eg.e), .slice t' sb (b.map Eg.e)] (.bool (decide (a = b))) := by
  refine EvP_code rfl rfl ?_
  by_cases hab : a.length = b.length
  · have hab' : (a.length : Int) = b.length := by omega
    repeat' (first
 | (refine I_WS ?_; first
 | refine W_lenM rfl rfl rfl ?_
 | (refine I_mov ?_; first
 | refine W_mov (v := .int _ _) rfl rfl rfl ?_
 | refine W_mov (v := .bool _) rfl rfl rfl ?_
 | refine W_mov (v := .slice _ _ _) rfl rfl rfl ?_)
 | (refine I_bin ?_; first
 | refine W_neqF rfl rfl rfl rfl (by omega) ?_)
 | refine WS_nil ?_)
 | refine WC_seq ?_
 | refine WC_opsS ?_
 | refine WC_skip ?_
 | refine WC_condF rfl ?_
 | refine WC_block ?_)
    refine l_eqv a b hl hab t t' sa sb ha hb a.length 0 (by omega) (by omega) rfl _ ?_ ?_ ?_ ?_ _ (fun h ρ => ?_) (fun h ρ h4 => ?_)
    · rfl
    · rfl
    · rfl
    · rfl
    · rw [decide_eq_true h]
      repeat' (first
 | (refine I_WS ?_; first
 | (refine I_mov ?_; first
 | refine W_mov (v := .bool _) rfl rfl rfl ?_)
 | refine WS_nil ?_)
 | refine WC_seq ?_
 | refine WC_opsS ?_
 | refine WC_ret ?_)
      exact fin_bool (.inr rfl) rfl rfl
    · rw [decide_eq_false h, ← upd_self h4]
      exact fin_bool (.inr rfl) rfl rfl
  · have hab' : (a.length : Int) ≠ b.length := by omega
    rw [decide_eq_false (fun h => hab (by rw [h]))]
    repeat' (first
 | (refine I_WS ?_; first
 | refine W_lenM rfl rfl rfl ?_
 | (refine I_mov ?_; first
 | refine W_mov (v := .bool _) rfl rfl rfl ?_
 | refine W_mov (v := .slice _ _ _) rfl rfl rfl ?_)
 | (refine I_bin ?_; first
 | refine W_neqT rfl rfl rfl rfl (by omega) ?_)
 | refine WS_nil ?_)
 | refine WC_seq ?_
 | refine WC_opsS ?_
 | refine WC_condT rfl ?_
 | refine WC_ret ?_)
    exact fin_bool (.inr rfl) rfl rfl
theorem s_SameV (a b : List Eg) (hl : a.length ≤ 1073741824) (t t' : Tok) (sa sb : Nat) (ha : sa = 8 ∨ a = []) (hb : sb = 8 ∨ b = []) : EvP Γ 23 [.slice t sa (a.map Eg.e), .slice t' sb (b.map Eg.e)] (.bool (decide (a = b))) := by
  have h := fun t t' => s_EqV a b hl t t' sa sb ha hb
  refine EvP_code rfl rfl ?_
  repeat' (first
 | (refine I_WS ?_; first
 | (refine I_mov ?_; first
 | refine W_mov (v := .bool _) rfl rfl rfl ?_
 | refine W_mov (v := .slice _ _ _) rfl rfl rfl ?_)
 | (refine I_call ?_; first
 | refine W_call rfl rfl rfl (h _ _) rfl rfl ?_)
 | refine WS_nil ?_)
 | refine WC_seq ?_
 | refine WC_opsS ?_
 | refine WC_ret ?_)
  exact fin_bool (.inr rfl) rfl rfl
theorem rl_eq (a b : List Eg) (hl : a.length ≤ 1073741824) (hab : a.length = b.length) (t t' : Tok) (sa sb : Nat) (ha : sa = 8 ∨ a = []) (hb : sb = 8 ∨ b = []) : ∀ (m i : Nat), a.length - i = m → i ≤ a.length → a.take i = b.take i →
    ∀ (ρ : Nat → D) (h0 : ρ 0 = .slice t sa (a.map Eg.e)) (h1 : ρ 1 = .slice t' sb (b.map Eg.e)) (h5 : ρ 5 = .int .i64 i) (Q : X → (Nat → D) → Store → Prop),
    (a = b → ∀ ρ', Q (.exit 0) ρ' Store.empty) → (a ≠ b → ∀ ρ', ρ' 4 = .bool false → Q .ret ρ' Store.empty) → WC Γ (.loop c_feluccaref11_Same_l0) ρ Store.empty Q := by
  intro m
  induction m with
  | zero =>
    intro i hm hi he ρ h0 h1 h5 Q hQ hQ2
    rw [← upd_self h0, ← upd_self h1, ← upd_self h5]
    refine WC_loop ?_
    repeat' (first
 | (refine I_WS ?_; first
 | (refine I_mov ?_; first
 | refine W_mov (v := .int _ _) rfl rfl rfl ?_
 | refine W_mov (v := .slice _ _ _) rfl rfl rfl ?_)
 | (refine I_bin ?_; first
 | refine W_lssF rfl rfl rfl rfl (by omega) ?_)
 | refine W_lenM rfl rfl rfl ?_
 | refine WS_nil ?_)
 | refine WC_seq ?_
 | refine WC_opsS ?_
 | refine WC_condF rfl ?_
 | refine WC_exit ?_)
    refine hQ ?_ _
    rw [List.take_of_length_le (by omega), List.take_of_length_le (by omega)] at he
    exact he
  | succ m ih =>
    intro i hm hi he ρ h0 h1 h5 Q hQ hQ2
    rw [← upd_self h0, ← upd_self h1, ← upd_self h5]
    obtain ⟨x, hx⟩ : ∃ v, a[i]? = some v := ⟨_, List.getElem?_eq_getElem (by omega)⟩
    obtain ⟨y, hy⟩ : ∃ v, b[i]? = some v := ⟨_, List.getElem?_eq_getElem (by omega)⟩
    have hz : sa = 8 := ha.resolve_right (by rintro rfl; simp at hx)
    have hz2 : sb = 8 := hb.resolve_right (by rintro rfl; simp at hy)
    subst hz hz2
    have hpa : i < (a.map Eg.e).length := by simp; omega
    have hpb : i < (b.map Eg.e).length := by simp; omega
    have hltl : (i : Int) < a.length := by omega
    refine WC_loop ?_
    repeat' (first
 | (refine I_WS ?_; first
 | refine W_iaddr (j := i) rfl rfl rfl rfl rfl hpa ?_
 | refine W_iaddr (j := i) rfl rfl rfl rfl rfl hpb ?_
 | (refine W_neqP rfl rfl rfl rfl rfl rfl (eqAt8 _ _ _ _ _ _ _ _ _ _ _ _ _ _ _ _) ?_ ?_ <;> intro)
 | (refine I_mov ?_; first
 | refine W_mov (v := .int _ _) rfl rfl rfl ?_
 | refine W_mov (v := .bool _) rfl rfl rfl ?_
 | refine W_mov (v := .slice _ _ _) rfl rfl rfl ?_)
 | (refine I_bin ?_; first
 | refine W_lssT rfl rfl rfl rfl (by omega) ?_
 | refine W_add rfl rfl rfl rfl (by first | exact w64 (by omega) | rfl) ?_)
 | (refine I_load ?_; first
 | refine W_loadE (agg := true) (d := .agg [_, _, _, _, _, _, _, _]) rfl rfl rfl hx rfl ?_
 | refine W_loadE (agg := true) (d := .agg [_, _, _, _, _, _, _, _]) rfl rfl rfl hy rfl ?_)
 | refine W_lenM rfl rfl rfl ?_
 | refine WS_nil ?_)
 | refine WC_seq ?_
 | refine WC_opsS ?_
 | refine WC_drawS ?_
 | refine WC_skip ?_
 | refine WC_condT rfl ?_
 | refine WC_condF rfl ?_
 | refine WC_block ?_
 | refine WC_ret ?_
 | refine okF_intro rfl ?_)
    · rename_i hq
      refine ih (i + 1) (by omega) (by omega) ?_ _ rfl rfl rfl Q hQ hQ2
      rw [decide_eq_true_eq, Eg.ext'] at hq
      rw [List.take_add_one, List.take_add_one, he, hx, hy, hq]
    · rename_i hq
      refine hQ2 (fun hab => ?_) _ rfl
      rw [decide_eq_false_iff_not, Eg.ext'] at hq
      subst hab
      rw [hx] at hy
      exact hq (by cases hy; rfl)
theorem r_Same (a b : List Eg) (hl : a.length ≤ 1073741824) (t t' : Tok) (sa sb : Nat) (ha : sa = 8 ∨ a = []) (hb : sb = 8 ∨ b = []) : EvP Γ 17 [.slice t sa (a.map Eg.e), .slice t' sb (b.map Eg.e)] (.bool (decide (a = b))) := by
  refine EvP_code rfl rfl ?_
  by_cases hab : a.length = b.length
  · have hab' : (a.length : Int) = b.length := by omega
    repeat' (first
 | (refine I_WS ?_; first
 | refine W_lenM rfl rfl rfl ?_
 | (refine I_mov ?_; first
 | refine W_mov (v := .int _ _) rfl rfl rfl ?_
 | refine W_mov (v := .bool _) rfl rfl rfl ?_
 | refine W_mov (v := .slice _ _ _) rfl rfl rfl ?_)
 | (refine I_bin ?_; first
 | refine W_neqF rfl rfl rfl rfl (by omega) ?_)
 | refine WS_nil ?_)
 | refine WC_seq ?_
 | refine WC_opsS ?_
 | refine WC_skip ?_
 | refine WC_condF rfl ?_
 | refine WC_block ?_)
    refine rl_eq a b hl hab t t' sa sb ha hb a.length 0 (by omega) (by omega) rfl _ ?_ ?_ ?_ _ (fun h ρ => ?_) (fun h ρ h4 => ?_)
    · rfl
    · rfl
    · rfl
    · rw [decide_eq_true h]
      repeat' (first
 | (refine I_WS ?_; first
 | (refine I_mov ?_; first
 | refine W_mov (v := .bool _) rfl rfl rfl ?_)
 | refine WS_nil ?_)
 | refine WC_seq ?_
 | refine WC_opsS ?_
 | refine WC_ret ?_)
      exact fin_bool (.inr rfl) rfl rfl
    · rw [decide_eq_false h, ← upd_self h4]
      exact fin_bool (.inr rfl) rfl rfl
  · have hab' : (a.length : Int) ≠ b.length := by omega
    rw [decide_eq_false (fun h => hab (by rw [h]))]
    repeat' (first
 | (refine I_WS ?_; first
 | refine W_lenM rfl rfl rfl ?_
 | (refine I_mov ?_; first
 | refine W_mov (v := .bool _) rfl rfl rfl ?_
 | refine W_mov (v := .slice _ _ _) rfl rfl rfl ?_)
 | (refine I_bin ?_; first
 | refine W_neqT rfl rfl rfl rfl (by omega) ?_)
 | refine WS_nil ?_)
 | refine WC_seq ?_
 | refine WC_opsS ?_
 | refine WC_condT rfl ?_
 | refine WC_ret ?_)
    exact fin_bool (.inr rfl) rfl rfl
end Go.Vit

/-
  What the reference's functions come to: an edge of an ID.
-/
namespace Go.Vit
open Go.Ev
set_option linter.unusedVariables false
set_option linter.unusedSimpArgs false
theorem rl_Find (n : Int) (l : List Eg) (hll : l.length ≤ 1073741824) (t0 : Tok) (sz0 : Nat) (hs0 : sz0 = 8 ∨ l = []) (st : Store) (hlim : st.lim ≤ 0) (hb0 : (st.boxes 0) = some (.cells zeroE.e.cells)) : ∀ (post pre : List Eg), l = pre ++ post → (∀ y ∈ pre, y.id ≠ n) → ∀ (ρ : Nat → D),
    ρ 0 = .slice t0 sz0 (l.map Eg.e) → ρ 1 = .int .i64 n → ρ 4 = .ptr 0 0 → ρ 6 = .int .i64 pre.length → ∀ (Q : X → (Nat → D) → Store → Prop),
    ((∀ y ∈ l, y.id ≠ n) → ∀ ρ', ρ' 4 = .ptr 0 0 → Q (.exit 0) ρ' st) →
    (∀ x, fnd n l = some x → ∀ ρ' st', st'.lim ≤ 0 → (st'.boxes 0).bind Box.cs = some x.e.cells → ρ' 4 = .ptr 0 0 → ρ' 5 = .bool true → Q .ret ρ' st') → WC Γ (.loop c_feluccaref11_Find_l0) ρ st Q := by
  intro post
  induction post with
  | nil =>
    intro pre hp hn ρ h0 h1 h4 h6 Q hQ hQ2
    rw [List.append_nil] at hp
    have hlen : l.length = pre.length := by rw [hp]
    rw [← hp] at hn
    rw [← upd_self h0, ← upd_self h1, ← upd_self h4, ← upd_self h6]
    refine WC_loop ?_
    repeat' (first
 | (refine I_WS ?_; first
 | (refine I_mov ?_; first
 | refine W_mov (v := .int _ _) rfl rfl rfl ?_
 | refine W_mov (v := .slice _ _ _) rfl rfl rfl ?_)
 | (refine I_bin ?_; first
 | refine W_lssF rfl rfl rfl rfl (by omega) ?_)
 | refine W_lenM rfl rfl rfl ?_
 | refine WS_nil ?_)
 | refine WC_seq ?_
 | refine WC_opsS ?_
 | refine WC_condF rfl ?_
 | refine WC_exit ?_)
    refine hQ hn _ ?_
    rfl
  | cons x post ih =>
    intro pre hp hn ρ h0 h1 h4 h6 Q hQ hQ2
    have hv := eg_mid hp
    have hlen : l.length = pre.length + (post.length + 1) := by rw [hp]; simp
    have hz : sz0 = 8 := hs0.resolve_right (by rintro rfl; simp at hlen)
    subst hz
    have hpl : pre.length < (l.map Eg.e).length := by simp; omega
    have hltl : (pre.length : Int) < l.length := by omega
    rw [← upd_self h0, ← upd_self h1, ← upd_self h4, ← upd_self h6]
    refine WC_loop ?_
    by_cases hx : x.id = n
    · repeat' (first
 | (refine I_WS ?_; first
 | refine W_iaddr (j := pre.length) rfl rfl rfl rfl rfl hpl ?_
 | refine W_store (cs' := [_, _, _, _, _, _, _, _]) rfl rfl hb0 rfl hlim rfl rfl rfl ?_
 | (refine I_mov ?_; first
 | refine W_mov (v := .int _ _) rfl rfl rfl ?_
 | refine W_mov (v := .bool _) rfl rfl rfl ?_
 | refine W_mov (v := .slice _ _ _) rfl rfl rfl ?_)
 | (refine I_bin ?_; first
 | refine W_lssT rfl rfl rfl rfl (by omega) ?_
 | refine W_eqlT rfl rfl rfl rfl (by omega) ?_)
 | (refine I_load ?_; first
 | refine W_loadE (agg := true) (d := .agg [_, _, _, _, _, _, _, _]) rfl rfl rfl hv rfl ?_
 | refine W_loadE (agg := false) (d := .int _ _) rfl rfl rfl hv rfl ?_)
 | refine W_lenM rfl rfl rfl ?_
 | refine W_faddrE rfl rfl rfl ?_
 | refine WS_nil ?_)
 | refine WC_seq ?_
 | refine WC_opsS ?_
 | refine WC_skip ?_
 | refine WC_condT rfl ?_
 | refine WC_block ?_
 | refine WC_ret ?_)
      refine hQ2 x (by rw [hp]; exact fnd_mid hn hx) _ _ ?_ ?_ ?_ ?_
      · exact hlim
      · dsimp only
        rw [upd_same]
        rfl
      · rfl
      · rfl
    · repeat' (first
 | (refine I_WS ?_; first
 | refine W_iaddr (j := pre.length) rfl rfl rfl rfl rfl hpl ?_
 | (refine I_mov ?_; first
 | refine W_mov (v := .int _ _) rfl rfl rfl ?_
 | refine W_mov (v := .slice _ _ _) rfl rfl rfl ?_)
 | (refine I_bin ?_; first
 | refine W_lssT rfl rfl rfl rfl (by omega) ?_
 | refine W_eqlF rfl rfl rfl rfl (by omega) ?_
 | refine W_add rfl rfl rfl rfl (by first | exact w64 (by omega) | rfl) ?_)
 | (refine I_load ?_; first
 | refine W_loadE (agg := false) (d := .int _ _) rfl rfl rfl hv rfl ?_)
 | refine W_lenM rfl rfl rfl ?_
 | refine W_faddrE rfl rfl rfl ?_
 | refine WS_nil ?_)
 | refine WC_seq ?_
 | refine WC_opsS ?_
 | refine WC_skip ?_
 | refine WC_condT rfl ?_
 | refine WC_condF rfl ?_
 | refine WC_block ?_)
      refine ih (pre ++ [x]) (by simp [hp]) (fun y hy => ?_) _ ?_ ?_ ?_ ?_ Q hQ hQ2
      · rcases List.mem_append.mp hy with h | h
        · exact hn y h
        · rw [List.mem_singleton.mp h]; exact hx
      · rfl
      · rfl
      · rfl
      · rw [List.length_append]; rfl
theorem r_Find (n : Int) (l : List Eg) (hll : l.length ≤ 1073741824) (t : Tok) (sz : Nat) (hs : sz = 8 ∨ l = []) : EvP Γ 15 [.slice t sz (l.map Eg.e), .int .i64 n] (.tuple [((fnd n l).getD zeroE).e, .bool (fnd n l).isSome]) := by
  refine EvP_code rfl rfl ?_
  repeat' (first
 | (refine I_WS ?_; first
 | (refine I_mov ?_; first
 | refine W_mov (v := .int _ _) rfl rfl rfl ?_
 | refine W_mov (v := .bool _) rfl rfl rfl ?_)
 | refine W_alloc rfl rfl ?_
 | refine WS_nil ?_)
 | refine WC_seq ?_
 | refine WC_opsS ?_
 | refine WC_block ?_)
  refine rl_Find n l hll t sz hs _ ?_ ?_ l [] rfl (by simp) _ ?_ ?_ ?_ ?_ _ (fun hn ρ' h4 => ?_) (fun x hx ρ' st' hlim hb0 h4 h5 => ?_)
  · exact Nat.le_refl _
  · rfl
  · rfl
  · rfl
  · rfl
  · rfl
  · rw [fnd_none hn, ← upd_self h4]
    repeat' (first
 | (refine I_WS ?_; first
 | (refine I_mov ?_; first
 | refine W_mov (v := .bool _) rfl rfl rfl ?_)
 | (refine I_build ?_; first
 | refine W_build (cs := [_, _, _, _, _, _, _, _]) rfl rfl rfl ?_)
 | (refine I_store ?_; first
 | refine W_store (cs' := [_, _, _, _, _, _, _, _]) rfl rfl rfl rfl (by first | exact Nat.zero_le _ | omega) rfl rfl rfl ?_)
 | refine WS_nil ?_)
 | refine WC_seq ?_
 | refine WC_opsS ?_
 | refine WC_ret ?_)
    refine ⟨.inr rfl, ?_⟩
    rfl
  · rw [hx]
    refine ⟨.inr rfl, ?_⟩
    rw [show c_feluccaref11_Find.res = c_view_Find.res from rfl, resFind h4 h5 hb0 hlim rfl]
    rfl
end Go.Vit

/-
  The small case of the view comes out right.
-/
namespace Go.Vit
open Go.Ev
def isT : Option D → Bool
  | some (.bool true) => true
  | _ => false
theorem isT_eq {d : Option D} (h : isT d = true) : d = some (.bool true) := by
  unfold isT at h
  split at h
  · rfl
  · cases h
set_option maxRecDepth 100000 in
theorem small_run : isT (callP Γ 400 8 []) = true := by decide +kernel
theorem s_small : EvP Γ 8 [] (.bool true) := EvP_of_run (isT_eq small_run)
end Go.Vit

/-
  ViewTells, as the evaluator runs it: the whole.
-/
namespace Go.Vit
open Go.Ev
set_option linter.unusedVariables false
set_option linter.unusedSimpArgs false
theorem r_Same1 (a : List Eg) (hl : a.length ≤ 1073741824) (t t' : Tok) (sa sb : Nat) (ha : sa = 8 ∨ a = []) (hb : sb = 8 ∨ a = []) : EvP Γ 17 [.slice t sa (a.map Eg.e), .slice t' sb (a.map Eg.e)] (.bool true) := by
  have h := r_Same a a hl t t' sa sb ha hb
  rwa [decide_eq_true rfl] at h
theorem eqAt8t (a b c d e f g h : Int) : eqAt [.int .i64 a, .int .i64 b, .int .i64 c, .int .i64 d, .int .i64 e, .int .i64 f, .int .i64 g, .int .i64 h] [.int .i64 a, .int .i64 b, .int .i64 c, .int .i64 d, .int .i64 e, .int .i64 f, .int .i64 g, .int .i64 h] [0, 1, 2, 3, 4, 5, 6, 7] = some true := by
  rw [eqAt8]
  simp
theorem fromE_le (n : Int) (l : List Eg) : (fromE n l).length ≤ l.length := by
  unfold fromE
  exact List.length_filter_le _ _
set_option maxHeartbeats 16000000 in
theorem run_Tells (p : Pl) (hc : ∀ c ∈ p.cs, In64 c.en) (hr : ∀ r ∈ p.rs, In64 r.en) (l : List Bk) (k : Int) (c : Ct) (hce : In64 c.en) (m : List Eg) (n : Int) : EvP Γ 3 [p.e, .slice .no 4 (l.map Bk.e), .int .i64 k, c.e, .slice .no 8 (m.map Eg.e), .int .i64 n] (.bool true) := by
  refine EvP_code rfl rfl ?_
  have hFew := s_Few p
  by_cases hf : (p.cs.length ≤ 50 ∧ p.rs.length ≤ 50) ∧ l.length ≤ 50 ∧ m.length ≤ 50 ∧ (0 ≤ k ∧ k ≤ 2)
  · obtain ⟨hf, hl, hm, hk⟩ := hf
    have hp : p.Sm := ⟨by omega, by omega, hc, hr⟩
    obtain ⟨_, ⟨b, rfl, hb⟩, hR⟩ := r_pRight p hp
    have hLR := r_Right l (by omega) .no 4 (.inl rfl)
    rw [decide_eq_true hf] at hFew
    cases b with
    | false =>
      generalize rt 0 l = q at hLR
      repeat' (first
 | (refine I_WS ?_; first
 | refine W_lenM rfl rfl rfl ?_
 | (refine I_mov ?_; first
 | refine W_skip rfl ?_
 | refine W_mov (v := .int _ _) rfl rfl rfl ?_
 | refine W_mov (v := .bool _) rfl rfl rfl ?_
 | refine W_mov (v := .slice _ _ _) rfl rfl rfl ?_)
 | (refine I_bin ?_; first
 | refine W_lssF rfl rfl rfl rfl (by omega) ?_
 | refine W_gtrF rfl rfl rfl rfl (by omega) ?_)
 | (refine I_load ?_; first
 | refine W_load (agg := true) (d := .agg [_, _, _, _]) rfl rfl rfl rfl (by first | exact Nat.zero_le _ | omega) rfl ?_)
 | (refine I_call ?_; first
 | refine W_call rfl rfl rfl s_small rfl rfl ?_
 | refine W_call rfl rfl rfl hFew rfl rfl ?_
 | refine W_call rfl rfl rfl hLR rfl rfl ?_
 | refine W_call rfl rfl rfl hR rfl rfl ?_)
 | (refine I_pick ?_; first
 | refine W_pick (v := .bool _) rfl rfl rfl rfl ?_)
 | (refine I_box ?_; first
 | refine W_boxA rfl rfl rfl rfl rfl ?_)
 | refine W_not rfl rfl rfl ?_
 | refine W_skip rfl ?_
 | refine WS_nil ?_)
 | refine WC_seq ?_
 | refine WC_opsS ?_
 | refine WC_skip ?_
 | refine WC_condT rfl ?_
 | refine WC_condF rfl ?_
 | refine WC_ret ?_)
      all_goals exact fin_bool (.inr rfl) rfl rfl
    | true =>
      cases hrt : rt 0 l with
      | false =>
        rw [hrt] at hLR
        repeat' (first
 | (refine I_WS ?_; first
 | refine W_lenM rfl rfl rfl ?_
 | (refine I_mov ?_; first
 | refine W_mov (v := .int _ _) rfl rfl rfl ?_
 | refine W_mov (v := .bool _) rfl rfl rfl ?_
 | refine W_mov (v := .slice _ _ _) rfl rfl rfl ?_)
 | (refine I_bin ?_; first
 | refine W_lssF rfl rfl rfl rfl (by omega) ?_
 | refine W_gtrF rfl rfl rfl rfl (by omega) ?_)
 | (refine I_load ?_; first
 | refine W_load (agg := true) (d := .agg [_, _, _, _]) rfl rfl rfl rfl (by first | exact Nat.zero_le _ | omega) rfl ?_)
 | (refine I_call ?_; first
 | refine W_call rfl rfl rfl s_small rfl rfl ?_
 | refine W_call rfl rfl rfl hFew rfl rfl ?_
 | refine W_call rfl rfl rfl hR rfl rfl ?_
 | refine W_call rfl rfl rfl hLR rfl rfl ?_)
 | (refine I_pick ?_; first
 | refine W_pick (v := .bool _) rfl rfl rfl rfl ?_)
 | (refine I_box ?_; first
 | refine W_boxA rfl rfl rfl rfl rfl ?_)
 | refine W_not rfl rfl rfl ?_
 | refine WS_nil ?_)
 | refine WC_seq ?_
 | refine WC_opsS ?_
 | refine WC_skip ?_
 | refine WC_condT rfl ?_
 | refine WC_condF rfl ?_
 | refine WC_ret ?_)
        all_goals exact fin_bool (.inr rfl) rfl rfl
      | true =>
        rw [hrt] at hLR
        have hG := hb rfl
        have hLd := rt_led hrt (by omega)
        have hE := s_Edge p hp l hLd c hce k .no 4 (.inl rfl)
        have hE' := r_Edge p hp l hLd c k .no 4 (.inl rfl)
        have hF := s_Find n m (by omega) .no 8 (.inl rfl)
        have hF' := r_Find n m (by omega) .no 8 (.inl rfl)
        have hA := s_All p hp hG.2 l hLd k .no 4 (.inl rfl)
        have hA' := r_All p hp hG.2 l hLd k .no 4 (.inl rfl)
        have hB := s_Bare p hp hG.2
        have hB' := r_Bare p hp hG.2
        have hM := s_From n m (by omega) .no 8 (.inl rfl)
        have hM' := r_From n m (by omega) .no 8 (.inl rfl)
        have hle := allE_le p l k
        have hle0 := allE_le p [] 0
        have hlf := fromE_le n m
        have hSA := fun t t' s s' h h' => r_Same1 (allE p l k) (by omega) t t' s s' h h'
        have hSB := fun t t' s s' h h' => r_Same1 (allE p [] 0) (by omega) t t' s s' h h'
        have hSF := fun t t' s s' h h' => r_Same1 (fromE n m) (by omega) t t' s s' h h'
        have hSV := fun t s h => s_SameV m (allE p l k) (by omega) .no t 8 s (.inl rfl) h
        have hSR := fun t s h => r_Same m (allE p l k) (by omega) .no t 8 s (.inl rfl) h
        clear hLd hb hrt hle hle0 hlf hG
        generalize hq : decide (m = allE p l k) = q at hSV hSR
        clear hq
        generalize allE p l k = A at *
        generalize allE p [] 0 = B at *
        generalize fromE n m = F at *
        generalize (edg p.rs l k c).getD zeroE = z at hE hE'
        generalize (edg p.rs l k c).isSome = zb at hE hE'
        generalize (fnd n m).getD zeroE = y at hF hF'
        generalize (fnd n m).isSome = yb at hF hF'
        obtain ⟨z1, z2, z3, z4, z5, z6, z7, z8⟩ := z
        obtain ⟨y1, y2, y3, y4, y5, y6, y7, y8⟩ := y
        repeat' (first
 | (refine I_WS ?_; first
 | refine W_lenM rfl rfl rfl ?_
 | refine W_eqlP rfl rfl rfl rfl rfl rfl (eqAt8t _ _ _ _ _ _ _ _) (fun _ => ?_) (fun h => by cases h)
 | refine W_eqlBc rfl rfl rfl rfl (beq_self_eq_true _) ?_
 | (refine I_mov ?_; first
 | refine W_mov (v := .int _ _) rfl rfl rfl ?_
 | refine W_mov (v := .bool _) rfl rfl rfl ?_
 | refine W_mov (v := .slice _ _ _) rfl rfl rfl ?_
 | refine W_mov (v := .tuple _) rfl rfl rfl ?_)
 | (refine I_bin ?_; first
 | refine W_lssF rfl rfl rfl rfl (by omega) ?_
 | refine W_gtrF rfl rfl rfl rfl (by omega) ?_)
 | (refine I_load ?_; first
 | refine W_load (agg := true) (d := .agg [_, _, _, _]) rfl rfl rfl rfl (by first | exact Nat.zero_le _ | omega) rfl ?_
 | refine W_load (agg := true) (d := .agg [_, _, _, _, _, _]) rfl rfl rfl rfl (by first | exact Nat.zero_le _ | omega) rfl ?_
 | refine W_load (agg := true) (d := .agg [_, _, _, _, _, _, _, _]) rfl rfl rfl rfl (by first | exact Nat.zero_le _ | omega) rfl ?_)
 | (refine I_call ?_; first
 | refine W_call rfl rfl rfl s_small rfl rfl ?_
 | refine W_call rfl rfl rfl hFew rfl rfl ?_
 | refine W_call rfl rfl rfl hR rfl rfl ?_
 | refine W_call rfl rfl rfl hLR rfl rfl ?_
 | refine W_call rfl rfl rfl hE rfl rfl ?_
 | refine W_call rfl rfl rfl hE' rfl rfl ?_
 | refine W_call rfl rfl rfl hF rfl rfl ?_
 | refine W_call rfl rfl rfl hF' rfl rfl ?_
 | (refine W_callN rfl rfl rfl hA rfl ?_ <;> intro ta sa s1 d1)
 | (refine W_callN rfl rfl rfl hA' rfl ?_ <;> intro tb sb s2 d2)
 | (refine W_callN rfl rfl rfl hB rfl ?_ <;> intro tc sc s3 d3)
 | (refine W_callN rfl rfl rfl hB' rfl ?_ <;> intro td sd s4 d4)
 | (refine W_callN rfl rfl rfl hM rfl ?_ <;> intro te se s5 d5)
 | (refine W_callN rfl rfl rfl hM' rfl ?_ <;> intro tf sf s6 d6)
 | refine W_call rfl rfl rfl (hSA _ _ _ _ s1 s2) rfl rfl ?_
 | refine W_call rfl rfl rfl (hSB _ _ _ _ s3 s4) rfl rfl ?_
 | refine W_call rfl rfl rfl (hSF _ _ _ _ s5 s6) rfl rfl ?_
 | refine W_call rfl rfl rfl (hSV _ _ s1) rfl rfl ?_
 | refine W_call rfl rfl rfl (hSR _ _ s1) rfl rfl ?_)
 | (refine I_pick ?_; first
 | refine W_pick (v := .bool _) rfl rfl rfl rfl ?_)
 | (refine I_extract ?_; first
 | refine W_extract (d := .bool _) rfl rfl rfl rfl ?_
 | refine W_extract (d := .agg _) rfl rfl rfl rfl ?_)
 | (refine I_box ?_; first
 | refine W_boxA rfl rfl rfl rfl rfl ?_)
 | (refine I_store ?_; first
 | refine W_store (cs' := [_, _, _, _, _, _, _, _]) rfl rfl rfl rfl (by first | exact Nat.zero_le _ | omega) rfl rfl rfl ?_)
 | refine W_not rfl rfl rfl ?_
 | refine W_alloc rfl rfl ?_
 | refine WS_nil ?_)
 | (refine (?_ : ∀ ρ' : Nat → D, ρ' 1 = .slice .no 4 (l.map Bk.e) → ρ' 2 = .int .i64 k → ρ' 4 = .slice .no 8 (m.map Eg.e) → ρ' 5 = .int .i64 n → ρ' 6 = .ptr 0 0 → ρ' 13 = .bool true → ρ' 17 = .ptr 2 0 → ρ' 18 = .bool zb → ρ' 19 = .ptr 3 0 → ρ' 20 = .bool zb → ρ' 21 = .ptr 4 0 → ρ' 22 = .bool yb → ρ' 23 = .ptr 5 0 → ρ' 24 = .bool yb → ρ' 25 = .slice ta sa (A.map Eg.e) → WC Γ (.draw _ _) ρ' _ _) _ rfl rfl rfl rfl rfl rfl rfl rfl rfl rfl rfl rfl rfl rfl rfl; intro ρ' h1 h2 h4 h5 h6 h13 h17 h18 h19 h20 h21 h22 h23 h24 h25; rw [← upd_self h1, ← upd_self h2, ← upd_self h4, ← upd_self h5, ← upd_self h6, ← upd_self h13, ← upd_self h17, ← upd_self h18, ← upd_self h19, ← upd_self h20, ← upd_self h21, ← upd_self h22, ← upd_self h23, ← upd_self h24, ← upd_self h25]; refine WC_drawS ?_)
 | refine okF_intro (okFlags_rd rfl) ?_
 | refine WC_seq ?_
 | refine WC_opsS ?_
 | refine WC_skip ?_
 | refine WC_condF rfl ?_
 | refine WC_ret ?_)
        exact fin_bool (.inr rfl) rfl rfl
  · by_cases hf' : p.cs.length ≤ 50 ∧ p.rs.length ≤ 50
    · rw [decide_eq_true hf'] at hFew
      repeat' (first
 | (refine I_WS ?_; first
 | refine W_lenM rfl rfl rfl ?_
 | (refine I_mov ?_; first
 | refine W_skip rfl ?_
 | refine W_mov (v := .int _ _) rfl rfl rfl ?_
 | refine W_mov (v := .bool _) rfl rfl rfl ?_
 | refine W_mov (v := .slice _ _ _) rfl rfl rfl ?_)
 | (refine I_bin ?_; first
 | refine W_skip rfl ?_
 | (refine W_lss rfl rfl rfl rfl ?_ ?_ <;> intro _)
 | refine W_gtrT rfl rfl rfl rfl (by omega) ?_
 | (refine W_gtr rfl rfl rfl rfl ?_ ?_ <;> intro _))
 | (refine I_load ?_; first
 | refine W_load (agg := true) (d := .agg [_, _, _, _]) rfl rfl rfl rfl (by first | exact Nat.zero_le _ | omega) rfl ?_)
 | (refine I_call ?_; first
 | refine W_call rfl rfl rfl s_small rfl rfl ?_
 | refine W_call rfl rfl rfl hFew rfl rfl ?_)
 | (refine I_pick ?_; first
 | refine W_pick (v := .bool _) rfl rfl rfl rfl ?_)
 | (refine I_box ?_; first
 | refine W_boxA rfl rfl rfl rfl rfl ?_)
 | refine W_not rfl rfl rfl ?_
 | refine W_skip rfl ?_
 | refine WS_nil ?_)
 | refine WC_seq ?_
 | refine WC_opsS ?_
 | refine WC_condT rfl ?_
 | refine WC_ret ?_)
      all_goals first | exact fin_bool (.inr rfl) rfl rfl | (exfalso; omega)
    · rw [decide_eq_false hf'] at hFew
      repeat' (first
 | (refine I_WS ?_; first
 | (refine I_mov ?_; first
 | refine W_skip rfl ?_
 | refine W_mov (v := .bool _) rfl rfl rfl ?_)
 | (refine I_bin ?_; first
 | refine W_skip rfl ?_)
 | (refine I_load ?_; first
 | refine W_load (agg := true) (d := .agg [_, _, _, _]) rfl rfl rfl rfl (by first | exact Nat.zero_le _ | omega) rfl ?_)
 | (refine I_call ?_; first
 | refine W_call rfl rfl rfl s_small rfl rfl ?_
 | refine W_call rfl rfl rfl hFew rfl rfl ?_)
 | (refine I_pick ?_; first
 | refine W_pick (v := .bool _) rfl rfl rfl rfl ?_)
 | (refine I_box ?_; first
 | refine W_boxA rfl rfl rfl rfl rfl ?_)
 | refine W_not rfl rfl rfl ?_
 | refine W_skip rfl ?_
 | refine WS_nil ?_)
 | refine WC_seq ?_
 | refine WC_opsS ?_
 | refine WC_condT rfl ?_
 | refine WC_ret ?_)
      all_goals first | exact fin_bool (.inr rfl) rfl rfl
end Go.Vit
