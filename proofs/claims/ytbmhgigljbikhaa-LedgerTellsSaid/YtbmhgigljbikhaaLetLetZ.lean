/-
  What the ledger's functions come to: a ledger where so much is booked on a contact.
-/
import Derived.Test.YtbmhgigljbikhaaLetLedU
import Derived.Test.YtbmhgigljbikhaaEvEvX10
set_option linter.unusedVariables false
set_option linter.unusedSimpArgs false
set_option linter.unnecessarySimpa false

namespace Go.Let
open Go.Ev
set_option linter.unusedVariables false
set_option linter.unusedSimpArgs false
theorem Bk.e_elem (b : Bk) : Elem 4 b.e ∧ mkD b.e.cells = b.e := ⟨⟨rfl, rfl⟩, rfl⟩
theorem elems {l : List Bk} : ∀ d ∈ l.map Bk.e, Elem 4 d := fun d hd => by
  obtain ⟨b, _, rfl⟩ := List.mem_map.mp hd
  exact b.e_elem.1
theorem elems' {l : List Bk} : ∀ d ∈ l.map Bk.e, d.cells.length = 4 ∧ mkD d.cells = d := fun d hd => by
  obtain ⟨b, _, rfl⟩ := List.mem_map.mp hd
  exact ⟨rfl, rfl⟩
theorem s_Grow (n : Nat) (h0 : 0 < n) (hn : n ≤ 1099511627776) : EvP Γ 73 [.slice .isnil 0 [], .int .i64 n] (.slice .row 4 ([] : List D)) := by
  refine EvP_code rfl rfl ?_
  repeat' (first
 | (refine I_WS ?_; first
 | refine W_capNil rfl rfl rfl ?_
 | refine W_q (d := .slice .isnil 4 []) rfl rfl rfl rfl ?_
 | refine W_appendZ (m := n) rfl rfl rfl h0 (by omega) ?_
 | refine W_sliceRHi (j := 0) rfl rfl rfl (by omega) rfl ?_
 | (refine I_mov ?_; first
 | refine W_mov (v := .int _ _) rfl rfl rfl ?_
 | refine W_mov (v := .slice _ _ _) rfl rfl rfl ?_
 | refine W_mov (v := .rs _ _ _ _ _) rfl rfl rfl ?_)
 | (refine I_bin ?_; first
 | refine W_lssF rfl rfl rfl rfl (by omega) ?_
 | refine W_gtrT rfl rfl rfl rfl (by omega) ?_
 | refine W_sub rfl rfl rfl rfl (by first | exact w64 (by omega) | rfl) ?_)
 | refine W_lenS rfl rfl rfl ?_
 | refine WS_nil ?_)
 | refine WC_seq ?_
 | refine WC_opsS ?_
 | refine WC_skip ?_
 | refine WC_condT rfl ?_
 | refine WC_condF rfl ?_
 | refine WC_ret ?_)
  refine fin_row (by simp) rfl rfl (by decide) ⟨Nat.zero_le _, Nat.lt_succ_self _, _, rfl, ?_, ?_, ?_⟩ (by simp)
  · simp
  · simp
  · simp [List.all_eq_true, D.plain]
theorem s_Grow0 : EvP Γ 73 [.slice .isnil 0 [], .int .i64 (0 : Nat)] (.slice .isnil 0 ([] : List D)) := by
  refine EvP_code rfl rfl ?_
  repeat' (first
 | (refine I_WS ?_; first
 | refine W_capNil rfl rfl rfl ?_
 | (refine I_mov ?_; first
 | refine W_mov (v := .int _ _) rfl rfl rfl ?_
 | refine W_mov (v := .slice _ _ _) rfl rfl rfl ?_)
 | (refine I_bin ?_; first
 | refine W_lssF rfl rfl rfl rfl (by omega) ?_
 | refine W_gtrF rfl rfl rfl rfl (by omega) ?_
 | refine W_sub rfl rfl rfl rfl (by first | exact w64 (by omega) | rfl) ?_)
 | refine W_lenS rfl rfl rfl ?_
 | refine WS_nil ?_)
 | refine WC_seq ?_
 | refine WC_opsS ?_
 | refine WC_skip ?_
 | refine WC_condF rfl ?_
 | refine WC_ret ?_)
  exact ⟨by simp, rfl⟩
/-- A slice of the ledger's rows, in a slice. -/
def E (x : Tok × Nat × List Bk) : D := .slice x.1 x.2.1 (x.2.2.map Bk.e)
def tot (xs : List (Tok × Nat × List Bk)) : Nat := (xs.flatMap (·.2.2)).length
theorem tot_app (a b : List (Tok × Nat × List Bk)) : tot (a ++ b) = tot a + tot b := by simp [tot]
theorem tot_one (x : Tok × Nat × List Bk) : tot [x] = x.2.2.length := by simp [tot]
theorem at_mid {α : Type} {xs pre post : List α} {x : α} (h : xs = pre ++ x :: post) : xs[pre.length]? = some x := by simp [h]
theorem l_cc0 (xs : List (Tok × Nat × List Bk)) (ht : tot xs ≤ 1099511627776) (hx : xs.length ≤ 1099511627776) (t : Tok) : ∀ (post pre : List (Tok × Nat × List Bk)), xs = pre ++ post →
    ∀ (ρ : Nat → D) (v0 : D) (h0 : ρ 0 = v0) (h9 : ρ 9 = .slice t 1 (xs.map E)) (h10 : ρ 10 = .int .i64 xs.length) (h11 : ρ 11 = .int .i64 pre.length) (h3 : ρ 3 = .int .i64 (tot pre)) (Q : X → (Nat → D) → Store → Prop),
    (∀ ρ', ρ' 0 = v0 → ρ' 3 = .int .i64 (tot xs) → Q (.exit 0) ρ' Store.empty) → WC Γ (.loop c_slices_Concat_Booked_l0) ρ Store.empty Q := by
  intro post
  induction post with
  | nil =>
    intro pre hp ρ v0 h0 h9 h10 h11 h3 Q hQ
    rw [List.append_nil] at hp
    subst hp
    rw [← upd_self h0, ← upd_self h3, ← upd_self h9, ← upd_self h10, ← upd_self h11]
    refine WC_loop ?_
    repeat' (first
 | (refine I_WS ?_; first
 | (refine I_bin ?_; first
 | refine W_lssF rfl rfl rfl rfl (by omega) ?_)
 | refine WS_nil ?_)
 | refine WC_seq ?_
 | refine WC_opsS ?_
 | refine WC_condF rfl ?_
 | refine WC_exit ?_)
    exact hQ _ rfl rfl
  | cons x post ih =>
    intro pre hp ρ v0 h0 h9 h10 h11 h3 Q hQ
    have hv := at_mid hp
    have hlen : xs.length = pre.length + (post.length + 1) := by rw [hp]; simp
    have htx : tot xs = tot pre + (x.2.2.length + tot post) := by rw [hp, tot_app, show x :: post = [x] ++ post from rfl, tot_app, tot_one]
    rw [← upd_self h0, ← upd_self h3, ← upd_self h9, ← upd_self h10, ← upd_self h11]
    refine WC_loop ?_
    repeat' (first
 | (refine I_WS ?_; first
 | (refine I_mov ?_; first
 | refine W_mov (v := .int _ _) rfl rfl rfl ?_
 | refine W_mov (v := .slice _ _ _) rfl rfl rfl ?_)
 | (refine I_bin ?_; first
 | refine W_lssT rfl rfl rfl rfl (by omega) ?_
 | refine W_lssF rfl rfl rfl rfl (by omega) ?_
 | refine W_add rfl rfl rfl rfl (by first | exact w64 (by omega) | rfl) ?_)
 | (refine I_load ?_; first
 | refine W_loadE (agg := false) (d := .slice _ _ _) rfl rfl rfl hv rfl ?_)
 | refine W_lenM rfl rfl rfl ?_
 | refine W_iaddr rfl rfl rfl rfl (by first | rfl | exact sz_of (by assumption) (by omega)) (by first | decide | (simp only [List.length_map]; omega)) ?_
 | refine WS_nil ?_)
 | refine WC_seq ?_
 | refine WC_opsS ?_
 | refine WC_skip ?_
 | refine WC_condT rfl ?_
 | refine WC_condF rfl ?_
 | refine WC_block ?_)
    refine ih (pre ++ [x]) (by simp [hp]) _ v0 rfl rfl rfl (by rw [List.length_append]; rfl) (by rw [tot_app, tot_one]; rfl) Q hQ
theorem l_cc1 (xs : List (Tok × Nat × List Bk)) (ht : tot xs ≤ 1099511627776) (hx : xs.length ≤ 1099511627776) (hE : ∀ x ∈ xs, x.2.1 = 4 ∨ x.2.2 = []) (t : Tok) : ∀ (post pre : List (Tok × Nat × List Bk)), xs = pre ++ post →
    ∀ (ρ : Nat → D) (st : Store) (p c : Nat) (h25 : ρ 25 = .slice t 1 (xs.map E)) (h26 : ρ 26 = .int .i64 xs.length) (h27 : ρ 27 = .int .i64 pre.length) (h6 : ρ 6 = .rs p 0 4 (tot pre) c) (hR : RowIs st p 4 ((pre.flatMap (·.2.2)).map Bk.e)) (Q : X → (Nat → D) → Store → Prop),
    (∀ ρ' st' p' c', ρ' 6 = .rs p' 0 4 (tot xs) c' → RowIs st' p' 4 ((xs.flatMap (·.2.2)).map Bk.e) → Q (.exit 2) ρ' st') → WC Γ (.loop c_slices_Concat_Booked_l1) ρ st Q := by
  intro post
  induction post with
  | nil =>
    intro pre hp ρ st p c h25 h26 h27 h6 hR Q hQ
    rw [List.append_nil] at hp
    subst hp
    rw [← upd_self h6, ← upd_self h25, ← upd_self h26, ← upd_self h27]
    refine WC_loop ?_
    repeat' (first
 | (refine I_WS ?_; first
 | (refine I_bin ?_; first
 | refine W_lssF rfl rfl rfl rfl (by omega) ?_)
 | refine WS_nil ?_)
 | refine WC_seq ?_
 | refine WC_opsS ?_
 | refine WC_condF rfl ?_
 | refine WC_exit ?_)
    exact hQ _ _ _ _ rfl hR
  | cons x post ih =>
    intro pre hp ρ st p c h25 h26 h27 h6 hR Q hQ
    have hv := at_mid hp
    have hlen : xs.length = pre.length + (post.length + 1) := by rw [hp]; simp
    have htx : tot xs = tot pre + (x.2.2.length + tot post) := by rw [hp, tot_app, show x :: post = [x] ++ post from rfl, tot_app, tot_one]
    have hEx := hE x (by rw [hp]; simp)
    rw [← upd_self h6, ← upd_self h25, ← upd_self h26, ← upd_self h27]
    refine WC_loop ?_
    repeat' (first
 | (refine I_WS ?_; first
 | (refine W_appRow rfl rfl rfl hR (by simp [tot]) (by simpa using hEx) (fun d hd => (elems d hd).1) elems (by rw [List.length_map]; omega) ?_ <;> intro p' c' st' _ _ _ _ hR' _ _ _)
 | (refine I_mov ?_; first
 | refine W_mov (v := .int _ _) rfl rfl rfl ?_
 | refine W_mov (v := .slice _ _ _) rfl rfl rfl ?_
 | refine W_mov (v := .rs _ _ _ _ _) rfl rfl rfl ?_)
 | (refine I_bin ?_; first
 | refine W_lssT rfl rfl rfl rfl (by omega) ?_
 | refine W_add rfl rfl rfl rfl (by first | exact w64 (by omega) | rfl) ?_)
 | (refine I_load ?_; first
 | refine W_loadE (agg := false) (d := .slice _ _ _) rfl rfl rfl hv rfl ?_)
 | refine W_iaddr rfl rfl rfl rfl (by first | rfl | exact sz_of (by assumption) (by omega)) (by first | decide | (simp only [List.length_map]; omega)) ?_
 | refine WS_nil ?_)
 | refine WC_seq ?_
 | refine WC_opsS ?_
 | refine WC_skip ?_
 | refine WC_condT rfl ?_
 | refine WC_block ?_)
    refine ih (pre ++ [x]) (by simp [hp]) _ _ _ _ rfl rfl (by rw [List.length_append]; rfl) (by rw [tot_app, tot_one, ← List.length_map (f := Bk.e)]; rfl) (by simpa using hR') Q hQ
theorem l_cc1n (xs : List (Tok × Nat × List Bk)) (ht : tot xs = 0) (hx : xs.length ≤ 1099511627776) (t : Tok) : ∀ (post pre : List (Tok × Nat × List Bk)), xs = pre ++ post →
    ∀ (ρ : Nat → D) (st : Store) (h25 : ρ 25 = .slice t 1 (xs.map E)) (h26 : ρ 26 = .int .i64 xs.length) (h27 : ρ 27 = .int .i64 pre.length) (h6 : ρ 6 = .slice .isnil 0 []) (Q : X → (Nat → D) → Store → Prop),
    (∀ ρ' st', ρ' 6 = .slice .isnil 0 [] → Q (.exit 2) ρ' st') → WC Γ (.loop c_slices_Concat_Booked_l1) ρ st Q := by
  intro post
  induction post with
  | nil =>
    intro pre hp ρ st h25 h26 h27 h6 Q hQ
    rw [List.append_nil] at hp
    subst hp
    rw [← upd_self h6, ← upd_self h25, ← upd_self h26, ← upd_self h27]
    refine WC_loop ?_
    repeat' (first
 | (refine I_WS ?_; first
 | (refine I_bin ?_; first
 | refine W_lssF rfl rfl rfl rfl (by omega) ?_)
 | refine WS_nil ?_)
 | refine WC_seq ?_
 | refine WC_opsS ?_
 | refine WC_condF rfl ?_
 | refine WC_exit ?_)
    exact hQ _ _ rfl
  | cons x post ih =>
    intro pre hp ρ st h25 h26 h27 h6 Q hQ
    have hv := at_mid hp
    have hlen : xs.length = pre.length + (post.length + 1) := by rw [hp]; simp
    have htx : tot xs = tot pre + (x.2.2.length + tot post) := by rw [hp, tot_app, show x :: post = [x] ++ post from rfl, tot_app, tot_one]
    obtain ⟨xt, xz, xl⟩ := x
    have hxl : xl = [] := List.eq_nil_of_length_eq_zero (by simp only at htx; omega)
    subst hxl
    rw [← upd_self h6, ← upd_self h25, ← upd_self h26, ← upd_self h27]
    refine WC_loop ?_
    repeat' (first
 | (refine I_WS ?_; first
 | refine W_appNone rfl rfl rfl rfl ?_
 | (refine I_mov ?_; first
 | refine W_mov (v := .int _ _) rfl rfl rfl ?_
 | refine W_mov (v := .slice _ _ _) rfl rfl rfl ?_)
 | (refine I_bin ?_; first
 | refine W_lssT rfl rfl rfl rfl (by omega) ?_
 | refine W_add rfl rfl rfl rfl (by first | exact w64 (by omega) | rfl) ?_)
 | (refine I_load ?_; first
 | refine W_loadE (agg := false) (d := .slice _ _ []) rfl rfl rfl hv rfl ?_)
 | refine W_iaddr rfl rfl rfl rfl (by first | rfl | exact sz_of (by assumption) (by omega)) (by first | decide | (simp only [List.length_map]; omega)) ?_
 | refine WS_nil ?_)
 | refine WC_seq ?_
 | refine WC_opsS ?_
 | refine WC_skip ?_
 | refine WC_condT rfl ?_
 | refine WC_block ?_)
    refine ih (pre ++ [(xt, xz, [])]) (by simp [hp]) _ _ rfl rfl (by rw [List.length_append]; rfl) rfl Q hQ
theorem s_Concat (xs : List (Tok × Nat × List Bk)) (ht : tot xs ≤ 1099511627776) (hx : xs.length ≤ 1099511627776) (hE : ∀ x ∈ xs, x.2.1 = 4 ∨ x.2.2 = []) (t : Tok) : EvX Γ 65 [.slice t 1 (xs.map E)] (IsR Bk.e 4 (xs.flatMap (·.2.2))) := by
  refine EvX_code rfl rfl ?_
  repeat' (first
 | (refine I_WS ?_; first
 | (refine I_mov ?_; first
 | refine W_mov (v := .int _ _) rfl rfl rfl ?_
 | refine W_mov (v := .slice _ _ _) rfl rfl rfl ?_)
 | refine W_lenM rfl rfl rfl ?_
 | refine WS_nil ?_)
 | refine WC_seq ?_
 | refine WC_opsS ?_
 | refine WC_block ?_)
  refine l_cc0 xs ht hx t xs [] rfl _ _ rfl rfl rfl rfl rfl _ ?_
  intro ρ h0 h3
  rw [← upd_self h0, ← upd_self h3]
  by_cases hz : tot xs = 0
  · rw [hz]
    repeat' (first
 | (refine I_WS ?_; first
 | (refine I_mov ?_; first
 | refine W_mov (v := .int _ _) rfl rfl rfl ?_
 | refine W_mov (v := .slice _ _ _) rfl rfl rfl ?_)
 | (refine I_call ?_; first
 | refine W_callM0 rfl rfl rfl s_Grow0 rfl ?_)
 | refine W_lenM rfl rfl rfl ?_
 | refine WS_nil ?_)
 | refine WC_seq ?_
 | refine WC_opsS ?_
 | refine WC_block ?_)
    refine l_cc1n xs hz hx t xs [] rfl _ _ rfl rfl rfl rfl _ ?_
    intro ρ1 st1 h6
    rw [← upd_self h6]
    repeat' (first
 | (refine I_WS ?_; first
 | (refine I_mov ?_; first
 | refine W_mov (v := .slice _ _ _) rfl rfl rfl ?_)
 | refine WS_nil ?_)
 | refine WC_seq ?_
 | refine WC_opsS ?_
 | refine WC_ret ?_)
    have hnil : xs.flatMap (·.2.2) = [] := List.eq_nil_of_length_eq_zero hz
    rw [hnil]
    exact ⟨by simp, _, rfl, .inl ⟨rfl, .isnil, 0, rfl, .inl rfl⟩⟩
  · repeat' (first
 | (refine I_WS ?_; first
 | (refine I_mov ?_; first
 | refine W_mov (v := .int _ _) rfl rfl rfl ?_
 | refine W_mov (v := .slice _ _ _) rfl rfl rfl ?_
 | refine W_mov (v := .rs _ _ _ _ _) rfl rfl rfl ?_)
 | (refine I_call ?_; first
 | (refine W_callRowM rfl rfl rfl (s_Grow _ (by omega) (by omega)) rfl rfl (by simp) (by simp [Store.empty]) ?_ <;> intro st' _ _ _ _ hR _ _))
 | refine W_lenM rfl rfl rfl ?_
 | refine WS_nil ?_)
 | refine WC_seq ?_
 | refine WC_opsS ?_
 | refine WC_block ?_)
    refine l_cc1 xs ht hx hE t xs [] rfl _ _ _ 0 rfl rfl rfl rfl hR _ ?_
    intro ρ1 st1 p1 c1 h6 hR1
    rw [← upd_self h6]
    repeat' (first
 | (refine I_WS ?_; first
 | (refine I_mov ?_; first
 | refine W_mov (v := .rs _ _ _ _ _) rfl rfl rfl ?_)
 | refine WS_nil ?_)
 | refine WC_seq ?_
 | refine WC_opsS ?_
 | refine WC_ret ?_)
    exact ⟨by simp, finR rfl (.inr ⟨_, _, _, rfl, rfl, hR1⟩) (by decide) (fun b => ⟨rfl, rfl⟩) rfl⟩
end Go.Let

/-
  What the ledger's functions come to: booking and releasing.
-/
namespace Go.Let
open Go.Ev
set_option linter.unusedVariables false
set_option linter.unusedSimpArgs false
theorem elemB (b : Bk) : Elem 4 b.e := ⟨rfl, rfl⟩
theorem elemC (b : Bk) : b.e.cells.length = 4 ∧ mkD b.e.cells = b.e := ⟨rfl, rfl⟩
/-- The rows behind that of a contact. -/
def behind (l : List Bk) (id : Int) : List Bk := if fnd l id then (l.drop (upos l id)).drop 1 else l.drop (upos l id)
/-- A ledger where so much is booked on a contact. -/
def withM (l : List Bk) (id u0 u1 u2 : Int) : List Bk := if u0 = 0 ∧ u1 = 0 ∧ u2 = 0 then l.take (upos l id) ++ behind l id else l.take (upos l id) ++ (⟨id, u0, u1, u2⟩ :: behind l id)
theorem behind_le (l : List Bk) (id : Int) : (behind l id).length ≤ l.length := by unfold behind; split <;> simp <;> omega
set_option maxHeartbeats 2000000 in
theorem s_with (l : List Bk) (id u0 u1 u2 : Int) (hs : Srt l) (hl : l.length ≤ 1073741824) (t : Tok) (sz : Nat) (hsz : sz = 4 ∨ l = []) :
    EvX Γ 51 [.slice t sz (l.map Bk.e), .int .i64 id, .agg [.int .i64 u0, .int .i64 u1, .int .i64 u2]] (IsR Bk.e 4 (withM l id u0 u1 u2)) := by
  refine EvX_code rfl rfl ?_
  have ha := s_at l id hs (by omega)
  have hu := upos_le l id
  have hb : behind l id = if fnd l id then (l.drop (upos l id)).drop 1 else l.drop (upos l id) := rfl
  have hbl := behind_le l id
  have c2 : ∀ (t1 t2 t : Tok) (s1 s2 : Nat) (h1 : s1 = 4) (h2 : s2 = 4), EvX Γ 65 [.slice t 1 [.slice t1 s1 ((l.take (upos l id)).map Bk.e), .slice t2 s2 ((behind l id).map Bk.e)]] (IsR Bk.e 4 (l.take (upos l id) ++ behind l id)) := fun t1 t2 t s1 s2 h1 h2 => by
    have := s_Concat [(t1, s1, l.take (upos l id)), (t2, s2, behind l id)] (by simp [tot]; omega) (by simp) (by simp [h1, h2]) t
    simpa [E] using this
  have c3 : ∀ (t1 t2 t3 t : Tok) (s1 s2 s3 : Nat) (h1 : s1 = 4) (h2 : s2 = 4) (h3 : s3 = 4), EvX Γ 65 [.slice t 1 [.slice t1 s1 ((l.take (upos l id)).map Bk.e), .slice t2 s2 [.agg [.int .i64 id, .int .i64 u0, .int .i64 u1, .int .i64 u2]], .slice t3 s3 ((behind l id).map Bk.e)]] (IsR Bk.e 4 (l.take (upos l id) ++ (⟨id, u0, u1, u2⟩ :: behind l id))) := fun t1 t2 t3 t s1 s2 s3 h1 h2 h3 => by
    have := s_Concat [(t1, s1, l.take (upos l id)), (t2, s2, [⟨id, u0, u1, u2⟩]), (t3, s3, behind l id)] (by simp [tot]; omega) (by simp) (by simp [h1, h2, h3]) t
    simpa [E, Bk.e] using this
  unfold withM
  have hfu : fnd l id = true → upos l id < l.length := fun hf => by
    unfold fnd at hf
    split at hf
    · rename_i b hb
      exact (List.getElem?_eq_some_iff.mp hb).1
    · cases hf
  generalize behind l id = bh at *
  by_cases hz : u0 = 0 ∧ u1 = 0 ∧ u2 = 0
  all_goals
    cases hf : fnd l id
    all_goals
      rw [hf] at ha hb
      simp only [if_true, if_false, Bool.false_eq_true] at hb
      subst hb
      try have hf' := hfu hf
      repeat' (first
 | (refine I_WS ?_; first
 | refine W_mov (v := d1) rfl rfl rfl ?_
 | (refine I_mov ?_; first
 | refine W_mov (v := .int _ _) rfl rfl rfl ?_
 | refine W_mov (v := .bool _) rfl rfl rfl ?_
 | refine W_mov (v := .slice _ _ _) rfl rfl rfl ?_
 | refine W_mov (v := .tuple _) rfl rfl rfl ?_)
 | (refine I_load ?_; first
 | refine W_load (agg := true) (d := .agg [_, _, _]) rfl rfl rfl rfl (by first | exact Nat.zero_le _ | omega) rfl ?_)
 | (refine I_call ?_; first
 | refine W_call rfl rfl rfl (ha _ _ hsz) rfl rfl ?_
 | (refine W_callR rfl rfl rfl (c2 _ _ _ _ _ rfl rfl) rfl rfl elemB (Nat.zero_le _) ?_ <;> intro st1 d1 _ _ _ _ hP _ _)
 | (refine W_callRd rfl rfl rfl (c3 _ _ _ _ _ _ _ rfl rfl rfl) rfl rfl elemB (Nat.zero_le _) ?_ <;> intro st1 d1 fl1 hfl1 _ _ _ _ hP _ _))
 | (refine I_extract ?_; first
 | refine W_extract (d := .int _ _) rfl rfl rfl rfl ?_
 | refine W_extract (d := .bool _) rfl rfl rfl rfl ?_)
 | (refine I_build ?_; first
 | refine W_build (cs := [_, _, _]) rfl rfl rfl ?_
 | refine W_build (cs := [_, _, _, _]) rfl rfl rfl ?_)
 | (refine I_box ?_; first
 | refine W_boxA rfl rfl rfl rfl rfl ?_)
 | (refine W_eqlP rfl rfl rfl rfl rfl rfl (eqAt3 _ _ _ _ _ _) ?_ ?_ <;> intro hq)
 | refine W_bsliceS (ds := [.slice _ _ _, .slice _ _ _]) (ys := [.slice _ _ _, .slice _ _ _]) rfl rfl rfl rfl (by decide) rfl ?_
 | refine W_bsliceS (ds := [.slice _ _ _, .slice _ _ _, .slice _ _ _]) (ys := [.slice _ _ _, .slice _ _ _, .slice _ _ _]) rfl rfl rfl rfl (by decide) rfl ?_
 | refine W_bslice (ys := [_]) rfl rfl rfl (by decide) rfl ?_
 | (refine W_sliceLoN rfl rfl (by first | exact .inl rfl | assumption) rfl (by first | omega | (simp; omega)) rfl ?_ <;> intro _)
 | (refine W_sliceHiN rfl rfl (by first | exact .inl rfl | assumption) rfl (by first | omega | (simp; omega)) rfl ?_ <;> intro _)
 | refine WS_nil ?_)
 | refine okF_intro (by rcases hfl1 with rfl | rfl <;> rfl) ?_
 | refine WC_seq ?_
 | refine WC_opsS ?_
 | refine WC_drawS ?_
 | refine WC_skip ?_
 | refine WC_condT rfl ?_
 | refine WC_condF rfl ?_
 | refine WC_ret ?_)
  all_goals
    first
    | (rw [decide_eq_true_eq] at hq; exact absurd hq hz)
    | (rw [decide_eq_false_iff_not] at hq; exact absurd hz hq)
    | exact ⟨by simp, finR rfl hP (by decide) elemC (by rw [if_pos hz])⟩
    | exact ⟨by simp, finR rfl hP (by decide) elemC (by rw [if_neg hz])⟩
end Go.Let

/-
  What the ledger's functions come to: what is right, what is the same, booking, releasing.
-/
namespace Go.Let
open Go.Ev
set_option linter.unusedVariables false
set_option linter.unusedSimpArgs false
theorem s_CloneR (l : List Bk) (hl : l.length ≤ 1073741824) (t : Tok) (sz : Nat) (hsz : sz = 4 ∨ l = []) : EvX Γ 50 [.slice t sz (l.map Bk.e)] (IsR Bk.e 4 l) :=
  clone_R rfl l hsz (by omega) (fun b => ⟨b.e_elem.1, rfl⟩)
theorem s_Clone (l : List Bk) (hl : l.length ≤ 1073741824) (t : Tok) (sz : Nat) (hsz : sz = 4 ∨ l = []) : EvX Γ 50 [.slice t sz (l.map Bk.e)] (IsN Bk.e 4 l) :=
  clone_N rfl l hsz (by omega) (fun b => ⟨b.e_elem.1, rfl⟩)
theorem Bk.ext' {a b : Bk} : (a.id = b.id ∧ a.u0 = b.u0 ∧ a.u1 = b.u1 ∧ a.u2 = b.u2) ↔ a = b := by
  obtain ⟨a, e, c, d⟩ := a
  obtain ⟨x, y, z, w⟩ := b
  simp
theorem l_eq (a b : List Bk) (hl : a.length ≤ 1073741824) (hab : a.length = b.length) (t t' : Tok) (sa sb : Nat) (ha : sa = 4 ∨ a = []) (hb : sb = 4 ∨ b = []) : ∀ (m i : Nat), a.length - i = m → i ≤ a.length → a.take i = b.take i →
    ∀ (ρ : Nat → D) (h0 : ρ 0 = .slice t sa (a.map Bk.e)) (h1 : ρ 1 = .slice t' sb (b.map Bk.e)) (h12 : ρ 12 = .int .i64 a.length) (h13 : ρ 13 = .int .i64 i) (Q : X → (Nat → D) → Store → Prop),
    (a = b → ∀ ρ', Q (.exit 0) ρ' Store.empty) → (a ≠ b → ∀ ρ', ρ' 4 = .bool false → Q .ret ρ' Store.empty) → WC Γ (.loop c_slices_Equal_Booked_l0) ρ Store.empty Q := by
  intro m
  induction m with
  | zero =>
    intro i hm hi he ρ h0 h1 h12 h13 Q hQ hQ2
    rw [← upd_self h0, ← upd_self h1, ← upd_self h12, ← upd_self h13]
    refine WC_loop ?_
    repeat' (first
 | (refine I_WS ?_; first
 | (refine I_bin ?_; first
 | refine W_lssF rfl rfl rfl rfl (by omega) ?_)
 | refine WS_nil ?_)
 | refine WC_seq ?_
 | refine WC_opsS ?_
 | refine WC_condF rfl ?_
 | refine WC_exit ?_)
    refine hQ ?_ _
    rw [List.take_of_length_le (by omega), List.take_of_length_le (by omega)] at he
    exact he
  | succ m ih =>
    intro i hm hi he ρ h0 h1 h12 h13 Q hQ hQ2
    rw [← upd_self h0, ← upd_self h1, ← upd_self h12, ← upd_self h13]
    obtain ⟨x, hx⟩ : ∃ v, a[i]? = some v := ⟨_, List.getElem?_eq_getElem (by omega)⟩
    obtain ⟨y, hy⟩ : ∃ v, b[i]? = some v := ⟨_, List.getElem?_eq_getElem (by omega)⟩
    refine WC_loop ?_
    repeat' (first
 | (refine I_WS ?_; first
 | (refine I_mov ?_; first
 | refine W_mov (v := .int _ _) rfl rfl rfl ?_
 | refine W_mov (v := .bool _) rfl rfl rfl ?_
 | refine W_mov (v := .slice _ _ _) rfl rfl rfl ?_)
 | (refine I_bin ?_; first
 | refine W_lssT rfl rfl rfl rfl (by omega) ?_
 | refine W_add rfl rfl rfl rfl (by first | exact w64 (by omega) | rfl) ?_)
 | (refine I_load ?_; first
 | refine W_loadE (agg := true) (d := .agg [_, _, _, _]) rfl rfl rfl hx rfl ?_
 | refine W_loadE (agg := true) (d := .agg [_, _, _, _]) rfl rfl rfl hy rfl ?_)
 | (refine W_neqP rfl rfl rfl rfl rfl rfl (eqAt4 _ _ _ _ _ _ _ _) ?_ ?_ <;> intro hq)
 | refine W_iaddr rfl rfl rfl rfl (by first | rfl | exact sz_of (by assumption) (by omega)) (by first | decide | (simp only [List.length_map]; omega)) ?_
 | refine WS_nil ?_)
 | refine WC_seq ?_
 | refine WC_opsS ?_
 | refine WC_drawS ?_
 | refine WC_skip ?_
 | refine WC_condT rfl ?_
 | refine WC_condF rfl ?_
 | refine WC_block ?_
 | refine WC_ret ?_
 | refine okF_intro rfl ?_)
    · refine ih (i + 1) (by omega) (by omega) ?_ _ rfl rfl rfl rfl Q hQ hQ2
      rw [decide_eq_true_eq, Bk.ext'] at hq
      rw [List.take_add_one, List.take_add_one, he, hx, hy, hq]
    · refine hQ2 (fun hab => ?_) _ rfl
      rw [decide_eq_false_iff_not, Bk.ext'] at hq
      subst hab
      rw [hx] at hy
      exact hq (by cases hy; rfl)
theorem s_Equal (a b : List Bk) (hl : a.length ≤ 1073741824) (t t' : Tok) (sa sb : Nat) (ha : sa = 4 ∨ a = []) (hb : sb = 4 ∨ b = []) : EvP Γ 48 [.slice t sa (a.map Bk.e), .slice t' sb (b.map Bk.e)] (.bool (decide (a = b))) := by
  refine EvP_code rfl rfl ?_
  by_cases hab : a.length = b.length
  · repeat' (first
 | (refine I_WS ?_; first
 | (refine I_mov ?_; first
 | refine W_mov (v := .int _ _) rfl rfl rfl ?_
 | refine W_mov (v := .bool _) rfl rfl rfl ?_
 | refine W_mov (v := .slice _ _ _) rfl rfl rfl ?_)
 | (refine I_bin ?_; first
 | refine W_neqF rfl rfl rfl rfl (by omega) ?_)
 | refine W_lenM rfl rfl rfl ?_
 | refine WS_nil ?_)
 | refine WC_seq ?_
 | refine WC_opsS ?_
 | refine WC_skip ?_
 | refine WC_condF rfl ?_
 | refine WC_block ?_)
    refine l_eq a b hl hab t t' sa sb ha hb a.length 0 rfl (by omega) rfl _ rfl rfl rfl rfl _ (fun he ρ => ?_) (fun he ρ h4 => ?_)
    · repeat' (first
 | (refine I_WS ?_; first
 | (refine I_mov ?_; first
 | refine W_mov (v := .bool _) rfl rfl rfl ?_)
 | refine WS_nil ?_)
 | refine WC_seq ?_
 | refine WC_opsS ?_
 | refine WC_ret ?_)
      exact fin_bool (by simp) rfl (by simp [he])
    · rw [← upd_self h4]
      exact fin_bool (by simp) rfl (by simp [he])
  · repeat' (first
 | (refine I_WS ?_; first
 | (refine I_mov ?_; first
 | refine W_mov (v := .bool _) rfl rfl rfl ?_
 | refine W_mov (v := .slice _ _ _) rfl rfl rfl ?_)
 | (refine I_bin ?_; first
 | refine W_neqT rfl rfl rfl rfl (by omega) ?_)
 | refine W_lenM rfl rfl rfl ?_
 | refine WS_nil ?_)
 | refine WC_seq ?_
 | refine WC_opsS ?_
 | refine WC_condT rfl ?_
 | refine WC_ret ?_)
    exact fin_bool (by simp) rfl (by simp; intro he; exact hab (by rw [he]))
theorem s_Same (a b : List Bk) (hl : a.length ≤ 1073741824) (t t' : Tok) (sa sb : Nat) (ha : sa = 4 ∨ a = []) (hb : sb = 4 ∨ b = []) : EvP Γ 27 [.slice t sa (a.map Bk.e), .slice t' sb (b.map Bk.e)] (.bool (decide (a = b))) := by
  refine EvP_code rfl rfl ?_
  repeat' (first
 | (refine I_WS ?_; first
 | (refine I_mov ?_; first
 | refine W_mov (v := .bool _) rfl rfl rfl ?_
 | refine W_mov (v := .slice _ _ _) rfl rfl rfl ?_)
 | (refine I_call ?_; first
 | refine W_callB rfl rfl rfl (s_Equal a b hl _ _ _ _ ha hb) rfl ?_ ?_ <;> intro _)
 | refine WS_nil ?_)
 | refine WC_seq ?_
 | refine WC_opsS ?_
 | refine WC_ret ?_)
  all_goals (refine fin_bool (by simp) rfl ?_; first | (simp_all; done) | (simp_all; omega) | (simp only [eq_comm (a := true), eq_comm (a := false), decide_eq_true_eq, decide_eq_false_iff_not] at *; omega) | grind)
end Go.Let

/-
  What the ledger's functions come to: what is right.
-/
namespace Go.Let
open Go.Ev
set_option linter.unusedVariables false
set_option linter.unusedSimpArgs false
instance (b : Bk) : Decidable b.U := by unfold Bk.U; infer_instance
/-- What is right. -/
def rt : Int → List Bk → Bool
  | _, [] => true
  | p, b :: l => decide (p < b.id ∧ b.id ≤ 1048576 ∧ ¬ (b.u0 = 0 ∧ b.u1 = 0 ∧ b.u2 = 0) ∧ b.U) && rt b.id l
set_option maxHeartbeats 4000000 in
theorem l_right (l : List Bk) (hl : l.length ≤ 1073741824) (t : Tok) (sz : Nat) (hsz : sz = 4 ∨ l = []) : ∀ (post pre : List Bk) (p : Int), l = pre ++ post → ((pre = [] ∧ p = 0) ∨ (∃ pre' a, pre = pre' ++ [a] ∧ a.id = p ∧ 1 ≤ p)) →
    ∀ (ρ : Nat → D) (st : Store) (hlim : st.lim ≤ st.next) (h0 : ρ 0 = .slice t sz (l.map Bk.e)) (h7 : ρ 7 = .slice t sz (l.map Bk.e)) (h8 : ρ 8 = .int .i64 l.length) (h9 : ρ 9 = .int .i64 pre.length) (Q : X → (Nat → D) → Store → Prop),
    (rt p post = true → ∀ ρ' st', Q (.exit 0) ρ' st') → (rt p post = false → ∀ ρ' st', ρ' 2 = .bool false → Q .ret ρ' st') → WC Γ (.loop c_ledger_Right_l1) ρ st Q := by
  intro post
  induction post with
  | nil =>
    intro pre p hp hpp ρ st hlim h0 h7 h8 h9 Q hQ hQ2
    rw [List.append_nil] at hp
    subst hp
    rw [← upd_self h0, ← upd_self h7, ← upd_self h8, ← upd_self h9]
    refine WC_loop ?_
    repeat' (first
 | (refine I_WS ?_; first
 | (refine I_bin ?_; first
 | refine W_lssF rfl rfl rfl rfl (by omega) ?_)
 | refine WS_nil ?_)
 | refine WC_seq ?_
 | refine WC_opsS ?_
 | refine WC_condF rfl ?_
 | refine WC_exit ?_)
    exact hQ rfl _ _
  | cons b post ih =>
    intro pre p hp hpp ρ st hlim h0 h7 h8 h9 Q hQ hQ2
    have hv := at_mid hp
    have hlen : l.length = pre.length + (post.length + 1) := by rw [hp]; simp
    rw [← upd_self h0, ← upd_self h7, ← upd_self h8, ← upd_self h9]
    have hstep : ∀ (ρ' : Nat → D) (st' : Store), st'.lim ≤ st'.next → ρ' 0 = .slice t sz (l.map Bk.e) → ρ' 7 = .slice t sz (l.map Bk.e) → ρ' 8 = .int .i64 l.length → ρ' 9 = .int .i64 (pre.length + 1 : Nat) → p < b.id ∧ b.id ≤ 1048576 ∧ ¬ (b.u0 = 0 ∧ b.u1 = 0 ∧ b.u2 = 0) ∧ b.U → 1 ≤ b.id → WC Γ (.loop c_ledger_Right_l1) ρ' st' Q := fun ρ' st' hlim' h0 h7 h8 h9 hok h1 =>
      ih (pre ++ [b]) b.id (by simp [hp]) (.inr ⟨pre, b, rfl, rfl, h1⟩) ρ' st' hlim' h0 h7 h8 (by rw [h9]; simp) Q (fun h => hQ (by simp only [rt, hok, h, Bool.and_true]; simp)) (fun h => hQ2 (by simp only [rt, h, Bool.and_false]))
    have hbad : ¬ (p < b.id ∧ b.id ≤ 1048576 ∧ ¬ (b.u0 = 0 ∧ b.u1 = 0 ∧ b.u2 = 0) ∧ b.U) → ∀ (ρ' : Nat → D) (st' : Store), ρ' 2 = .bool false → Q .ret ρ' st' := fun h ρ' st' h2 => hQ2 (by simp only [rt, decide_eq_false h, Bool.false_and]) ρ' st' h2
    clear hQ hQ2 ih
    unfold Bk.U at hstep hbad
    rcases hpp with ⟨rfl, rfl⟩ | ⟨pre', a, rfl, ha, hp1⟩
    · have hz0 : ([] : List Bk).length = 0 := rfl
      refine WC_loop ?_
      repeat' (first
 | (refine I_WS ?_; first
 | (refine I_mov ?_; first
 | refine W_skip rfl ?_
 | refine W_mov (v := .int _ _) rfl rfl rfl ?_
 | refine W_mov (v := .bool _) rfl rfl rfl ?_)
 | (refine I_bin ?_; first
 | refine W_skip rfl ?_
 | refine W_lssT rfl rfl rfl rfl (by omega) ?_
 | refine W_lssF rfl rfl rfl rfl (by omega) ?_
 | (refine W_lss rfl rfl rfl rfl ?_ ?_ <;> intro _)
 | refine W_gtrF rfl rfl rfl rfl (by omega) ?_
 | (refine W_gtr rfl rfl rfl rfl ?_ ?_ <;> intro _)
 | refine W_add rfl rfl rfl rfl (by first | exact w64 (by omega) | rfl) ?_)
 | (refine I_load ?_; first
 | refine W_skip rfl ?_
 | refine W_loadE (agg := true) (d := .agg [_, _, _, _]) rfl rfl rfl hv rfl ?_
 | refine W_load (agg := false) (d := .int _ _) rfl rfl rfl (bxc rfl) (by first | exact Nat.zero_le _ | assumption | exact Nat.le_trans hlim (Nat.zero_le _) | omega) rfl ?_
 | refine W_load (agg := true) (d := .agg [_, _, _]) rfl rfl rfl (bxc rfl) (by first | exact Nat.zero_le _ | assumption | exact Nat.le_trans hlim (Nat.zero_le _) | omega) rfl ?_)
 | (refine I_pick ?_; first
 | refine W_pick (v := .bool _) rfl rfl rfl rfl ?_
 | refine W_skip rfl ?_)
 | (refine I_build ?_; first
 | refine W_build (cs := [_, _, _]) rfl rfl rfl ?_
 | refine W_skip rfl ?_)
 | (refine I_store ?_; first
 | refine W_store (cs' := [_, _, _, _]) rfl rfl (upd_same _ _ _) rfl (by first | exact Nat.zero_le _ | assumption | exact Nat.le_trans hlim (Nat.zero_le _) | omega) rfl rfl rfl ?_)
 | (refine W_eqlP rfl rfl rfl rfl rfl rfl (eqAt3 _ _ _ _ _ _) ?_ ?_ <;> intro hq)
 | refine W_faddr rfl rfl rfl ?_
 | refine W_alloc rfl rfl ?_
 | refine W_indexA (agg := false) (d := .int _ _) rfl rfl rfl rfl (by decide) rfl ?_
 | refine W_skip rfl ?_
 | refine W_iaddr rfl rfl rfl rfl (by first | rfl | exact sz_of (by assumption) (by omega)) (by first | decide | (simp only [List.length_map]; omega)) ?_
 | refine WS_nil ?_)
 | refine WC_loop (b := c_ledger_Right_l0) ?_
 | refine WC_seq ?_
 | refine WC_opsS ?_
 | refine WC_drawS ?_
 | refine WC_skip ?_
 | refine WC_condT rfl ?_
 | refine WC_condF rfl ?_
 | refine WC_block ?_
 | refine WC_exit ?_
 | refine WC_ret ?_
 | refine okF_intro rfl ?_)
      all_goals first
        | (refine hbad ?_ _ _ rfl; first | omega | (simp only [decide_eq_true_eq] at hq; omega))
        | (refine hstep _ _ (by first | assumption | exact Nat.le_succ_of_le hlim) rfl rfl rfl rfl ?_ ?_ <;> simp only [decide_eq_false_iff_not] at hq <;> omega)
    · have hva : l[pre'.length]? = some a := by simp [hp]
      have hlp : (pre' ++ [a]).length = pre'.length + 1 := by simp
      refine WC_loop ?_
      repeat' (first
 | (refine I_WS ?_; first
 | refine W_sub (s := ((pre'.length : Nat) : Int)) rfl rfl rfl rfl (by rw [w64 (by omega)]; omega) ?_
 | (refine I_mov ?_; first
 | refine W_skip rfl ?_
 | refine W_mov (v := .int _ _) rfl rfl rfl ?_
 | refine W_mov (v := .bool _) rfl rfl rfl ?_
 | refine W_mov (v := .slice _ _ _) rfl rfl rfl ?_)
 | (refine I_bin ?_; first
 | refine W_skip rfl ?_
 | refine W_lssT rfl rfl rfl rfl (by omega) ?_
 | refine W_lssF rfl rfl rfl rfl (by omega) ?_
 | (refine W_lss rfl rfl rfl rfl ?_ ?_ <;> intro _)
 | refine W_gtrT rfl rfl rfl rfl (by omega) ?_
 | (refine W_gtr rfl rfl rfl rfl ?_ ?_ <;> intro _)
 | (refine W_geq rfl rfl rfl rfl ?_ ?_ <;> intro _)
 | refine W_add rfl rfl rfl rfl (by first | exact w64 (by omega) | rfl) ?_)
 | (refine I_load ?_; first
 | refine W_skip rfl ?_
 | refine W_loadE (agg := true) (d := .agg [_, _, _, _]) rfl rfl rfl hv rfl ?_
 | refine W_loadE (agg := false) (d := .int _ _) rfl rfl rfl hva rfl ?_
 | refine W_load (agg := false) (d := .int _ _) rfl rfl rfl (bxc rfl) (by first | exact Nat.zero_le _ | assumption | exact Nat.le_trans hlim (Nat.zero_le _) | omega) rfl ?_
 | refine W_load (agg := true) (d := .agg [_, _, _]) rfl rfl rfl (bxc rfl) (by first | exact Nat.zero_le _ | assumption | exact Nat.le_trans hlim (Nat.zero_le _) | omega) rfl ?_)
 | (refine I_pick ?_; first
 | refine W_pick (v := .bool _) rfl rfl rfl rfl ?_
 | refine W_skip rfl ?_)
 | (refine I_build ?_; first
 | refine W_build (cs := [_, _, _]) rfl rfl rfl ?_
 | refine W_skip rfl ?_)
 | (refine I_store ?_; first
 | refine W_store (cs' := [_, _, _, _]) rfl rfl (upd_same _ _ _) rfl (by first | exact Nat.zero_le _ | assumption | exact Nat.le_trans hlim (Nat.zero_le _) | omega) rfl rfl rfl ?_)
 | (refine W_eqlP rfl rfl rfl rfl rfl rfl (eqAt3 _ _ _ _ _ _) ?_ ?_ <;> intro hq)
 | refine W_faddr rfl rfl rfl ?_
 | refine W_faddrE rfl rfl rfl ?_
 | refine W_alloc rfl rfl ?_
 | refine W_indexA (agg := false) (d := .int _ _) rfl rfl rfl rfl (by decide) rfl ?_
 | refine W_skip rfl ?_
 | refine W_iaddr rfl rfl rfl rfl (by first | rfl | exact sz_of (by assumption) (by omega)) (by first | decide | (simp only [List.length_map]; omega)) ?_
 | refine WS_nil ?_)
 | refine WC_loop (b := c_ledger_Right_l0) ?_
 | refine WC_seq ?_
 | refine WC_opsS ?_
 | refine WC_drawS ?_
 | refine WC_skip ?_
 | refine WC_condT rfl ?_
 | refine WC_condF rfl ?_
 | refine WC_block ?_
 | refine WC_exit ?_
 | refine WC_ret ?_
 | refine okF_intro rfl ?_)
      all_goals first
        | (refine hbad ?_ _ _ rfl; first | omega | (simp only [decide_eq_true_eq] at hq; omega))
        | (refine hstep _ _ (by first | assumption | exact Nat.le_succ_of_le hlim) rfl rfl rfl rfl ?_ ?_ <;> simp only [decide_eq_false_iff_not] at hq <;> omega)
theorem s_Right (l : List Bk) (hl : l.length ≤ 1073741824) (t : Tok) (sz : Nat) (hsz : sz = 4 ∨ l = []) : EvP Γ 25 [.slice t sz (l.map Bk.e)] (.bool (rt 0 l)) := by
  refine EvP_code rfl rfl ?_
  repeat' (first
 | (refine I_WS ?_; first
 | (refine I_mov ?_; first
 | refine W_mov (v := .int _ _) rfl rfl rfl ?_
 | refine W_mov (v := .bool _) rfl rfl rfl ?_
 | refine W_mov (v := .slice _ _ _) rfl rfl rfl ?_)
 | refine W_lenM rfl rfl rfl ?_
 | refine WS_nil ?_)
 | refine WC_seq ?_
 | refine WC_opsS ?_
 | refine WC_block ?_)
  refine l_right l hl t sz hsz l [] 0 rfl (.inl ⟨rfl, rfl⟩) _ _ (Nat.le_refl _) rfl rfl rfl rfl _ (fun he ρ st => ?_) (fun he ρ st h2 => ?_)
  · repeat' (first
 | (refine I_WS ?_; first
 | (refine I_mov ?_; first
 | refine W_mov (v := .bool _) rfl rfl rfl ?_)
 | refine WS_nil ?_)
 | refine WC_seq ?_
 | refine WC_opsS ?_
 | refine WC_ret ?_)
    exact fin_bool (by simp) rfl he.symm
  · rw [← upd_self h2]
    exact fin_bool (by simp) rfl he.symm
end Go.Let

/-
  What the ledger's functions come to: booking and releasing.
-/
namespace Go.Let
open Go.Ev
set_option linter.unusedVariables false
set_option linter.unusedSimpArgs false
/-- A contact. -/
structure Co where
  id : Int
  fr : Int
  to : Int
  st : Int
  en : Int
  ra : Int
def Co.e (c : Co) : D := .agg [.int .i64 c.id, .int .i64 c.fr, .int .i64 c.to, .int .i64 c.st, .int .i64 c.en, .int .i64 c.ra]
def Co.ok (c : Co) : Prop := okC c.id c.fr c.to c.st c.en c.ra
instance (c : Co) : Decidable c.ok := by unfold Co.ok; infer_instance
def Co.vol (c : Co) : Int := volC c.id c.fr c.to c.st c.en c.ra
def roomM (l : List Bk) (c : Co) (k : Int) : Int := room l c.id c.fr c.to c.st c.en c.ra k
/-- What is booked of it, and so much more of a class. -/
def Bk.plus (b : Bk) (k n : Int) : Bk := if k = 0 then ⟨b.id, b.u0 + n, b.u1, b.u2⟩ else if k = 1 then ⟨b.id, b.u0, b.u1 + n, b.u2⟩ else ⟨b.id, b.u0, b.u1, b.u2 + n⟩
def Bk.at (b : Bk) (k : Int) : Int := if k = 0 then b.u0 else if k = 1 then b.u1 else b.u2
def setM (l : List Bk) (id k n : Int) : List Bk := withM l id ((row l id).plus k n).u0 ((row l id).plus k n).u1 ((row l id).plus k n).u2
def bookC (l : List Bk) (c : Co) (k n : Int) : Prop := c.ok ∧ (0 ≤ k ∧ k < 3) ∧ 0 ≤ n ∧ n ≤ roomM l c k
instance (l : List Bk) (c : Co) (k n : Int) : Decidable (bookC l c k n) := by unfold bookC; infer_instance
def relC (l : List Bk) (id k n : Int) : Prop := (0 ≤ k ∧ k < 3) ∧ 0 ≤ n ∧ n ≤ (row l id).at k
instance (l : List Bk) (id k n : Int) : Decidable (relC l id k n) := by unfold relC; infer_instance
def bookM (l : List Bk) (c : Co) (k n : Int) : List Bk := if bookC l c k n then setM l c.id k n else l
def relM (l : List Bk) (id k n : Int) : List Bk := if relC l id k n then setM l id k (0 - n) else l
theorem room_in (l : List Bk) (c : Co) (k : Int) (hu : (row l c.id).U) : 0 ≤ roomM l c k ∧ roomM l c k ≤ 4611686014132420609 := by
  have h1 := volC_in c.id c.fr c.to c.st c.en c.ra
  have h2 := bkl_in hu k
  unfold roomM room
  split
  · split <;> omega
  · omega
set_option maxHeartbeats 4000000 in
theorem s_Book (l : List Bk) (c : Co) (k n : Int) (hen : -9223372036854775808 ≤ c.en ∧ c.en ≤ 9223372036854775807) (hs : Srt l) (hl : l.length ≤ 1073741824) (hu : (row l c.id).U) (t : Tok) (sz : Nat) (hsz : sz = 4 ∨ l = []) :
    EvX Γ 32 [.slice t sz (l.map Bk.e), c.e, .int .i64 k, .int .i64 n] (IsTR Bk.e 4 (bookM l c k n) [.bool (decide (bookC l c k n))]) := by
  refine EvX_code rfl rfl ?_
  have hC := s_check_Contact c.id c.fr c.to c.st c.en c.ra hen
  have hR := fun t sz hsz => s_Room l c.id c.fr c.to c.st c.en c.ra k hen hs (by omega) hu t sz hsz
  have hcl := fun t sz hsz => s_CloneR l hl t sz hsz
  have hri := room_in l c k hu
  by_cases hb : bookC l c k n
  · have hU := fun t sz hsz => s_Used l c.id hs (by omega) t sz hsz
    have hW := fun u0 u1 u2 t sz hsz => s_with l c.id u0 u1 u2 hs hl t sz hsz
    unfold bookM
    rw [if_pos hb, decide_eq_true hb]
    obtain ⟨h1, h2, h3, h4⟩ := hb
    have h1' : okC c.id c.fr c.to c.st c.en c.ra := h1
    have h4' : n ≤ room l c.id c.fr c.to c.st c.en c.ra k := h4
    have hri' : 0 ≤ room l c.id c.fr c.to c.st c.en c.ra k ∧ room l c.id c.fr c.to c.st c.en c.ra k ≤ 4611686014132420609 := hri
    unfold setM
    unfold Bk.U at hu
    clear hri h4 h1 hcl
    generalize room l c.id c.fr c.to c.st c.en c.ra k = rm at *
    generalize row l c.id = r at *
    have hk' : k = 0 ∨ k = 1 ∨ k = 2 := by omega
    rcases hk' with rfl | rfl | rfl
    all_goals
      repeat' (first
 | (refine I_WS ?_; first
 | refine W_mov (v := d1) rfl rfl rfl ?_
 | (refine I_mov ?_; first
 | refine W_mov (v := .int _ _) rfl rfl rfl ?_
 | refine W_mov (v := .bool _) rfl rfl rfl ?_
 | refine W_mov (v := .slice _ _ _) rfl rfl rfl ?_)
 | (refine I_bin ?_; first
 | refine W_lssF rfl rfl rfl rfl (by omega) ?_
 | refine W_gtrF rfl rfl rfl rfl (by omega) ?_
 | refine W_add rfl rfl rfl rfl (by first | exact w64 (by omega) | rfl) ?_)
 | (refine I_load ?_; first
 | refine W_load (agg := false) (d := .int _ _) rfl rfl rfl rfl (by first | exact Nat.zero_le _ | omega) rfl ?_
 | refine W_load (agg := true) (d := .agg [_, _, _]) rfl rfl rfl rfl (by first | exact Nat.zero_le _ | omega) rfl ?_
 | refine W_load (agg := true) (d := .agg [_, _, _, _, _, _]) rfl rfl rfl rfl (by first | exact Nat.zero_le _ | omega) rfl ?_)
 | (refine I_call ?_; first
 | refine W_callBT rfl rfl rfl hC (decide_eq_true h1') rfl ?_
 | refine W_callBT rfl rfl rfl (s_class _) (by decide) rfl ?_
 | refine W_call rfl rfl rfl (hR _ _ hsz) rfl rfl ?_
 | refine W_call rfl rfl rfl (hU _ _ hsz) rfl rfl ?_
 | (refine W_callR rfl rfl rfl (hW _ _ _ _ _ hsz) rfl rfl elemB (Nat.zero_le _) ?_ <;> intro st1 d1 _ _ _ _ hP _ _))
 | (refine I_pick ?_; first
 | refine W_pick (v := .bool _) rfl rfl rfl rfl ?_)
 | (refine I_box ?_; first
 | refine W_boxA rfl rfl rfl rfl rfl ?_)
 | (refine I_store ?_; first
 | refine W_store (cs' := [_, _, _]) rfl rfl rfl rfl (by first | exact Nat.zero_le _ | omega) rfl rfl rfl ?_)
 | refine W_not rfl rfl rfl ?_
 | refine W_faddr rfl rfl rfl ?_
 | refine W_alloc rfl rfl ?_
 | refine W_iaddrA rfl rfl rfl rfl (by decide) ?_
 | refine WS_nil ?_)
 | refine WC_seq ?_
 | refine WC_opsS ?_
 | refine WC_skip ?_
 | refine WC_condF rfl ?_
 | refine WC_ret ?_)
    all_goals
      exact ⟨by simp, finTR (us := [.bool true]) rfl hP rfl (by decide) elemC rfl rfl⟩
  · unfold bookM
    rw [if_neg hb, decide_eq_false hb]
    have hU := fun t sz hsz => s_Used l c.id hs (by omega) t sz hsz
    clear hri
    repeat' (first
 | (refine I_WS ?_; first
 | refine W_mov (v := d1) rfl rfl rfl ?_
 | (refine I_mov ?_; first
 | refine W_skip rfl ?_
 | refine W_mov (v := .int _ _) rfl rfl rfl ?_
 | refine W_mov (v := .bool _) rfl rfl rfl ?_
 | refine W_mov (v := .slice _ _ _) rfl rfl rfl ?_)
 | (refine I_bin ?_; first
 | refine W_skip rfl ?_
 | (refine W_lss rfl rfl rfl rfl ?_ ?_ <;> intro _)
 | (refine W_gtr rfl rfl rfl rfl ?_ ?_ <;> intro _))
 | (refine I_load ?_; first
 | refine W_skip rfl ?_
 | refine W_load (agg := false) (d := .int _ _) rfl rfl rfl rfl (by first | exact Nat.zero_le _ | omega) rfl ?_
 | refine W_load (agg := true) (d := .agg [_, _, _, _, _, _]) rfl rfl rfl rfl (by first | exact Nat.zero_le _ | omega) rfl ?_)
 | (refine I_call ?_; first
 | refine W_skip rfl ?_
 | refine W_callB rfl rfl rfl hC rfl ?_ ?_ <;> intro _
 | refine W_callB rfl rfl rfl (s_class _) rfl ?_ ?_ <;> intro _
 | refine W_call rfl rfl rfl (hR _ _ hsz) rfl rfl ?_
 | (refine W_callR rfl rfl rfl (hcl _ _ hsz) rfl rfl elemB (Nat.zero_le _) ?_ <;> intro st1 d1 _ _ _ _ hP _ _))
 | (refine I_pick ?_; first
 | refine W_pick (v := .bool _) rfl rfl rfl rfl ?_)
 | (refine I_box ?_; first
 | refine W_boxA rfl rfl rfl rfl rfl ?_)
 | refine W_not rfl rfl rfl ?_
 | refine W_faddr rfl rfl rfl ?_
 | refine W_skip rfl ?_
 | refine WS_nil ?_)
 | refine WC_seq ?_
 | refine WC_opsS ?_
 | refine WC_skip ?_
 | refine WC_condT rfl ?_
 | refine WC_condF rfl ?_
 | refine WC_ret ?_)
    all_goals first
      | (exfalso
         simp only [decide_eq_true_eq] at *
         exact hb ⟨by assumption, by assumption, by omega, by show n ≤ room l c.id c.fr c.to c.st c.en c.ra k; omega⟩)
      | (exact ⟨by simp, finTR (us := [.bool false]) rfl hP rfl (by decide) elemC rfl rfl⟩)
set_option maxHeartbeats 4000000 in
theorem s_Release (l : List Bk) (id k n : Int) (hs : Srt l) (hl : l.length ≤ 1073741824) (hu : (row l id).U) (t : Tok) (sz : Nat) (hsz : sz = 4 ∨ l = []) :
    EvX Γ 30 [.slice t sz (l.map Bk.e), .int .i64 id, .int .i64 k, .int .i64 n] (IsTR Bk.e 4 (relM l id k n) [.bool (decide (relC l id k n))]) := by
  refine EvX_code rfl rfl ?_
  have hcl := fun t sz hsz => s_CloneR l hl t sz hsz
  have hU := fun t sz hsz => s_Used l id hs (by omega) t sz hsz
  have hW := fun u0 u1 u2 t sz hsz => s_with l id u0 u1 u2 hs hl t sz hsz
  by_cases hk : 0 ≤ k ∧ k < 3
  · have hk' : k = 0 ∨ k = 1 ∨ k = 2 := by omega
    by_cases hb : relC l id k n
    · unfold relM
      rw [if_pos hb, decide_eq_true hb]
      obtain ⟨_, h2, h3⟩ := hb
      unfold setM
      unfold Bk.U at hu
      clear hcl
      generalize row l id = r at *
      rcases hk' with rfl | rfl | rfl
      all_goals
        unfold Bk.at at h3
        simp only [if_true, if_false, show ¬ ((1 : Int) = 0) by decide, show ¬ ((2 : Int) = 0) by decide, show ¬ ((2 : Int) = 1) by decide] at h3
        repeat' (first
 | (refine I_WS ?_; first
 | refine W_mov (v := d1) rfl rfl rfl ?_
 | refine W_sub (s := r.u0 + (0 - n)) rfl rfl rfl rfl (by rw [w64 (by omega)]; omega) ?_
 | refine W_sub (s := r.u1 + (0 - n)) rfl rfl rfl rfl (by rw [w64 (by omega)]; omega) ?_
 | refine W_sub (s := r.u2 + (0 - n)) rfl rfl rfl rfl (by rw [w64 (by omega)]; omega) ?_
 | (refine I_mov ?_; first
 | refine W_mov (v := .int _ _) rfl rfl rfl ?_
 | refine W_mov (v := .bool _) rfl rfl rfl ?_
 | refine W_mov (v := .slice _ _ _) rfl rfl rfl ?_)
 | (refine I_bin ?_; first
 | refine W_lssF rfl rfl rfl rfl (by omega) ?_
 | refine W_gtrF rfl rfl rfl rfl (by omega) ?_)
 | (refine I_load ?_; first
 | refine W_load (agg := false) (d := .int _ _) rfl rfl rfl rfl (by first | exact Nat.zero_le _ | omega) rfl ?_
 | refine W_load (agg := true) (d := .agg [_, _, _]) rfl rfl rfl rfl (by first | exact Nat.zero_le _ | omega) rfl ?_)
 | (refine I_call ?_; first
 | refine W_callBT rfl rfl rfl (s_class _) (by decide) rfl ?_
 | refine W_call rfl rfl rfl (hU _ _ hsz) rfl rfl ?_
 | (refine W_callR rfl rfl rfl (hW _ _ _ _ _ hsz) rfl rfl elemB (Nat.zero_le _) ?_ <;> intro st1 d1 _ _ _ _ hP _ _))
 | (refine I_pick ?_; first
 | refine W_pick (v := .bool _) rfl rfl rfl rfl ?_)
 | (refine I_store ?_; first
 | refine W_store (cs' := [_, _, _]) rfl rfl rfl rfl (by first | exact Nat.zero_le _ | omega) rfl rfl rfl ?_)
 | refine W_not rfl rfl rfl ?_
 | refine W_alloc rfl rfl ?_
 | refine W_iaddrA rfl rfl rfl rfl (by decide) ?_
 | refine WS_nil ?_)
 | refine WC_seq ?_
 | refine WC_opsS ?_
 | refine WC_skip ?_
 | refine WC_condF rfl ?_
 | refine WC_ret ?_)
      all_goals
        exact ⟨by simp, finTR (us := [.bool true]) rfl hP rfl (by decide) elemC rfl rfl⟩
    · unfold relM
      rw [if_neg hb, decide_eq_false hb]
      unfold relC Bk.at at hb
      generalize row l id = r at *
      rcases hk' with rfl | rfl | rfl
      all_goals
        simp only [if_true, if_false, show ¬ ((1 : Int) = 0) by decide, show ¬ ((2 : Int) = 0) by decide, show ¬ ((2 : Int) = 1) by decide] at hb
        repeat' (first
 | (refine I_WS ?_; first
 | refine W_mov (v := d1) rfl rfl rfl ?_
 | (refine I_mov ?_; first
 | refine W_skip rfl ?_
 | refine W_mov (v := .int _ _) rfl rfl rfl ?_
 | refine W_mov (v := .bool _) rfl rfl rfl ?_
 | refine W_mov (v := .slice _ _ _) rfl rfl rfl ?_)
 | (refine I_bin ?_; first
 | refine W_skip rfl ?_
 | (refine W_lss rfl rfl rfl rfl ?_ ?_ <;> intro _)
 | refine W_gtrT rfl rfl rfl rfl (by omega) ?_)
 | (refine I_load ?_; first
 | refine W_skip rfl ?_
 | refine W_load (agg := false) (d := .int _ _) rfl rfl rfl rfl (by first | exact Nat.zero_le _ | omega) rfl ?_)
 | (refine I_call ?_; first
 | refine W_callBT rfl rfl rfl (s_class _) (by decide) rfl ?_
 | refine W_call rfl rfl rfl (hU _ _ hsz) rfl rfl ?_
 | (refine W_callR rfl rfl rfl (hcl _ _ hsz) rfl rfl elemB (Nat.zero_le _) ?_ <;> intro st1 d1 _ _ _ _ hP _ _))
 | (refine I_pick ?_; first
 | refine W_pick (v := .bool _) rfl rfl rfl rfl ?_)
 | (refine I_store ?_; first
 | refine W_store (cs' := [_, _, _]) rfl rfl rfl rfl (by first | exact Nat.zero_le _ | omega) rfl rfl rfl ?_)
 | refine W_not rfl rfl rfl ?_
 | refine W_alloc rfl rfl ?_
 | refine W_iaddrA rfl rfl rfl rfl (by decide) ?_
 | refine W_skip rfl ?_
 | refine WS_nil ?_)
 | refine WC_seq ?_
 | refine WC_opsS ?_
 | refine WC_condT rfl ?_
 | refine WC_ret ?_)
      all_goals
        first
        | (exfalso; omega)
        | (exact ⟨by simp, finTR (us := [.bool false]) rfl hP rfl (by decide) elemC rfl rfl⟩)
  · have hb : ¬ relC l id k n := fun h => hk h.1
    unfold relM
    rw [if_neg hb, decide_eq_false hb]
    repeat' (first
 | (refine I_WS ?_; first
 | refine W_mov (v := d1) rfl rfl rfl ?_
 | (refine I_mov ?_; first
 | refine W_skip rfl ?_
 | refine W_mov (v := .int _ _) rfl rfl rfl ?_
 | refine W_mov (v := .bool _) rfl rfl rfl ?_
 | refine W_mov (v := .slice _ _ _) rfl rfl rfl ?_)
 | (refine I_bin ?_; first
 | refine W_skip rfl ?_)
 | (refine I_load ?_; first
 | refine W_skip rfl ?_)
 | (refine I_call ?_; first
 | refine W_callBF rfl rfl rfl (s_class _) (decide_eq_false hk) rfl ?_
 | refine W_call rfl rfl rfl (hU _ _ hsz) rfl rfl ?_
 | (refine W_callR rfl rfl rfl (hcl _ _ hsz) rfl rfl elemB (Nat.zero_le _) ?_ <;> intro st1 d1 _ _ _ _ hP _ _))
 | (refine I_pick ?_; first
 | refine W_pick (v := .bool _) rfl rfl rfl rfl ?_)
 | (refine I_store ?_; first
 | refine W_store (cs' := [_, _, _]) rfl rfl rfl rfl (by first | exact Nat.zero_le _ | omega) rfl rfl rfl ?_)
 | refine W_not rfl rfl rfl ?_
 | refine W_alloc rfl rfl ?_
 | refine W_skip rfl ?_
 | refine WS_nil ?_)
 | refine WC_seq ?_
 | refine WC_opsS ?_
 | refine WC_condT rfl ?_
 | refine WC_ret ?_)
    exact ⟨by simp, finTR (us := [.bool false]) rfl hP rfl (by decide) elemC rfl rfl⟩
end Go.Let
