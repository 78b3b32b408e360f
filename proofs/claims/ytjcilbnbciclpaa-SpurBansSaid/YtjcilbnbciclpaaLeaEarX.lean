/-
  What is asked, and what is told of a node.
-/
import Derived.Test.YtjcilbnbciclpaaLeaEarB
import Derived.Test.YtjcilbnbciclpaaEvEvM
import Derived.Test.YtjcilbnbciclpaaLeaEarB
import Derived.Test.YtjcilbnbciclpaaLeaEarB
set_option linter.unusedVariables false
set_option linter.unusedSimpArgs false
set_option linter.unnecessarySimpa false
namespace Go.Lea
open Go.Ev
def RL (l : List Eg) : Prop := (∀ e ∈ l, e.ok) ∧ l.Pairwise fun a b => a.id < b.id
instance (l : List Eg) : Decidable (RL l) := by unfold RL; infer_instance
theorem RL.nil : RL [] := ⟨by simp, by simp⟩
theorem RL_snoc {pre : List Eg} {x : Eg} : RL (pre ++ [x]) ↔ RL pre ∧ x.ok ∧ ∀ y ∈ pre, y.id < x.id := by
  unfold RL
  rw [List.pairwise_append]
  constructor
  · rintro ⟨h1, h2, h3, h4⟩
    exact ⟨⟨fun e he => h1 e (by simp [he]), h2⟩, h1 x (by simp), fun y hy => h4 y hy x (by simp)⟩
  · rintro ⟨⟨h1, h2⟩, h3, h4⟩
    refine ⟨fun e he => ?_, h2, by simp, fun a ha b hb => ?_⟩
    · rcases List.mem_append.mp he with he | he
      · exact h1 e he
      · rw [List.mem_singleton.mp he]; exact h3
    · rw [List.mem_singleton.mp hb]
      exact h4 a ha
theorem RL.pre {pre post : List Eg} (h : RL (pre ++ post)) : RL pre := ⟨fun e he => h.1 e (by simp [he]), (List.pairwise_append.mp h.2).1⟩
theorem RL_last {pre : List Eg} (h : RL pre) {y : Eg} (hy : pre[pre.length - 1]? = some y) : ∀ z ∈ pre, z.id ≤ y.id := by
  intro z hz
  obtain ⟨i, hi, rfl⟩ := List.getElem_of_mem hz
  obtain ⟨hk, rfl⟩ := List.getElem?_eq_some_iff.mp hy
  by_cases e : i = pre.length - 1
  · subst e; exact Int.le_refl _
  · exact Int.le_of_lt (List.pairwise_iff_getElem.mp h.2 i (pre.length - 1) hi hk (by omega))
set_option maxHeartbeats 4000000 in
theorem l_pR (l : List Eg) (hll : l.length ≤ 1073741824) (t : Tok) (sz : Nat) (hs : sz = 8 ∨ l = []) : ∀ (post pre : List Eg), l = pre ++ post → RL pre → ∀ (ρ : Nat → D) (st : Store), st.lim ≤ st.next →
    ρ 0 = .slice t sz (l.map Eg.e) → ρ 5 = .slice t sz (l.map Eg.e) → ρ 6 = .int .i64 l.length → ρ 7 = .int .i64 pre.length → ∀ (Q : X → (Nat → D) → Store → Prop),
    (RL l → ∀ ρ' st', Q (.exit 0) ρ' st') → (¬ RL l → ∀ ρ' st', ρ' 2 = .bool false → Q .ret ρ' st') → WC Γ (.loop c_path_Right_l0) ρ st Q := by
  intro post
  induction post with
  | nil =>
    intro pre hpp hR ρ st hlim h0 h5 h6 h7 Q hQ hQ2
    rw [List.append_nil] at hpp
    subst hpp
    rw [← upd_self h0, ← upd_self h5, ← upd_self h6, ← upd_self h7]
    refine WC_loop ?_
    repeat' (first
 | (refine I_WS ?_; first
 | (refine I_bin ?_; first
 | refine W_lssF rfl rfl rfl rfl (by omega) ?_)
 | refine WS_nil ?_)
 | refine WC_seq ?_
 | refine WC_opsS ?_
 | refine WC_condF rfl ?_
 | refine WC_exit ?_)
    exact hQ hR _ _
  | cons x post ih =>
    intro pre hpp hR ρ st hlim h0 h5 h6 h7 Q hQ hQ2
    have hv := eg_mid hpp
    have hlen : l.length = pre.length + (post.length + 1) := by rw [hpp]; simp
    have hz : sz = 8 := hs.resolve_right (by rintro rfl; simp at hlen)
    subst hz
    have hpl : pre.length < (l.map Eg.e).length := by simp; omega
    have hpl2 : pre.length - 1 < (l.map Eg.e).length := by simp; omega
    have hltl : (pre.length : Int) < l.length := by omega
    have hRl : RL l → RL (pre ++ [x]) := fun h => by
      rw [hpp, show pre ++ x :: post = (pre ++ [x]) ++ post by simp] at h
      exact h.pre
    have hbad : ∀ ρ' st', decide x.ok = false → ρ' 2 = .bool false → Q .ret ρ' st' := fun ρ' st' hx e => hQ2 (fun h => (of_decide_eq_false hx) (RL_snoc.mp (hRl h)).2.1) ρ' st' e
    have hnext : ∀ ρ' st', st'.lim ≤ st'.next → RL (pre ++ [x]) → ρ' 0 = .slice t 8 (l.map Eg.e) → ρ' 5 = .slice t 8 (l.map Eg.e) → ρ' 6 = .int .i64 l.length → ρ' 7 = .int .i64 ((pre.length : Int) + 1) → WC Γ (.loop c_path_Right_l0) ρ' st' Q := fun ρ' st' e1 e2 k0 k5 k6 k7 =>
      ih (pre ++ [x]) (by simp [hpp]) e2 ρ' st' e1 k0 k5 k6 (by rw [List.length_append]; exact k7) Q hQ hQ2
    have hok := s_hRight x
    rw [← upd_self h0, ← upd_self h5, ← upd_self h6, ← upd_self h7]
    refine WC_loop ?_
    by_cases hz : 0 < pre.length
    · have hsub : IntKind.i64.wrap ((pre.length : Int) - 1) = ((pre.length - 1 : Nat) : Int) := by rw [w64 (by omega)]; omega
      have hz' : (0 : Int) < pre.length := by omega
      obtain ⟨y, hy⟩ : ∃ y, pre[pre.length - 1]? = some y := ⟨pre[pre.length - 1]'(by omega), List.getElem?_eq_getElem _⟩
      have hvy : l[pre.length - 1]? = some y := by rw [hpp, List.getElem?_append_left (by omega)]; exact hy
      have hmem := List.mem_of_getElem? hy
      have hbad2 : ∀ ρ' st', x.id ≤ y.id → ρ' 2 = .bool false → Q .ret ρ' st' := fun ρ' st' hx e => hQ2 (fun h => by
        have := (RL_snoc.mp (hRl h)).2.2 y hmem
        omega) ρ' st' e
      have hgo : decide x.ok = true → y.id < x.id → RL (pre ++ [x]) := fun h1 h2 => RL_snoc.mpr ⟨hR, of_decide_eq_true h1, fun z hz => by have := RL_last hR hy z hz; omega⟩
      clear ih hQ hQ2 hRl hpp hR
      generalize decide x.ok = bk at *
      repeat' (first
 | (refine I_WS ?_; first
 | refine W_sub (s := ((pre.length - 1 : Nat) : Int)) rfl rfl rfl rfl hsub ?_
 | refine W_iaddr (j := pre.length) rfl rfl rfl rfl rfl hpl ?_
 | refine W_iaddr (j := pre.length - 1) rfl rfl rfl rfl rfl hpl2 ?_
 | refine W_store (cs' := [_, _, _, _, _, _, _, _]) rfl rfl (upd_same _ _ _) rfl hlim rfl rfl rfl ?_
 | (refine I_mov ?_; first
 | refine W_skip rfl ?_
 | refine W_mov (v := .int _ _) rfl rfl rfl ?_
 | refine W_mov (v := .bool _) rfl rfl rfl ?_
 | refine W_mov (v := .slice _ _ _) rfl rfl rfl ?_)
 | (refine I_bin ?_; first
 | refine W_skip rfl ?_
 | refine W_lssT rfl rfl rfl rfl (by omega) ?_
 | refine W_gtrT rfl rfl rfl rfl (by omega) ?_
 | (refine W_geq rfl rfl rfl rfl ?_ ?_ <;> intro _)
 | refine W_add rfl rfl rfl rfl (by first | exact w64 (by omega) | rfl) ?_)
 | (refine I_load ?_; first
 | refine W_skip rfl ?_
 | refine W_loadE (agg := true) (d := .agg [_, _, _, _, _, _, _, _]) rfl rfl rfl hv rfl ?_
 | refine W_loadE (agg := false) (d := .int _ _) rfl rfl rfl hvy rfl ?_
 | refine W_load (agg := false) (d := .int _ _) rfl rfl rfl (bxc rfl) (by first | exact Nat.zero_le _ | assumption | exact Nat.le_trans hlim (Nat.zero_le _) | omega) rfl ?_
 | refine W_load (agg := true) (d := .agg [_, _, _, _, _, _, _, _]) rfl rfl rfl (bxc rfl) (by first | exact Nat.zero_le _ | assumption | exact Nat.le_trans hlim (Nat.zero_le _) | omega) rfl ?_)
 | (refine I_call ?_; first
 | (refine W_callB rfl rfl rfl hok rfl ?_ ?_ <;> intro _))
 | (refine I_pick ?_; first
 | refine W_pick (v := .bool _) rfl rfl rfl rfl ?_
 | refine W_skip rfl ?_)
 | refine W_not rfl rfl rfl ?_
 | refine W_faddr rfl rfl rfl ?_
 | refine W_faddrE rfl rfl rfl ?_
 | refine W_alloc rfl rfl ?_
 | refine W_skip rfl ?_
 | refine WS_nil ?_)
 | refine okF_intro (okFlags_onlyR rfl) ?_
 | refine WC_seq ?_
 | refine WC_opsS ?_
 | refine WC_drawS ?_
 | refine WC_skip ?_
 | refine WC_condT rfl ?_
 | refine WC_condF rfl ?_
 | refine WC_block ?_
 | refine WC_ret ?_)
      all_goals first
        | (refine hbad _ _ (by assumption) ?_; rfl; done)
        | (refine hbad2 _ _ (by omega) ?_; rfl; done)
        | (refine hnext _ _ ?_ (hgo (by assumption) (by omega)) ?_ ?_ ?_ ?_ <;> first | rfl | exact Nat.le_succ_of_le hlim)
    · have hz' : (pre.length : Int) ≤ 0 := by omega
      have hp0 : pre = [] := List.length_eq_zero_iff.mp (by omega)
      have hgo : decide x.ok = true → RL (pre ++ [x]) := fun h1 => RL_snoc.mpr ⟨hR, of_decide_eq_true h1, fun z hz => by rw [hp0] at hz; cases hz⟩
      clear ih hQ hQ2 hRl hpp hR hp0
      generalize decide x.ok = bk at *
      repeat' (first
 | (refine I_WS ?_; first
 | refine W_iaddr (j := pre.length) rfl rfl rfl rfl rfl hpl ?_
 | refine W_store (cs' := [_, _, _, _, _, _, _, _]) rfl rfl (upd_same _ _ _) rfl hlim rfl rfl rfl ?_
 | (refine I_mov ?_; first
 | refine W_skip rfl ?_
 | refine W_mov (v := .int _ _) rfl rfl rfl ?_
 | refine W_mov (v := .bool _) rfl rfl rfl ?_)
 | (refine I_bin ?_; first
 | refine W_skip rfl ?_
 | refine W_lssT rfl rfl rfl rfl (by omega) ?_
 | refine W_gtrF rfl rfl rfl rfl (by omega) ?_
 | refine W_add rfl rfl rfl rfl (by first | exact w64 (by omega) | rfl) ?_)
 | (refine I_load ?_; first
 | refine W_skip rfl ?_
 | refine W_loadE (agg := true) (d := .agg [_, _, _, _, _, _, _, _]) rfl rfl rfl hv rfl ?_
 | refine W_load (agg := true) (d := .agg [_, _, _, _, _, _, _, _]) rfl rfl rfl (bxc rfl) (by first | exact Nat.zero_le _ | assumption | exact Nat.le_trans hlim (Nat.zero_le _) | omega) rfl ?_)
 | (refine I_call ?_; first
 | (refine W_callB rfl rfl rfl hok rfl ?_ ?_ <;> intro _))
 | (refine I_pick ?_; first
 | refine W_pick (v := .bool _) rfl rfl rfl rfl ?_
 | refine W_skip rfl ?_)
 | refine W_not rfl rfl rfl ?_
 | refine W_alloc rfl rfl ?_
 | refine W_skip rfl ?_
 | refine WS_nil ?_)
 | refine okF_intro (okFlags_onlyR rfl) ?_
 | refine WC_seq ?_
 | refine WC_opsS ?_
 | refine WC_drawS ?_
 | refine WC_skip ?_
 | refine WC_condT rfl ?_
 | refine WC_condF rfl ?_
 | refine WC_block ?_
 | refine WC_ret ?_)
      all_goals first
        | (refine hbad _ _ (by assumption) ?_; rfl; done)
        | (refine hnext _ _ ?_ (hgo (by assumption)) ?_ ?_ ?_ ?_ <;> first | rfl | exact Nat.le_succ_of_le hlim)
theorem s_pRight (l : List Eg) (hll : l.length ≤ 1073741824) (t : Tok) (sz : Nat) (hs : sz = 8 ∨ l = []) : EvP Γ 64 [.slice t sz (l.map Eg.e)] (.bool (decide (RL l))) := by
  refine EvP_code rfl rfl ?_
  repeat' (first
 | (refine I_WS ?_; first
 | refine W_lenM rfl rfl rfl ?_
 | (refine I_mov ?_; first
 | refine W_mov (v := .int _ _) rfl rfl rfl ?_
 | refine W_mov (v := .bool _) rfl rfl rfl ?_
 | refine W_mov (v := .slice _ _ _) rfl rfl rfl ?_)
 | refine WS_nil ?_)
 | refine WC_seq ?_
 | refine WC_opsS ?_
 | refine WC_block ?_)
  refine l_pR l hll t sz hs l [] rfl RL.nil _ _ (Nat.le_refl _) ?_ ?_ ?_ ?_ _ (fun h ρ' st' => ?_) (fun h ρ' st' h2 => ?_)
  · rfl
  · rfl
  · rfl
  · rfl
  · repeat' (first
 | (refine I_WS ?_; first
 | (refine I_mov ?_; first
 | refine W_mov (v := .bool _) rfl rfl rfl ?_)
 | refine WS_nil ?_)
 | refine WC_seq ?_
 | refine WC_opsS ?_
 | refine WC_ret ?_)
    exact fin_bool (.inr rfl) rfl (decide_eq_true h).symm
  · rw [← upd_self h2]
    exact fin_bool (.inr rfl) rfl (decide_eq_false h).symm
def AskC (l : List Eg) (fr now sz : Int) : Prop := (1 ≤ fr ∧ fr ≤ 255) ∧ (0 ≤ sz ∧ sz ≤ 1099511627775) ∧ (0 ≤ now ∧ now ≤ 1099511627776) ∧ RL l
instance (l : List Eg) (fr now sz : Int) : Decidable (AskC l fr now sz) := by unfold AskC; infer_instance
theorem s_Bundle (fr to sz now : Int) : EvP Γ 63 [.agg [.int .i64 fr, .int .i64 to, .int .i64 sz, .int .i64 0, .int .i64 now]] (.bool (decide ((1 ≤ fr ∧ fr ≤ 255) ∧ (1 ≤ to ∧ to ≤ 255) ∧ (0 ≤ sz ∧ sz ≤ 1099511627775) ∧ (0 ≤ now ∧ now ≤ 1099511627776)))) := by
  refine EvP_code rfl rfl ?_
  have h0 := s_num_In 0 0 2
  rw [decide_eq_true (by omega)] at h0
  repeat' (first
 | (refine I_WS ?_; first
 | (refine I_mov ?_; first
 | refine W_mov (v := .bool _) rfl rfl rfl ?_)
 | (refine I_load ?_; first
 | refine W_skip rfl ?_
 | refine W_load (agg := false) (d := .int _ _) rfl rfl rfl rfl (by first | exact Nat.zero_le _ | omega) rfl ?_)
 | (refine I_call ?_; first
 | refine W_skip rfl ?_
 | refine W_call rfl rfl rfl h0 rfl rfl ?_
 | (refine W_callB rfl rfl rfl (s_check_Node _) rfl ?_ ?_ <;> intro _)
 | (refine W_callB rfl rfl rfl (s_num_In _ _ _) rfl ?_ ?_ <;> intro _))
 | (refine I_pick ?_; first
 | refine W_pick (v := .bool _) rfl rfl rfl rfl ?_)
 | (refine I_box ?_; first
 | refine W_boxA rfl rfl rfl rfl rfl ?_)
 | refine W_faddr rfl rfl rfl ?_
 | refine W_skip rfl ?_
 | refine WS_nil ?_)
 | refine WC_seq ?_
 | refine WC_opsS ?_
 | refine WC_ret ?_)
  all_goals (refine fin_bool (by simp) rfl ?_; first | (simp_all; done) | (simp_all; omega) | (simp only [eq_comm (a := true), eq_comm (a := false), decide_eq_true_eq, decide_eq_false_iff_not] at *; omega) | grind)
theorem s_pasked (l : List Eg) (hll : l.length ≤ 1073741824) (fr now sz : Int) (t : Tok) (s : Nat) (hs : s = 8 ∨ l = []) : EvP Γ 32 [.slice t s (l.map Eg.e), .int .i64 fr, .int .i64 fr, .int .i64 now, .int .i64 sz] (.bool (decide (AskC l fr now sz))) := by
  refine EvP_code rfl rfl ?_
  have hR := fun t => s_pRight l hll t s hs
  have hB := s_Bundle fr fr sz now
  have ht : decide ((1 ≤ fr ∧ fr ≤ 255) ∧ (1 ≤ fr ∧ fr ≤ 255) ∧ (0 ≤ sz ∧ sz ≤ 1099511627775) ∧ (0 ≤ now ∧ now ≤ 1099511627776)) = true → decide (RL l) = true → decide (AskC l fr now sz) = true := fun h1 h2 => by
    have h1 := of_decide_eq_true h1
    exact decide_eq_true ⟨h1.1, h1.2.2.1, h1.2.2.2, of_decide_eq_true h2⟩
  have hf1 : decide ((1 ≤ fr ∧ fr ≤ 255) ∧ (1 ≤ fr ∧ fr ≤ 255) ∧ (0 ≤ sz ∧ sz ≤ 1099511627775) ∧ (0 ≤ now ∧ now ≤ 1099511627776)) = false → decide (AskC l fr now sz) = false := fun h1 =>
    decide_eq_false fun h => (of_decide_eq_false h1) ⟨h.1, h.1, h.2.1, h.2.2.1⟩
  have hf2 : decide (RL l) = false → decide (AskC l fr now sz) = false := fun h1 =>
    decide_eq_false fun h => (of_decide_eq_false h1) h.2.2.2
  generalize decide (AskC l fr now sz) = q at *
  generalize decide (RL l) = q2 at *
  generalize decide ((1 ≤ fr ∧ fr ≤ 255) ∧ (1 ≤ fr ∧ fr ≤ 255) ∧ (0 ≤ sz ∧ sz ≤ 1099511627775) ∧ (0 ≤ now ∧ now ≤ 1099511627776)) = q1 at *
  repeat' (first
 | (refine I_WS ?_; first
 | (refine I_mov ?_; first
 | refine W_skip rfl ?_
 | refine W_mov (v := .int _ _) rfl rfl rfl ?_
 | refine W_mov (v := .bool _) rfl rfl rfl ?_
 | refine W_mov (v := .slice _ _ _) rfl rfl rfl ?_)
 | (refine I_call ?_; first
 | refine W_skip rfl ?_
 | (refine W_callB rfl rfl rfl hB rfl ?_ ?_ <;> intro _)
 | (refine W_callB rfl rfl rfl (hR _) rfl ?_ ?_ <;> intro _))
 | (refine I_pick ?_; first
 | refine W_pick (v := .bool _) rfl rfl rfl rfl ?_)
 | (refine I_build ?_; first
 | refine W_build (cs := [_, _, _, _, _]) rfl rfl rfl ?_)
 | refine WS_nil ?_)
 | refine WC_seq ?_
 | refine WC_opsS ?_
 | refine WC_ret ?_)
  all_goals first
    | exact fin_bool (.inr rfl) rfl (ht (by assumption) (by assumption)).symm
    | exact fin_bool (.inr rfl) rfl (hf1 (by assumption)).symm
    | exact fin_bool (.inr rfl) rfl (hf2 (by assumption)).symm
theorem rd_mid {l pre post : List Rd} {x : Rd} (h : l = pre ++ x :: post) : l[pre.length]? = some x := by rw [h]; simp
def atN (n : Int) : List Rd → Option Int
  | [] => none
  | r :: l => if r.node = n then some r.at' else atN n l
theorem atN_mid {n : Int} : ∀ {pre post : List Rd} {x : Rd}, (∀ y ∈ pre, y.node ≠ n) → x.node = n → atN n (pre ++ x :: post) = some x.at'
  | [], post, x, _, h => by simp [atN, h]
  | y :: pre, post, x, h0, h => by
    rw [List.cons_append, atN, if_neg (h0 y (by simp))]
    exact atN_mid (fun z hz => h0 z (by simp [hz])) h
theorem atN_none {n : Int} : ∀ {l : List Rd}, (∀ y ∈ l, y.node ≠ n) → atN n l = none
  | [], _ => rfl
  | y :: l, h => by rw [atN, if_neg (h y (by simp))]; exact atN_none (fun z hz => h z (by simp [hz]))
set_option maxHeartbeats 4000000 in
theorem l_At (n : Int) (l : List Rd) (hll : l.length ≤ 1073741824) (t : Tok) (sz : Nat) (hs : sz = 2 ∨ l = []) : ∀ (post pre : List Rd), l = pre ++ post → (∀ y ∈ pre, y.node ≠ n) → ∀ (ρ : Nat → D) (st : Store), st.lim ≤ st.next →
    ρ 1 = .int .i64 n → ρ 8 = .slice t sz (l.map Rd.e) → ρ 9 = .int .i64 l.length → ρ 10 = .int .i64 pre.length → ∀ (Q : X → (Nat → D) → Store → Prop),
    (atN n l = none → ∀ ρ' st', Q (.exit 0) ρ' st') → (∀ u, atN n l = some u → ∀ ρ' st', ρ' 4 = .int .i64 u → ρ' 5 = .bool true → Q .ret ρ' st') → WC Γ (.loop c_early_At_l0) ρ st Q := by
  intro post
  induction post with
  | nil =>
    intro pre hpp hn ρ st hlim h1 h8 h9 h10 Q hQ hQ2
    rw [List.append_nil] at hpp
    subst hpp
    rw [← upd_self h1, ← upd_self h8, ← upd_self h9, ← upd_self h10]
    refine WC_loop ?_
    repeat' (first
 | (refine I_WS ?_; first
 | (refine I_bin ?_; first
 | refine W_lssF rfl rfl rfl rfl (by omega) ?_)
 | refine WS_nil ?_)
 | refine WC_seq ?_
 | refine WC_opsS ?_
 | refine WC_condF rfl ?_
 | refine WC_exit ?_)
    exact hQ (atN_none hn) _ _
  | cons x post ih =>
    intro pre hpp hn ρ st hlim h1 h8 h9 h10 Q hQ hQ2
    have hv := rd_mid hpp
    have hlen : l.length = pre.length + (post.length + 1) := by rw [hpp]; simp
    have hz : sz = 2 := hs.resolve_right (by rintro rfl; simp at hlen)
    subst hz
    have hpl : pre.length < (l.map Rd.e).length := by simp; omega
    have hltl : (pre.length : Int) < l.length := by omega
    have hyes : x.node = n → ∀ ρ' st', ρ' 4 = .int .i64 x.at' → ρ' 5 = .bool true → Q .ret ρ' st' := fun e ρ' st' k4 k5 => hQ2 x.at' (by rw [hpp]; exact atN_mid hn e) ρ' st' k4 k5
    have hnext : x.node ≠ n → ∀ ρ' st', st'.lim ≤ st'.next → ρ' 1 = .int .i64 n → ρ' 8 = .slice t 2 (l.map Rd.e) → ρ' 9 = .int .i64 l.length → ρ' 10 = .int .i64 ((pre.length : Int) + 1) → WC Γ (.loop c_early_At_l0) ρ' st' Q := fun e ρ' st' e1 k1 k8 k9 k10 =>
      ih (pre ++ [x]) (by simp [hpp]) (fun y hy => by
        rcases List.mem_append.mp hy with hy | hy
        · exact hn y hy
        · rw [List.mem_singleton.mp hy]; exact e) ρ' st' e1 k1 k8 k9 (by rw [List.length_append]; exact k10) Q hQ hQ2
    clear ih hQ hQ2 hn hpp
    rw [← upd_self h1, ← upd_self h8, ← upd_self h9, ← upd_self h10]
    refine WC_loop ?_
    repeat' (first
 | (refine I_WS ?_; first
 | refine W_iaddr (j := pre.length) rfl rfl rfl rfl rfl hpl ?_
 | refine W_store (cs' := [_, _]) rfl rfl (upd_same _ _ _) rfl hlim rfl rfl rfl ?_
 | (refine I_mov ?_; first
 | refine W_mov (v := .int _ _) rfl rfl rfl ?_
 | refine W_mov (v := .bool _) rfl rfl rfl ?_)
 | (refine I_bin ?_; first
 | refine W_lssT rfl rfl rfl rfl (by omega) ?_
 | (refine W_eql rfl rfl rfl rfl ?_ ?_ <;> intro _)
 | refine W_add rfl rfl rfl rfl (by first | exact w64 (by omega) | rfl) ?_)
 | (refine I_load ?_; first
 | refine W_loadE (agg := true) (d := .agg [_, _]) rfl rfl rfl hv rfl ?_
 | refine W_load (agg := false) (d := .int _ _) rfl rfl rfl (bxc rfl) (by first | exact Nat.zero_le _ | assumption | exact Nat.le_trans hlim (Nat.zero_le _) | omega) rfl ?_)
 | refine W_faddr rfl rfl rfl ?_
 | refine W_alloc rfl rfl ?_
 | refine WS_nil ?_)
 | refine WC_seq ?_
 | refine WC_opsS ?_
 | refine WC_skip ?_
 | refine WC_condT rfl ?_
 | refine WC_condF rfl ?_
 | refine WC_block ?_
 | refine WC_ret ?_)
    all_goals first
      | (refine hyes (by assumption) _ _ ?_ ?_ <;> rfl)
      | (refine hnext (by assumption) _ _ ?_ ?_ ?_ ?_ ?_ <;> first | rfl | exact Nat.le_succ_of_le hlim)
theorem s_At (n : Int) (l : List Rd) (hll : l.length ≤ 1073741824) (t : Tok) (sz : Nat) (hs : sz = 2 ∨ l = []) : EvP Γ 20 [.slice t sz (l.map Rd.e), .int .i64 n] (.tuple [.int .i64 ((atN n l).getD 0), .bool (atN n l).isSome]) := by
  refine EvP_code rfl rfl ?_
  repeat' (first
 | (refine I_WS ?_; first
 | refine W_lenM rfl rfl rfl ?_
 | (refine I_mov ?_; first
 | refine W_mov (v := .int _ _) rfl rfl rfl ?_
 | refine W_mov (v := .bool _) rfl rfl rfl ?_
 | refine W_mov (v := .slice _ _ _) rfl rfl rfl ?_)
 | refine WS_nil ?_)
 | refine WC_seq ?_
 | refine WC_opsS ?_
 | refine WC_block ?_)
  refine l_At n l hll t sz hs l [] rfl (by simp) _ _ (Nat.le_refl _) ?_ ?_ ?_ ?_ _ (fun h ρ' st' => ?_) (fun u h ρ' st' h4 h5 => ?_)
  · rfl
  · rfl
  · rfl
  · rfl
  · rw [h]
    repeat' (first
 | (refine I_WS ?_; first
 | (refine I_mov ?_; first
 | refine W_mov (v := .int _ _) rfl rfl rfl ?_
 | refine W_mov (v := .bool _) rfl rfl rfl ?_)
 | refine WS_nil ?_)
 | refine WC_seq ?_
 | refine WC_opsS ?_
 | refine WC_ret ?_)
    exact fin_ground (r' := .tuple [.int _ _, .bool _]) (.inr rfl) rfl rfl rfl
  · rw [← upd_self h4, ← upd_self h5, h]
    exact fin_ground (r' := .tuple [.int _ _, .bool _]) (.inr rfl) rfl rfl rfl
end Go.Lea
/-
  When one is to be ready at the latest; is a number one of some?
-/
namespace Go.Lea
open Go.Ev
def mn (a b : Int) : Int := if b < a then b else a
theorem le_mn {a b c : Int} : c ≤ mn a b ↔ c ≤ a ∧ c ≤ b := by unfold mn; split <;> omega
theorem mn_le {a b : Int} : mn a b ≤ a ∧ mn a b ≤ b := by unfold mn; split <;> omega
section
variable {Γ : Nat → Option FD} {ρ : Nat → D} {st : Store} {dr : Bool} {R : (Nat → D) → Store → List Fl → Prop} {l : List Op1} {g : Option (Nat × Bool)} {mv : Bool} {k : Nat} {x y : A}
theorem W_mn {κ κ' : IntKind} {n m s : Int} (hg : guardV ρ g = some true) (hx : x.ev ρ = .int κ n) (hm : mv = false) (hy : y.ev ρ = .int κ' m) (hs : mn n m = s) (h : WS Γ dr l (upd ρ k (.int κ s)) st (nx .n R)) : WS Γ dr (⟨some k, g, mv, .min [x, y]⟩ :: l) ρ st R := by
  subst hs
  exact W_min2 hg hx hm hy h
end
def latE (x : Eg) (by' sz : Int) : Int := mn (x.en - mx (takesE x sz) 1) (by' - takesE x sz - x.ow)
def latC (x : Eg) (by' sz : Int) : Prop := rightE x by' sz ∧ sz ≤ x.ro ∧ x.op ≤ latE x by' sz
instance (x : Eg) (t sz : Int) : Decidable (latC x t sz) := by unfold latC; infer_instance
def latO (x : Eg) (by' sz : Int) : Option Int := if latC x by' sz then some (latE x by' sz) else none
def latT (x : Eg) (by' sz : Int) : D := match latO x by' sz with
  | some t => .tuple [.int .i64 t, .bool true]
  | none => .tuple [.int .i64 0, .bool false]
set_option maxHeartbeats 4000000 in
theorem s_Latest (x : Eg) (by' sz : Int) : EvP Γ 75 [x.e, .int .i64 by', .int .i64 sz] (latT x by' sz) := by
  refine EvP_code rfl rfl ?_
  have hT := s_Takes x sz
  have hk := takes_in x sz
  have hr := s_right x by' sz
  by_cases h1 : rightE x by' sz
  · have h1' := h1
    obtain ⟨ht, hs, hok⟩ := h1'
    have hop := hok.2.1.1
    have hen := hok.2.1.2.1
    have how := hok.2.1.2.2
    have hm1 := le_mx (a := takesE x sz) (b := 1)
    have hmt : mx (takesE x sz) 1 ≤ 1099511627776 := mx_le.mpr ⟨hk.2, by omega⟩
    have hc1 : sz ≤ x.ro → x.op ≤ latE x by' sz → latT x by' sz = .tuple [.int .i64 (latE x by' sz), .bool true] := fun a b => by unfold latT latO; rw [if_pos ⟨h1, a, b⟩]
    have hc2 : ¬ (sz ≤ x.ro ∧ x.op ≤ latE x by' sz) → latT x by' sz = .tuple [.int .i64 0, .bool false] := fun a => by unfold latT latO; rw [if_neg (fun h => a h.2)]
    have hle := mn_le (a := x.en - mx (takesE x sz) 1) (b := by' - takesE x sz - x.ow)
    have hge : -20000000000000 ≤ mn (x.en - mx (takesE x sz) 1) (by' - takesE x sz - x.ow) := le_mn.mpr ⟨by omega, by omega⟩
    unfold latE at hc1 hc2
    rw [decide_eq_true h1] at hr
    clear hok h1
    generalize takesE x sz = k at *
    generalize e2 : mx k 1 = k1 at *
    generalize e3 : mn (x.en - k1) (by' - k - x.ow) = m at *
    generalize latT x by' sz = T at *
    repeat' (first
 | (refine I_WS ?_; first
 | refine W_mx rfl rfl rfl rfl e2 ?_
 | refine W_mn rfl rfl rfl rfl e3 ?_
 | (refine I_mov ?_; first
 | refine W_skip rfl ?_
 | refine W_mov (v := .int _ _) rfl rfl rfl ?_
 | refine W_mov (v := .bool _) rfl rfl rfl ?_)
 | (refine I_bin ?_; first
 | refine W_skip rfl ?_
 | (refine W_lss rfl rfl rfl rfl ?_ ?_ <;> intro _)
 | (refine W_gtr rfl rfl rfl rfl ?_ ?_ <;> intro _)
 | refine W_sub rfl rfl rfl rfl (by first | exact w64 (by omega) | rfl) ?_)
 | (refine I_load ?_; first
 | refine W_skip rfl ?_
 | refine W_load (agg := false) (d := .int _ _) rfl rfl rfl rfl (by first | exact Nat.zero_le _ | omega) rfl ?_
 | refine W_load (agg := true) (d := .agg [_, _, _, _, _, _, _, _]) rfl rfl rfl rfl (by first | exact Nat.zero_le _ | omega) rfl ?_)
 | (refine I_call ?_; first
 | refine W_call rfl rfl rfl hr rfl rfl ?_
 | refine W_call rfl rfl rfl hT rfl rfl ?_)
 | (refine I_pick ?_; first
 | refine W_pick (v := .bool _) rfl rfl rfl rfl ?_)
 | (refine I_box ?_; first
 | refine W_boxA rfl rfl rfl rfl rfl ?_)
 | refine W_not rfl rfl rfl ?_
 | refine W_faddr rfl rfl rfl ?_
 | refine W_skip rfl ?_
 | refine WS_nil ?_)
 | refine WC_seq ?_
 | refine WC_opsS ?_
 | refine WC_skip ?_
 | refine WC_condT rfl ?_
 | refine WC_condF rfl ?_
 | refine WC_ret ?_)
    all_goals first
      | (rw [hc1 (by omega) (by omega)]; exact fin_ground (r' := .tuple [.int _ _, .bool _]) (.inr rfl) rfl rfl rfl)
      | (rw [hc2 (by omega)]; exact fin_ground (r' := .tuple [.int _ _, .bool _]) (.inr rfl) rfl rfl rfl)
      | (exfalso; omega)
  · have hc2 : latT x by' sz = .tuple [.int .i64 0, .bool false] := by unfold latT latO; rw [if_neg (fun h => h1 h.1)]
    rw [decide_eq_false h1] at hr
    rw [hc2]
    repeat' (first
 | (refine I_WS ?_; first
 | (refine I_mov ?_; first
 | refine W_skip rfl ?_
 | refine W_mov (v := .int _ _) rfl rfl rfl ?_
 | refine W_mov (v := .bool _) rfl rfl rfl ?_)
 | (refine I_bin ?_; first
 | refine W_skip rfl ?_
 | refine W_sub rfl rfl rfl rfl (by first | exact w64 (by omega) | rfl) ?_)
 | (refine I_load ?_; first
 | refine W_skip rfl ?_
 | refine W_load (agg := false) (d := .int _ _) rfl rfl rfl rfl (by first | exact Nat.zero_le _ | omega) rfl ?_
 | refine W_load (agg := true) (d := .agg [_, _, _, _, _, _, _, _]) rfl rfl rfl rfl (by first | exact Nat.zero_le _ | omega) rfl ?_)
 | (refine I_call ?_; first
 | refine W_call rfl rfl rfl hr rfl rfl ?_
 | refine W_call rfl rfl rfl hT rfl rfl ?_)
 | (refine I_pick ?_; first
 | refine W_pick (v := .bool _) rfl rfl rfl rfl ?_)
 | (refine I_box ?_; first
 | refine W_boxA rfl rfl rfl rfl rfl ?_)
 | refine W_not rfl rfl rfl ?_
 | refine W_min2 rfl rfl rfl rfl ?_
 | refine W_max2 rfl rfl rfl rfl ?_
 | refine W_faddr rfl rfl rfl ?_
 | refine W_skip rfl ?_
 | refine WS_nil ?_)
 | refine WC_seq ?_
 | refine WC_opsS ?_
 | refine WC_condT rfl ?_
 | refine WC_ret ?_)
    all_goals exact fin_ground (r' := .tuple [.int _ _, .bool _]) (.inr rfl) rfl rfl rfl
theorem in_mid {l pre post : List Int} {x : Int} (h : l = pre ++ x :: post) : l[pre.length]? = some x := by rw [h]; simp
def idxI (n : Int) : List Int → Int → Int
  | [], _ => -1
  | x :: L, k => if n = x then k else idxI n L (k + 1)
theorem idxI_ge (n : Int) : ∀ (L : List Int) (k : Int), 0 ≤ k → ((0 ≤ idxI n L k) ↔ n ∈ L) ∧ -1 ≤ idxI n L k
  | [], k, h => by simp [idxI]
  | x :: L, k, h => by
    obtain ⟨h1, h2⟩ := idxI_ge n L (k + 1) (by omega)
    unfold idxI
    by_cases e : n = x
    · rw [if_pos e]; simp [e]; omega
    · rw [if_neg e]; simp [e, h1, h2]
theorem l_idx (n : Int) (L : List Int) (hll : L.length ≤ 1073741824) (t : Tok) (s : Nat) (hs : s = 1 ∨ L = []) : ∀ (post pre : List Int), L = pre ++ post → ∀ (ρ : Nat → D) (st : Store),
    ρ 0 = .slice t s (L.map (D.int .i64)) → ρ 1 = .int .i64 n → ρ 7 = .int .i64 L.length → ρ 8 = .int .i64 pre.length → ∀ (Q : X → (Nat → D) → Store → Prop),
    (idxI n post pre.length = -1 → ∀ ρ', Q (.exit 0) ρ' st) → (∀ ρ', ρ' 4 = .int .i64 (idxI n post pre.length) → Q .ret ρ' st) → WC Γ (.loop c_slices_Index_int_l0) ρ st Q := by
  intro post
  induction post with
  | nil =>
    intro pre hpp ρ st h0 h1 h7 h8 Q hQ hQ2
    rw [List.append_nil] at hpp
    subst hpp
    rw [← upd_self h0, ← upd_self h1, ← upd_self h7, ← upd_self h8]
    refine WC_loop ?_
    repeat' (first
 | (refine I_WS ?_; first
 | (refine I_bin ?_; first
 | refine W_lssF rfl rfl rfl rfl (by omega) ?_)
 | refine WS_nil ?_)
 | refine WC_seq ?_
 | refine WC_opsS ?_
 | refine WC_condF rfl ?_
 | refine WC_exit ?_)
    exact hQ rfl _
  | cons x post ih =>
    intro pre hpp ρ st h0 h1 h7 h8 Q hQ hQ2
    have hv := in_mid hpp
    have hlen : L.length = pre.length + (post.length + 1) := by rw [hpp]; simp
    have hz : s = 1 := hs.resolve_right (by rintro rfl; simp at hlen)
    subst hz
    have hpl : pre.length < (L.map (D.int .i64)).length := by simp; omega
    have hltl : (pre.length : Int) < L.length := by omega
    have hnext : idxI n (x :: post) pre.length = idxI n post ((pre.length : Int) + 1) → ∀ (ρ' : Nat → D), ρ' 0 = .slice t 1 (L.map (D.int .i64)) → ρ' 1 = .int .i64 n → ρ' 7 = .int .i64 L.length → ρ' 8 = .int .i64 ((pre.length : Int) + 1) → WC Γ (.loop c_slices_Index_int_l0) ρ' st Q := fun hx ρ' k0 k1 k7 k8 =>
      ih (pre ++ [x]) (by simp [hpp]) ρ' st k0 k1 k7 (by rw [List.length_append]; exact k8) Q (fun h => hQ (by rw [hx]; simpa using h)) (fun ρ'' h => hQ2 ρ'' (by rw [hx]; simpa using h))
    clear ih hQ hpp
    rw [← upd_self h0, ← upd_self h1, ← upd_self h7, ← upd_self h8]
    refine WC_loop ?_
    by_cases hx : n = x
    · rw [show idxI n (x :: post) pre.length = pre.length by simp [idxI, hx]] at hQ2
      repeat' (first
 | (refine I_WS ?_; first
 | refine W_iaddr (j := pre.length) rfl rfl rfl rfl rfl hpl ?_
 | refine W_eqlT rfl rfl rfl rfl hx ?_
 | (refine I_mov ?_; first
 | refine W_mov (v := .int _ _) rfl rfl rfl ?_
 | refine W_mov (v := .slice _ _ _) rfl rfl rfl ?_)
 | (refine I_bin ?_; first
 | refine W_lssT rfl rfl rfl rfl (by omega) ?_)
 | (refine I_load ?_; first
 | refine W_loadE (agg := false) (d := .int _ _) rfl rfl rfl hv rfl ?_)
 | refine WS_nil ?_)
 | refine WC_seq ?_
 | refine WC_opsS ?_
 | refine WC_skip ?_
 | refine WC_condT rfl ?_
 | refine WC_block ?_
 | refine WC_ret ?_)
      exact hQ2 _ rfl
    · repeat' (first
 | (refine I_WS ?_; first
 | refine W_iaddr (j := pre.length) rfl rfl rfl rfl rfl hpl ?_
 | refine W_eqlF rfl rfl rfl rfl hx ?_
 | (refine I_mov ?_; first
 | refine W_mov (v := .int _ _) rfl rfl rfl ?_
 | refine W_mov (v := .slice _ _ _) rfl rfl rfl ?_)
 | (refine I_bin ?_; first
 | refine W_lssT rfl rfl rfl rfl (by omega) ?_
 | refine W_add rfl rfl rfl rfl (by first | exact w64 (by omega) | rfl) ?_)
 | (refine I_load ?_; first
 | refine W_loadE (agg := false) (d := .int _ _) rfl rfl rfl hv rfl ?_)
 | refine WS_nil ?_)
 | refine WC_seq ?_
 | refine WC_opsS ?_
 | refine WC_skip ?_
 | refine WC_condT rfl ?_
 | refine WC_condF rfl ?_
 | refine WC_block ?_)
      refine hnext (by simp [idxI, hx]) _ ?_ ?_ ?_ ?_ <;> rfl
theorem s_Index (n : Int) (L : List Int) (hll : L.length ≤ 1073741824) (t : Tok) (s : Nat) (hs : s = 1 ∨ L = []) : EvP Γ 77 [.slice t s (L.map (D.int .i64)), .int .i64 n] (.int .i64 (idxI n L 0)) := by
  refine EvP_code rfl rfl ?_
  repeat' (first
 | (refine I_WS ?_; first
 | refine W_lenM rfl rfl rfl ?_
 | (refine I_mov ?_; first
 | refine W_mov (v := .int _ _) rfl rfl rfl ?_
 | refine W_mov (v := .slice _ _ _) rfl rfl rfl ?_)
 | refine WS_nil ?_)
 | refine WC_seq ?_
 | refine WC_opsS ?_
 | refine WC_block ?_)
  refine l_idx n L hll t s hs L [] rfl _ _ ?_ ?_ ?_ ?_ _ (fun h ρ' => ?_) (fun ρ' h => ?_)
  all_goals first | rfl | skip
  · rw [show idxI n L 0 = -1 from h]
    repeat' (first
 | (refine I_WS ?_; first
 | (refine I_mov ?_; first
 | refine W_mov (v := .int _ _) rfl rfl rfl ?_)
 | refine WS_nil ?_)
 | refine WC_seq ?_
 | refine WC_opsS ?_
 | refine WC_ret ?_)
    exact fin_int (.inr rfl) rfl rfl
  · rw [← upd_self h]
    exact fin_int (.inr rfl) rfl rfl
theorem s_Contains (n : Int) (L : List Int) (hll : L.length ≤ 1073741824) (t : Tok) (s : Nat) (hs : s = 1 ∨ L = []) : EvP Γ 53 [.slice t s (L.map (D.int .i64)), .int .i64 n] (.bool (decide (n ∈ L))) := by
  refine EvP_code rfl rfl ?_
  have hI := fun t => s_Index n L hll t s hs
  have h1 := (idxI_ge n L 0 (Int.le_refl _)).1
  generalize idxI n L 0 = j at *
  by_cases hn : n ∈ L
  · rw [decide_eq_true hn]
    have hj : 0 ≤ j := h1.2 hn
    repeat' (first
 | (refine I_WS ?_; first
 | (refine I_mov ?_; first
 | refine W_mov (v := .int _ _) rfl rfl rfl ?_
 | refine W_mov (v := .bool _) rfl rfl rfl ?_
 | refine W_mov (v := .slice _ _ _) rfl rfl rfl ?_)
 | (refine I_bin ?_; first
 | refine W_geqT rfl rfl rfl rfl (by omega) ?_)
 | (refine I_call ?_; first
 | refine W_call rfl rfl rfl (hI _) rfl rfl ?_)
 | refine WS_nil ?_)
 | refine WC_seq ?_
 | refine WC_opsS ?_
 | refine WC_ret ?_)
    exact fin_bool (.inr rfl) rfl rfl
  · rw [decide_eq_false hn]
    have hj : j < 0 := by
      rcases Int.lt_or_le j 0 with h | h
      · exact h
      · exact absurd (h1.1 h) hn
    repeat' (first
 | (refine I_WS ?_; first
 | (refine I_mov ?_; first
 | refine W_mov (v := .int _ _) rfl rfl rfl ?_
 | refine W_mov (v := .bool _) rfl rfl rfl ?_
 | refine W_mov (v := .slice _ _ _) rfl rfl rfl ?_)
 | (refine I_bin ?_; first
 | refine W_geqF rfl rfl rfl rfl (by omega) ?_)
 | (refine I_call ?_; first
 | refine W_call rfl rfl rfl (hI _) rfl rfl ?_)
 | refine WS_nil ?_)
 | refine WC_seq ?_
 | refine WC_opsS ?_
 | refine WC_ret ?_)
    exact fin_bool (.inr rfl) rfl rfl
end Go.Lea
/-
  The edges of IDs, one behind the other; is it right to ask?
-/
namespace Go.Lea
open Go.Ev
def lastE (id : Int) (l : List Eg) : Option Eg := l.foldl (fun o x => if id = x.id then some x else o) none
theorem lastE_snoc (id : Int) (l : List Eg) (x : Eg) : lastE id (l ++ [x]) = if id = x.id then some x else lastE id l := by simp [lastE]
def KVE (kv : List (Int × D)) (l : List Eg) : Prop := ∀ id, kvGet id kv = (lastE id l).map Eg.e
theorem KVE.set {kv : List (Int × D)} {l : List Eg} (h : KVE kv l) (x : Eg) : KVE (kvSet x.id x.e kv) (l ++ [x]) := fun id => by
  rw [kvGet_set, lastE_snoc, h id]
  split <;> rfl
set_option maxHeartbeats 4000000 in
theorem l_by (l : List Eg) (hll : l.length ≤ 1073741824) (t : Tok) (sz : Nat) (hs : sz = 8 ∨ l = []) (p : Nat) (v1 v2 v6 : D) : ∀ (post pre : List Eg), l = pre ++ post → ∀ (kv : List (Int × D)), KVE kv pre → ∀ (ρ : Nat → D) (st : Store), st.lim ≤ p → p < st.next → st.boxes p = some (.map kv) →
    ρ 1 = v1 → ρ 2 = v2 → ρ 6 = v6 → ρ 8 = .map p → ρ 16 = .slice t sz (l.map Eg.e) → ρ 17 = .int .i64 l.length → ρ 18 = .int .i64 pre.length → ∀ (Q : X → (Nat → D) → Store → Prop),
    (∀ ρ' st' kv', KVE kv' l → st'.lim ≤ p → p < st'.next → st'.boxes p = some (.map kv') → st'.tlim = st.tlim → st'.toks = st.toks → st'.ntok = st.ntok → ρ' 1 = v1 → ρ' 2 = v2 → ρ' 6 = v6 → ρ' 8 = .map p → Q (.exit 0) ρ' st') → WC Γ (.loop c_path_steps_l0) ρ st Q := by
  intro post
  induction post with
  | nil =>
    intro pre hpp kv hk ρ st hlim hnx hb h1 h2 h6 h8 h16 h17 h18 Q hQ
    rw [List.append_nil] at hpp
    subst hpp
    rw [← upd_self h1, ← upd_self h2, ← upd_self h6, ← upd_self h8, ← upd_self h16, ← upd_self h17, ← upd_self h18]
    refine WC_loop ?_
    repeat' (first
 | (refine I_WS ?_; first
 | (refine I_bin ?_; first
 | refine W_lssF rfl rfl rfl rfl (by omega) ?_)
 | refine WS_nil ?_)
 | refine WC_seq ?_
 | refine WC_opsS ?_
 | refine WC_condF rfl ?_
 | refine WC_exit ?_)
    exact hQ _ _ kv hk hlim hnx hb rfl rfl rfl rfl rfl rfl rfl
  | cons x post ih =>
    intro pre hpp kv hk ρ st hlim hnx hb h1 h2 h6 h8 h16 h17 h18 Q hQ
    have hv := eg_mid hpp
    have hlen : l.length = pre.length + (post.length + 1) := by rw [hpp]; simp
    have hz : sz = 8 := hs.resolve_right (by rintro rfl; simp at hlen)
    subst hz
    have hpl : pre.length < (l.map Eg.e).length := by simp; omega
    have hltl : (pre.length : Int) < l.length := by omega
    have hpn : p ≠ st.next := Nat.ne_of_lt hnx
    have hlim2 : st.lim ≤ st.next := by omega
    have hnext : ∀ (ρ' : Nat → D) (st' : Store), st'.lim ≤ p → p < st'.next → st'.boxes p = some (.map (kvSet x.id x.e kv)) → st'.tlim = st.tlim → st'.toks = st.toks → st'.ntok = st.ntok → ρ' 1 = v1 → ρ' 2 = v2 → ρ' 6 = v6 → ρ' 8 = .map p → ρ' 16 = .slice t 8 (l.map Eg.e) → ρ' 17 = .int .i64 l.length → ρ' 18 = .int .i64 ((pre.length : Int) + 1) → WC Γ (.loop c_path_steps_l0) ρ' st' Q := fun ρ' st' e1 e2 e3 e4 e5 e6 k1 k2 k6 k8 k16 k17 k18 =>
      ih (pre ++ [x]) (by simp [hpp]) _ (hk.set x) ρ' st' e1 e2 e3 k1 k2 k6 k8 k16 k17 (by rw [List.length_append]; exact k18) Q (fun ρ'' st'' kv' f0 f1 f2 f3 f4 f5 f6 => hQ ρ'' st'' kv' f0 f1 f2 f3 (f4.trans e4) (f5.trans e5) (f6.trans e6))
    clear ih hQ hpp
    rw [← upd_self h1, ← upd_self h2, ← upd_self h6, ← upd_self h8, ← upd_self h16, ← upd_self h17, ← upd_self h18]
    refine WC_loop ?_
    repeat' (first
 | (refine I_WS ?_; first
 | refine W_iaddr (j := pre.length) rfl rfl rfl rfl rfl hpl ?_
 | refine W_store (cs' := [_, _, _, _, _, _, _, _]) rfl rfl (upd_same _ _ _) rfl hlim2 rfl rfl rfl ?_
 | refine W_mapset (v := x.e) rfl rfl rfl ((upd_ne _ _ hpn).trans ((upd_ne _ _ hpn).trans hb)) hlim rfl rfl ?_
 | (refine I_mov ?_; first
 | refine W_mov (v := .int _ _) rfl rfl rfl ?_
 | refine W_mov (v := .map _) rfl rfl rfl ?_)
 | (refine I_bin ?_; first
 | refine W_lssT rfl rfl rfl rfl (by omega) ?_
 | refine W_add rfl rfl rfl rfl (by first | exact w64 (by omega) | rfl) ?_)
 | (refine I_load ?_; first
 | refine W_loadE (agg := true) (d := .agg [_, _, _, _, _, _, _, _]) rfl rfl rfl hv rfl ?_
 | refine W_load (agg := false) (d := .int _ _) rfl rfl rfl (bxc rfl) (by first | exact Nat.zero_le _ | assumption | exact Nat.le_trans hlim (Nat.zero_le _) | omega) rfl ?_
 | refine W_load (agg := true) (d := .agg [_, _, _, _, _, _, _, _]) rfl rfl rfl (bxc rfl) (by first | exact Nat.zero_le _ | assumption | exact Nat.le_trans hlim (Nat.zero_le _) | omega) rfl ?_)
 | refine W_faddr rfl rfl rfl ?_
 | refine W_alloc rfl rfl ?_
 | refine WS_nil ?_)
 | refine WC_seq ?_
 | refine WC_opsS ?_
 | refine WC_skip ?_
 | refine WC_condT rfl ?_
 | refine WC_block ?_)
    refine hnext _ _ ?_ ?_ ?_ ?_ ?_ ?_ ?_ ?_ ?_ ?_ ?_ ?_ ?_
    · exact hlim
    · exact Nat.lt_succ_of_lt hnx
    · exact upd_same _ _ _
    all_goals rfl
def stepsM (l : List Eg) : List Int → Int → Option (List Eg)
  | [], _ => some []
  | id :: r, fr => match lastE id l with
    | some e => if e.fr = fr then (stepsM l r e.to).map (e :: ·) else none
    | none => none
theorem l_ids (l : List Eg) (ids : List Int) (hil : ids.length ≤ 1073741824) (t : Tok) (sz : Nat) (hs : sz = 1 ∨ ids = []) (p : Nat) (kv : List (Int × D)) (hk : KVE kv l) : ∀ (post pre : List Int), ids = pre ++ post → ∀ (ρ : Nat → D) (st : Store) (cur : Int) (out : List Eg) (tk : Tok) (so : Nat), out.length ≤ pre.length → st.lim ≤ p → p < st.next → st.boxes p = some (.map kv) → st.tlim ≤ st.ntok → AppOK st 8 tk so (out.map Eg.e) →
    ρ 2 = .int .i64 cur → ρ 6 = .slice tk so (out.map Eg.e) → ρ 8 = .map p → ρ 27 = .slice t sz (ids.map (D.int .i64)) → ρ 28 = .int .i64 ids.length → ρ 29 = .int .i64 pre.length → ∀ (Q : X → (Nat → D) → Store → Prop),
    (∀ m, stepsM l post cur = some m → ∀ ρ' st' tk' so', AppOK st' 8 tk' so' ((out ++ m).map Eg.e) → ρ' 6 = .slice tk' so' ((out ++ m).map Eg.e) → Q (.exit 2) ρ' st') → (stepsM l post cur = none → ∀ ρ' st', ρ' 6 = .slice .isnil 0 [] → ρ' 7 = .bool false → Q .ret ρ' st') → WC Γ (.loop c_path_steps_l1) ρ st Q := by
  intro post
  induction post with
  | nil =>
    intro pre hpp ρ st cur out tk so hol hlim hnx hb htl hO h2 h6 h8 h27 h28 h29 Q hQ hQ2
    rw [List.append_nil] at hpp
    subst hpp
    rw [← upd_self h2, ← upd_self h6, ← upd_self h8, ← upd_self h27, ← upd_self h28, ← upd_self h29]
    refine WC_loop ?_
    repeat' (first
 | (refine I_WS ?_; first
 | (refine I_bin ?_; first
 | refine W_lssF rfl rfl rfl rfl (by omega) ?_)
 | refine WS_nil ?_)
 | refine WC_seq ?_
 | refine WC_opsS ?_
 | refine WC_condF rfl ?_
 | refine WC_exit ?_)
    exact hQ [] rfl _ _ tk so (by simpa using hO) (by rw [List.append_nil]; rfl)
  | cons id post ih =>
    intro pre hpp ρ st cur out tk so hol hlim hnx hb htl hO h2 h6 h8 h27 h28 h29 Q hQ hQ2
    have hv : ids[pre.length]? = some id := by rw [hpp]; simp
    have hlen : ids.length = pre.length + (post.length + 1) := by rw [hpp]; simp
    have hz : sz = 1 := hs.resolve_right (by rintro rfl; simp at hlen)
    subst hz
    have hpl : pre.length < (ids.map (D.int .i64)).length := by simp; omega
    have hltl : (pre.length : Int) < ids.length := by omega
    have hpn : p ≠ st.next := Nat.ne_of_lt hnx
    have hlim2 : st.lim ≤ st.next := by omega
    have hkv := hk id
    rw [← upd_self h2, ← upd_self h6, ← upd_self h8, ← upd_self h27, ← upd_self h28, ← upd_self h29]
    refine WC_loop ?_
    cases hle : lastE id l with
    | none =>
      rw [hle] at hkv
      have hg1 : (kvGet id kv).getD (.agg [.int .i64 0, .int .i64 0, .int .i64 0, .int .i64 0, .int .i64 0, .int .i64 0, .int .i64 0, .int .i64 0]) = .agg [.int .i64 0, .int .i64 0, .int .i64 0, .int .i64 0, .int .i64 0, .int .i64 0, .int .i64 0, .int .i64 0] := by rw [hkv]; rfl
      have hg2 : (kvGet id kv).isSome = false := by rw [hkv]; rfl
      have hn : stepsM l (id :: post) cur = none := by simp only [stepsM, hle]
      clear ih hQ
      repeat' (first
 | (refine I_WS ?_; first
 | refine W_iaddr (j := pre.length) rfl rfl rfl rfl rfl hpl ?_
 | refine W_store (cs' := [_, _, _, _, _, _, _, _]) rfl rfl (upd_same _ _ _) rfl hlim2 rfl rfl rfl ?_
 | refine W_lookupT rfl rfl rfl hb hg1 hg2 rfl ?_
 | (refine I_mov ?_; first
 | refine W_skip rfl ?_
 | refine W_mov (v := .int _ _) rfl rfl rfl ?_
 | refine W_mov (v := .bool _) rfl rfl rfl ?_
 | refine W_mov (v := .slice _ _ _) rfl rfl rfl ?_
 | refine W_mov (v := .tuple _) rfl rfl rfl ?_
 | refine W_mov (v := .map _) rfl rfl rfl ?_)
 | (refine I_bin ?_; first
 | refine W_skip rfl ?_
 | refine W_lssT rfl rfl rfl rfl (by omega) ?_)
 | (refine I_load ?_; first
 | refine W_skip rfl ?_
 | refine W_loadE (agg := false) (d := .int _ _) rfl rfl rfl hv rfl ?_)
 | (refine I_pick ?_; first
 | refine W_pick (v := .bool _) rfl rfl rfl rfl ?_)
 | (refine I_extract ?_; first
 | refine W_extract (d := .bool _) rfl rfl rfl rfl ?_
 | refine W_extract (d := .agg _) rfl rfl rfl rfl ?_)
 | refine W_not rfl rfl rfl ?_
 | refine W_alloc rfl rfl ?_
 | refine W_skip rfl ?_
 | refine WS_nil ?_)
 | refine WC_seq ?_
 | refine WC_opsS ?_
 | refine WC_skip ?_
 | refine WC_condT rfl ?_
 | refine WC_block ?_
 | refine WC_ret ?_)
      all_goals exact hQ2 hn _ _ rfl rfl
    | some e =>
      rw [hle] at hkv
      have hg1 : (kvGet id kv).getD (.agg [.int .i64 0, .int .i64 0, .int .i64 0, .int .i64 0, .int .i64 0, .int .i64 0, .int .i64 0, .int .i64 0]) = e.e := by rw [hkv]; rfl
      have hg2 : (kvGet id kv).isSome = true := by rw [hkv]; rfl
      have hstep : stepsM l (id :: post) cur = if e.fr = cur then (stepsM l post e.to).map (e :: ·) else none := by simp only [stepsM, hle]
      by_cases hfr : e.fr = cur
      · rw [if_pos hfr] at hstep
        have hbd : ((out.map Eg.e).length + [e.e].length) * 64 ≤ 140737488355328 := by simp; omega
        have hnext : ∀ (ρ' : Nat → D) (st' : Store) (tk' : Tok) (so' : Nat), st'.lim ≤ p → p < st'.next → st'.boxes p = some (.map kv) → st'.tlim ≤ st'.ntok → AppOK st' 8 tk' so' ((out ++ [e]).map Eg.e) → ρ' 2 = .int .i64 e.to → ρ' 6 = .slice tk' so' ((out ++ [e]).map Eg.e) → ρ' 8 = .map p → ρ' 27 = .slice t 1 (ids.map (D.int .i64)) → ρ' 28 = .int .i64 ids.length → ρ' 29 = .int .i64 ((pre.length : Int) + 1) → WC Γ (.loop c_path_steps_l1) ρ' st' Q := fun ρ' st' tk' so' e1 e2 e3 e4 e5 k2 k6 k8 k27 k28 k29 =>
          ih (pre ++ [id]) (by simp [hpp]) ρ' st' e.to (out ++ [e]) tk' so' (by simp; omega) e1 e2 e3 e4 e5 k2 k6 k8 k27 k28 (by rw [List.length_append]; exact k29) Q
            (fun m hm ρ'' st'' tk'' so'' f1 f2 => hQ (e :: m) (by rw [hstep, hm]; rfl) ρ'' st'' tk'' so'' (by simpa using f1) (by rw [f2]; simp)) (fun hm ρ'' st'' f1 f2 => hQ2 (by rw [hstep, hm]; rfl) ρ'' st'' f1 f2)
        clear ih hQ hQ2 hstep hkv
        repeat' (first
 | (refine I_WS ?_; first
 | refine W_iaddr (j := pre.length) rfl rfl rfl rfl rfl hpl ?_
 | refine W_store (cs' := [_, _, _, _, _, _, _, _]) rfl rfl (upd_same _ _ _) rfl hlim2 rfl rfl rfl ?_
 | (refine W_app rfl rfl rfl hO (.inl rfl) hbd htl rfl ?_ <;> intro k' st' c1 c2 c3 c4 c5 c6 c7)
 | refine W_lookupT rfl rfl rfl hb hg1 hg2 rfl ?_
 | (refine I_mov ?_; first
 | refine W_mov (v := .int _ _) rfl rfl rfl ?_
 | refine W_mov (v := .bool _) rfl rfl rfl ?_
 | refine W_mov (v := .slice _ _ _) rfl rfl rfl ?_
 | refine W_mov (v := .tuple _) rfl rfl rfl ?_
 | refine W_mov (v := .map _) rfl rfl rfl ?_)
 | (refine I_bin ?_; first
 | refine W_lssT rfl rfl rfl rfl (by omega) ?_
 | refine W_neqF rfl rfl rfl rfl (by omega) ?_
 | refine W_add rfl rfl rfl rfl (by first | exact w64 (by omega) | rfl) ?_)
 | (refine I_load ?_; first
 | refine W_loadE (agg := false) (d := .int _ _) rfl rfl rfl hv rfl ?_
 | refine W_load (agg := false) (d := .int _ _) rfl rfl rfl ((congrArg (fun f => Option.bind (f st.next) Box.cs) c1).trans (bxc rfl)) (Nat.le_trans (Nat.le_of_eq c3) hlim2) rfl ?_
 | refine W_load (agg := false) (d := .int _ _) rfl rfl rfl (bxc rfl) (by first | exact Nat.zero_le _ | assumption | exact Nat.le_trans hlim (Nat.zero_le _) | omega) rfl ?_
 | refine W_load (agg := true) (d := .agg [_, _, _, _, _, _, _, _]) rfl rfl rfl (bxc rfl) (by first | exact Nat.zero_le _ | assumption | exact Nat.le_trans hlim (Nat.zero_le _) | omega) rfl ?_)
 | (refine I_pick ?_; first
 | refine W_pick (v := .bool _) rfl rfl rfl rfl ?_)
 | (refine I_extract ?_; first
 | refine W_extract (d := .bool _) rfl rfl rfl rfl ?_
 | refine W_extract (d := .agg _) rfl rfl rfl rfl ?_)
 | refine W_not rfl rfl rfl ?_
 | refine W_faddr rfl rfl rfl ?_
 | refine W_alloc rfl rfl ?_
 | refine W_bslice (ys := [_]) rfl rfl rfl (by decide) rfl ?_
 | refine WS_nil ?_)
 | refine okF_intro rfl ?_
 | refine WC_seq ?_
 | refine WC_opsS ?_
 | refine WC_drawS ?_
 | refine WC_skip ?_
 | refine WC_condT rfl ?_
 | refine WC_condF rfl ?_
 | refine WC_block ?_)
        all_goals first
          | (exfalso; omega)
          | skip
        refine hnext _ _ (.own k') 8 ?_ ?_ ?_ c5 (.inr ⟨k', rfl, c6, c7, rfl⟩) ?_ ?_ ?_ ?_ ?_ ?_
        · rw [c3]; exact hlim
        · rw [c2]; exact Nat.lt_succ_of_lt hnx
        · rw [c1]; exact (upd_ne _ _ hpn).trans ((upd_ne _ _ hpn).trans hb)
        all_goals first | rfl | (rw [List.map_append]; rfl)
      · rw [if_neg hfr] at hstep
        clear ih hQ hkv
        repeat' (first
 | (refine I_WS ?_; first
 | refine W_iaddr (j := pre.length) rfl rfl rfl rfl rfl hpl ?_
 | refine W_store (cs' := [_, _, _, _, _, _, _, _]) rfl rfl (upd_same _ _ _) rfl hlim2 rfl rfl rfl ?_
 | refine W_lookupT rfl rfl rfl hb hg1 hg2 rfl ?_
 | (refine I_mov ?_; first
 | refine W_mov (v := .int _ _) rfl rfl rfl ?_
 | refine W_mov (v := .bool _) rfl rfl rfl ?_
 | refine W_mov (v := .slice _ _ _) rfl rfl rfl ?_
 | refine W_mov (v := .tuple _) rfl rfl rfl ?_
 | refine W_mov (v := .map _) rfl rfl rfl ?_)
 | (refine I_bin ?_; first
 | refine W_lssT rfl rfl rfl rfl (by omega) ?_
 | refine W_neqT rfl rfl rfl rfl (by omega) ?_)
 | (refine I_load ?_; first
 | refine W_loadE (agg := false) (d := .int _ _) rfl rfl rfl hv rfl ?_
 | refine W_load (agg := false) (d := .int _ _) rfl rfl rfl (bxc rfl) (by first | exact Nat.zero_le _ | assumption | exact Nat.le_trans hlim (Nat.zero_le _) | omega) rfl ?_)
 | (refine I_pick ?_; first
 | refine W_pick (v := .bool _) rfl rfl rfl rfl ?_)
 | (refine I_extract ?_; first
 | refine W_extract (d := .bool _) rfl rfl rfl rfl ?_
 | refine W_extract (d := .agg _) rfl rfl rfl rfl ?_)
 | refine W_not rfl rfl rfl ?_
 | refine W_faddr rfl rfl rfl ?_
 | refine W_alloc rfl rfl ?_
 | refine WS_nil ?_)
 | refine WC_seq ?_
 | refine WC_opsS ?_
 | refine WC_skip ?_
 | refine WC_condT rfl ?_
 | refine WC_block ?_
 | refine WC_ret ?_)
        all_goals first
          | exact hQ2 hstep _ _ rfl rfl
          | (exfalso; omega)
end Go.Lea
/-
  A walk by contacts; is it right to ask?
-/
namespace Go.Lea
open Go.Ev
theorem s_steps1 (l : List Eg) (hll : l.length ≤ 1073741824) (ids : List Int) (hil : ids.length ≤ 1073741824) (fr : Int) (m : List Eg) (hm : stepsM l ids fr = some m) (t : Tok) (s : Nat) (hs : s = 8 ∨ l = []) (t' : Tok) (s' : Nat) (hs' : s' = 1 ∨ ids = []) :
    EvX Γ 33 [.slice t s (l.map Eg.e), .slice t' s' (ids.map (D.int .i64)), .int .i64 fr] (IsT Eg.e 8 m [.bool true]) := by
  refine EvX_code rfl rfl ?_
  repeat' (first
 | (refine I_WS ?_; first
 | refine W_lenM rfl rfl rfl ?_
 | (refine I_mov ?_; first
 | refine W_mov (v := .int _ _) rfl rfl rfl ?_
 | refine W_mov (v := .bool _) rfl rfl rfl ?_
 | refine W_mov (v := .slice _ _ _) rfl rfl rfl ?_
 | refine W_mov (v := .map _) rfl rfl rfl ?_)
 | refine W_mkmap rfl rfl ?_
 | refine WS_nil ?_)
 | refine WC_seq ?_
 | refine WC_opsS ?_
 | refine WC_block ?_)
  refine l_by l hll t s hs 0 (.slice t' s' (ids.map (D.int .i64))) (.int .i64 fr) (.slice .isnil 0 []) l [] rfl [] (fun id => rfl) _ _ ?_ ?_ ?_ ?_ ?_ ?_ ?_ ?_ ?_ ?_ _ (fun ρ' st' kv hk e1 e2 e3 e4 e5 e6 h1 h2 h6 h8 => ?_)
  · exact Nat.le_refl _
  · exact Nat.succ_pos _
  all_goals first | rfl | skip
  have htl : st'.tlim ≤ st'.ntok := by rw [e4, e6]; exact Nat.le_refl _
  rw [← upd_self h1, ← upd_self h2, ← upd_self h6, ← upd_self h8]
  repeat' (first
 | (refine I_WS ?_; first
 | refine W_lenM rfl rfl rfl ?_
 | (refine I_mov ?_; first
 | refine W_mov (v := .int _ _) rfl rfl rfl ?_
 | refine W_mov (v := .slice _ _ _) rfl rfl rfl ?_)
 | refine WS_nil ?_)
 | refine WC_seq ?_
 | refine WC_opsS ?_
 | refine WC_block ?_)
  refine l_ids l ids hil t' s' hs' 0 kv hk ids [] rfl _ _ fr [] .isnil 0 (Nat.le_refl _) e1 e2 e3 htl (.inl ⟨.inl rfl, .inr ⟨rfl, rfl⟩⟩) ?_ ?_ ?_ ?_ ?_ ?_ _ (fun m' hm' ρ' st'' tk so hO h6 => ?_) (fun hm' => by rw [hm] at hm'; cases hm')
  all_goals first | rfl | skip
  rw [hm] at hm'
  cases hm'
  rw [List.nil_append] at hO h6
  rw [← upd_self h6]
  repeat' (first
 | (refine I_WS ?_; first
 | (refine I_mov ?_; first
 | refine W_mov (v := .bool _) rfl rfl rfl ?_
 | refine W_mov (v := .slice _ _ _) rfl rfl rfl ?_)
 | refine WS_nil ?_)
 | refine WC_seq ?_
 | refine WC_opsS ?_
 | refine WC_ret ?_)
  have hso : so = 8 ∨ m = [] := by
    rcases hO with ⟨_, h | ⟨_, h⟩⟩ | ⟨_, _, _, _, h⟩
    · exact .inl h
    · exact .inr (by simpa using h)
    · exact .inl h
  exact finX_T (us := [.bool true]) (.inr rfl) rfl rfl hso rfl rfl
theorem s_steps0 (l : List Eg) (hll : l.length ≤ 1073741824) (ids : List Int) (hil : ids.length ≤ 1073741824) (fr : Int) (hm : stepsM l ids fr = none) (t : Tok) (s : Nat) (hs : s = 8 ∨ l = []) (t' : Tok) (s' : Nat) (hs' : s' = 1 ∨ ids = []) :
    EvP Γ 33 [.slice t s (l.map Eg.e), .slice t' s' (ids.map (D.int .i64)), .int .i64 fr] (.tuple [.slice .isnil 0 [], .bool false]) := by
  refine EvP_code rfl rfl ?_
  repeat' (first
 | (refine I_WS ?_; first
 | refine W_lenM rfl rfl rfl ?_
 | (refine I_mov ?_; first
 | refine W_mov (v := .int _ _) rfl rfl rfl ?_
 | refine W_mov (v := .bool _) rfl rfl rfl ?_
 | refine W_mov (v := .slice _ _ _) rfl rfl rfl ?_
 | refine W_mov (v := .map _) rfl rfl rfl ?_)
 | refine W_mkmap rfl rfl ?_
 | refine WS_nil ?_)
 | refine WC_seq ?_
 | refine WC_opsS ?_
 | refine WC_block ?_)
  refine l_by l hll t s hs 0 (.slice t' s' (ids.map (D.int .i64))) (.int .i64 fr) (.slice .isnil 0 []) l [] rfl [] (fun id => rfl) _ _ ?_ ?_ ?_ ?_ ?_ ?_ ?_ ?_ ?_ ?_ _ (fun ρ' st' kv hk e1 e2 e3 e4 e5 e6 h1 h2 h6 h8 => ?_)
  · exact Nat.le_refl _
  · exact Nat.succ_pos _
  all_goals first | rfl | skip
  have htl : st'.tlim ≤ st'.ntok := by rw [e4, e6]; exact Nat.le_refl _
  rw [← upd_self h1, ← upd_self h2, ← upd_self h6, ← upd_self h8]
  repeat' (first
 | (refine I_WS ?_; first
 | refine W_lenM rfl rfl rfl ?_
 | (refine I_mov ?_; first
 | refine W_mov (v := .int _ _) rfl rfl rfl ?_
 | refine W_mov (v := .slice _ _ _) rfl rfl rfl ?_)
 | refine WS_nil ?_)
 | refine WC_seq ?_
 | refine WC_opsS ?_
 | refine WC_block ?_)
  refine l_ids l ids hil t' s' hs' 0 kv hk ids [] rfl _ _ fr [] .isnil 0 (Nat.le_refl _) e1 e2 e3 htl (.inl ⟨.inl rfl, .inr ⟨rfl, rfl⟩⟩) ?_ ?_ ?_ ?_ ?_ ?_ _ (fun m' hm' => by rw [hm] at hm'; cases hm') (fun _ ρ' st'' h6 h7 => ?_)
  all_goals first | rfl | skip
  rw [← upd_self h6, ← upd_self h7]
  exact ⟨.inr rfl, rfl⟩
structure Hp where
  id : Int
  se : Int
  ar : Int
deriving DecidableEq
def Hp.e (r : Hp) : D := .agg [.int .i64 r.id, .int .i64 r.se, .int .i64 r.ar]
def hop1 (e : Eg) (t sz : Int) : Hp := ⟨e.id, mx t e.op, thereE e t sz⟩
def hopsM (sz : Int) : List Eg → Int → Option (List Hp)
  | [], _ => some []
  | e :: r, t => if passC e t sz then (hopsM sz r (thereE e t sz)).map (hop1 e t sz :: ·) else none
set_option maxHeartbeats 4000000 in
theorem l_walk (sz : Int) (m : List Eg) (hml : m.length ≤ 1073741824) (t : Tok) (s : Nat) (hs : s = 8 ∨ m = []) : ∀ (post pre : List Eg), m = pre ++ post → ∀ (ρ : Nat → D) (st : Store) (now : Int) (out : List Hp) (tk : Tok) (so : Nat), out.length ≤ pre.length → st.lim ≤ st.next → st.tlim ≤ st.ntok → AppOK st 3 tk so (out.map Hp.e) →
    ρ 3 = .int .i64 now → ρ 4 = .int .i64 sz → ρ 14 = .slice tk so (out.map Hp.e) → ρ 38 = .slice t s (m.map Eg.e) → ρ 39 = .int .i64 m.length → ρ 40 = .int .i64 pre.length → ∀ (Q : X → (Nat → D) → Store → Prop),
    (∀ h, hopsM sz post now = some h → ∀ ρ' st' tk' so', AppOK st' 3 tk' so' ((out ++ h).map Hp.e) → ρ' 14 = .slice tk' so' ((out ++ h).map Hp.e) → Q (.exit 0) ρ' st') → (hopsM sz post now = none → ∀ ρ' st', ρ' 10 = .slice .isnil 0 [] → ρ' 11 = .bool false → Q .ret ρ' st') → WC Γ (.loop c_path_Walk_l0) ρ st Q := by
  intro post
  induction post with
  | nil =>
    intro pre hpp ρ st now out tk so hol hlim htl hO h3 h4 h14 h38 h39 h40 Q hQ hQ2
    rw [List.append_nil] at hpp
    subst hpp
    rw [← upd_self h3, ← upd_self h4, ← upd_self h14, ← upd_self h38, ← upd_self h39, ← upd_self h40]
    refine WC_loop ?_
    repeat' (first
 | (refine I_WS ?_; first
 | (refine I_bin ?_; first
 | refine W_lssF rfl rfl rfl rfl (by omega) ?_)
 | refine WS_nil ?_)
 | refine WC_seq ?_
 | refine WC_opsS ?_
 | refine WC_condF rfl ?_
 | refine WC_exit ?_)
    exact hQ [] rfl _ _ tk so (by simpa using hO) (by rw [List.append_nil]; rfl)
  | cons e post ih =>
    intro pre hpp ρ st now out tk so hol hlim htl hO h3 h4 h14 h38 h39 h40 Q hQ hQ2
    have hv := eg_mid hpp
    have hlen : m.length = pre.length + (post.length + 1) := by rw [hpp]; simp
    have hz : s = 8 := hs.resolve_right (by rintro rfl; simp at hlen)
    subst hz
    have hpl : pre.length < (m.map Eg.e).length := by simp; omega
    have hltl : (pre.length : Int) < m.length := by omega
    have hP := s_Pass e now sz
    unfold passT at hP
    rw [← upd_self h3, ← upd_self h4, ← upd_self h14, ← upd_self h38, ← upd_self h39, ← upd_self h40]
    refine WC_loop ?_
    by_cases hc : passC e now sz
    · rw [if_pos hc] at hP
      have hstep : hopsM sz (e :: post) now = (hopsM sz post (thereE e now sz)).map (hop1 e now sz :: ·) := by simp only [hopsM, if_pos hc]
      have hbd : ((out.map Hp.e).length + [D.agg [.int .i64 e.id, .int .i64 (mx now e.op), .int .i64 (thereE e now sz)]].length) * 24 ≤ 140737488355328 := by simp; omega
      have hnext : ∀ (ρ' : Nat → D) (st' : Store) (tk' : Tok) (so' : Nat), st'.lim ≤ st'.next → st'.tlim ≤ st'.ntok → AppOK st' 3 tk' so' ((out ++ [hop1 e now sz]).map Hp.e) → ρ' 3 = .int .i64 (thereE e now sz) → ρ' 4 = .int .i64 sz → ρ' 14 = .slice tk' so' ((out ++ [hop1 e now sz]).map Hp.e) → ρ' 38 = .slice t 8 (m.map Eg.e) → ρ' 39 = .int .i64 m.length → ρ' 40 = .int .i64 ((pre.length : Int) + 1) → WC Γ (.loop c_path_Walk_l0) ρ' st' Q := fun ρ' st' tk' so' e1 e2 e3 k3 k4 k14 k38 k39 k40 =>
        ih (pre ++ [e]) (by simp [hpp]) ρ' st' _ _ tk' so' (by simp; omega) e1 e2 e3 k3 k4 k14 k38 k39 (by rw [List.length_append]; exact k40) Q
          (fun h hh ρ'' st'' tk'' so'' f1 f2 => hQ _ (by rw [hstep, hh]; rfl) ρ'' st'' tk'' so'' (by simpa using f1) (by rw [f2]; simp)) (fun hh ρ'' st'' f1 f2 => hQ2 (by rw [hstep, hh]; rfl) ρ'' st'' f1 f2)
      clear ih hQ hQ2 hstep
      repeat' (first
 | (refine I_WS ?_; first
 | refine W_iaddr (j := pre.length) rfl rfl rfl rfl rfl hpl ?_
 | refine W_store (cs' := [_, _, _, _, _, _, _, _]) rfl rfl (upd_same _ _ _) rfl hlim rfl rfl rfl ?_
 | (refine W_app rfl rfl rfl hO (.inl rfl) hbd htl rfl ?_ <;> intro k' st' c1 c2 c3 c4 c5 c6 c7)
 | (refine I_mov ?_; first
 | refine W_mov (v := .int _ _) rfl rfl rfl ?_
 | refine W_mov (v := .bool _) rfl rfl rfl ?_
 | refine W_mov (v := .slice _ _ _) rfl rfl rfl ?_
 | refine W_mov (v := .tuple _) rfl rfl rfl ?_)
 | (refine I_bin ?_; first
 | refine W_lssT rfl rfl rfl rfl (by omega) ?_
 | refine W_add rfl rfl rfl rfl (by first | exact w64 (by omega) | rfl) ?_)
 | (refine I_load ?_; first
 | refine W_loadE (agg := true) (d := .agg [_, _, _, _, _, _, _, _]) rfl rfl rfl hv rfl ?_
 | refine W_load (agg := false) (d := .int _ _) rfl rfl rfl (bxc rfl) (by first | exact Nat.zero_le _ | assumption | exact Nat.le_trans hlim (Nat.zero_le _) | omega) rfl ?_
 | refine W_load (agg := true) (d := .agg [_, _, _, _, _, _, _, _]) rfl rfl rfl (bxc rfl) (by first | exact Nat.zero_le _ | assumption | exact Nat.le_trans hlim (Nat.zero_le _) | omega) rfl ?_)
 | (refine I_call ?_; first
 | refine W_call rfl rfl rfl hP rfl rfl ?_)
 | (refine I_extract ?_; first
 | refine W_extract (d := .int _ _) rfl rfl rfl rfl ?_
 | refine W_extract (d := .bool _) rfl rfl rfl rfl ?_)
 | (refine I_build ?_; first
 | refine W_build (cs := [_, _, _]) rfl rfl rfl ?_)
 | refine W_not rfl rfl rfl ?_
 | refine W_faddr rfl rfl rfl ?_
 | refine W_alloc rfl rfl ?_
 | refine W_bslice (ys := [_]) rfl rfl rfl (by decide) rfl ?_
 | refine WS_nil ?_)
 | refine WC_seq ?_
 | refine WC_opsS ?_
 | refine WC_skip ?_
 | refine WC_condT rfl ?_
 | refine WC_condF rfl ?_
 | refine WC_block ?_)
      refine hnext _ _ (.own k') 3 ?_ c5 (.inr ⟨k', rfl, c6, c7, rfl⟩) ?_ ?_ ?_ ?_ ?_ ?_
      · rw [c3, c2]; exact Nat.le_succ_of_le hlim
      all_goals first | rfl | (rw [List.map_append]; rfl)
    · rw [if_neg hc] at hP
      have hstep : hopsM sz (e :: post) now = none := by simp only [hopsM, if_neg hc]
      clear ih hQ
      repeat' (first
 | (refine I_WS ?_; first
 | refine W_iaddr (j := pre.length) rfl rfl rfl rfl rfl hpl ?_
 | refine W_store (cs' := [_, _, _, _, _, _, _, _]) rfl rfl (upd_same _ _ _) rfl hlim rfl rfl rfl ?_
 | (refine I_mov ?_; first
 | refine W_mov (v := .int _ _) rfl rfl rfl ?_
 | refine W_mov (v := .bool _) rfl rfl rfl ?_
 | refine W_mov (v := .slice _ _ _) rfl rfl rfl ?_
 | refine W_mov (v := .tuple _) rfl rfl rfl ?_)
 | (refine I_bin ?_; first
 | refine W_lssT rfl rfl rfl rfl (by omega) ?_)
 | (refine I_load ?_; first
 | refine W_loadE (agg := true) (d := .agg [_, _, _, _, _, _, _, _]) rfl rfl rfl hv rfl ?_
 | refine W_load (agg := true) (d := .agg [_, _, _, _, _, _, _, _]) rfl rfl rfl (bxc rfl) (by first | exact Nat.zero_le _ | assumption | exact Nat.le_trans hlim (Nat.zero_le _) | omega) rfl ?_)
 | (refine I_call ?_; first
 | refine W_call rfl rfl rfl hP rfl rfl ?_)
 | (refine I_extract ?_; first
 | refine W_extract (d := .int _ _) rfl rfl rfl rfl ?_
 | refine W_extract (d := .bool _) rfl rfl rfl rfl ?_)
 | refine W_not rfl rfl rfl ?_
 | refine W_alloc rfl rfl ?_
 | refine WS_nil ?_)
 | refine WC_seq ?_
 | refine WC_opsS ?_
 | refine WC_skip ?_
 | refine WC_condT rfl ?_
 | refine WC_block ?_
 | refine WC_ret ?_)
      exact hQ2 hstep _ _ rfl rfl
def walkM (l : List Eg) (ids : List Int) (fr now sz : Int) : Option (List Hp) := if AskC l fr now sz then (stepsM l ids fr).bind fun m => hopsM sz m now else none
theorem steps_len (l : List Eg) : ∀ (ids : List Int) (fr : Int) (m : List Eg), stepsM l ids fr = some m → m.length = ids.length
  | [], fr, m, h => by cases h; rfl
  | id :: ids, fr, m, h => by
    simp only [stepsM] at h
    split at h
    · split at h
      · obtain ⟨m', h1, rfl⟩ := Option.map_eq_some_iff.mp h
        simp [steps_len l ids _ m' h1]
      · cases h
    · cases h
set_option maxHeartbeats 4000000 in
theorem s_Walk1 (l : List Eg) (hll : l.length ≤ 1073741824) (ids : List Int) (hil : ids.length ≤ 1073741824) (fr now sz : Int) (h : List Hp) (hw : walkM l ids fr now sz = some h) (t : Tok) (s : Nat) (hs : s = 8 ∨ l = []) (t' : Tok) (s' : Nat) (hs' : s' = 1 ∨ ids = []) :
    EvX Γ 48 [.slice t s (l.map Eg.e), .slice t' s' (ids.map (D.int .i64)), .int .i64 fr, .int .i64 now, .int .i64 sz] (IsT Hp.e 3 h [.bool true]) := by
  refine EvX_code rfl rfl ?_
  unfold walkM at hw
  split at hw
  · rename_i ha
    obtain ⟨m, hm, hh⟩ := Option.bind_eq_some_iff.mp hw
    have hml := steps_len l ids fr m hm
    have hS := fun t t' => s_steps1 l hll ids hil fr m hm t s hs t' s' hs'
    have hA := fun t => s_pasked l hll fr now sz t s hs
    rw [decide_eq_true ha] at hA
    repeat' (first
 | (refine I_WS ?_; first
 | refine W_lenM rfl rfl rfl ?_
 | (refine I_mov ?_; first
 | refine W_mov (v := .int _ _) rfl rfl rfl ?_
 | refine W_mov (v := .bool _) rfl rfl rfl ?_
 | refine W_mov (v := .slice _ _ _) rfl rfl rfl ?_
 | refine W_mov (v := .tuple _) rfl rfl rfl ?_)
 | (refine I_call ?_; first
 | refine W_call rfl rfl rfl (hA _) rfl rfl ?_
 | (refine W_callT rfl rfl rfl (hS _ _) rfl ?_; intro tm sm hsm tk2 nt2))
 | (refine I_pick ?_; first
 | refine W_pick (v := .bool _) rfl rfl rfl rfl ?_)
 | (refine I_extract ?_; first
 | refine W_extract (d := .bool _) rfl rfl rfl rfl ?_
 | refine W_extract (d := .slice _ _ _) rfl rfl rfl rfl ?_)
 | refine W_not rfl rfl rfl ?_
 | refine WS_nil ?_)
 | refine WC_seq ?_
 | refine WC_opsS ?_
 | refine WC_skip ?_
 | refine WC_condF rfl ?_
 | refine WC_block ?_)
    refine l_walk sz m (by omega) tm sm hsm m [] rfl _ _ now [] .isnil 0 (Nat.le_refl _) (Nat.le_refl _) (Nat.zero_le _) (.inl ⟨.inl rfl, .inr ⟨rfl, rfl⟩⟩) ?_ ?_ ?_ ?_ ?_ ?_ _ (fun h' hh' ρ' st' tk so hO h14 => ?_) (fun hh' => by rw [hh] at hh'; cases hh')
    all_goals first | rfl | skip
    rw [hh] at hh'
    cases hh'
    rw [List.nil_append] at hO h14
    rw [← upd_self h14]
    repeat' (first
 | (refine I_WS ?_; first
 | (refine I_mov ?_; first
 | refine W_mov (v := .bool _) rfl rfl rfl ?_
 | refine W_mov (v := .slice _ _ _) rfl rfl rfl ?_)
 | refine WS_nil ?_)
 | refine WC_seq ?_
 | refine WC_opsS ?_
 | refine WC_ret ?_)
    have hso : so = 3 ∨ h = [] := by
      rcases hO with ⟨_, h | ⟨_, h⟩⟩ | ⟨_, _, _, _, h⟩
      · exact .inl h
      · exact .inr (by simpa using h)
      · exact .inl h
    exact finX_T (us := [.bool true]) (.inr rfl) rfl rfl hso rfl rfl
  · cases hw
set_option maxHeartbeats 4000000 in
theorem s_Walk0 (l : List Eg) (hll : l.length ≤ 1073741824) (ids : List Int) (hil : ids.length ≤ 1073741824) (fr now sz : Int) (hw : walkM l ids fr now sz = none) (t : Tok) (s : Nat) (hs : s = 8 ∨ l = []) (t' : Tok) (s' : Nat) (hs' : s' = 1 ∨ ids = []) :
    EvP Γ 48 [.slice t s (l.map Eg.e), .slice t' s' (ids.map (D.int .i64)), .int .i64 fr, .int .i64 now, .int .i64 sz] (.tuple [.slice .isnil 0 [], .bool false]) := by
  refine EvP_code rfl rfl ?_
  unfold walkM at hw
  have hA := fun t => s_pasked l hll fr now sz t s hs
  cases hm : stepsM l ids fr with
  | none =>
    have hS := fun t t' => s_steps0 l hll ids hil fr hm t s hs t' s' hs'
    repeat' (first
 | (refine I_WS ?_; first
 | (refine I_mov ?_; first
 | refine W_skip rfl ?_
 | refine W_mov (v := .int _ _) rfl rfl rfl ?_
 | refine W_mov (v := .bool _) rfl rfl rfl ?_
 | refine W_mov (v := .slice _ _ _) rfl rfl rfl ?_
 | refine W_mov (v := .tuple _) rfl rfl rfl ?_)
 | (refine I_call ?_; first
 | refine W_skip rfl ?_
 | refine W_call rfl rfl rfl (hS _ _) rfl rfl ?_)
 | (refine I_pick ?_; first
 | refine W_pick (v := .bool _) rfl rfl rfl rfl ?_)
 | (refine I_extract ?_; first
 | refine W_extract (d := .bool _) rfl rfl rfl rfl ?_
 | refine W_extract (d := .slice _ _ _) rfl rfl rfl rfl ?_)
 | refine W_not rfl rfl rfl ?_
 | refine W_skip rfl ?_
 | refine WS_nil ?_)
 | refine WC_seq ?_
 | refine WC_opsS ?_
 | refine WC_condT rfl ?_
 | refine WC_ret ?_)
    exact ⟨.inr rfl, rfl⟩
  | some m =>
    have hml := steps_len l ids fr m hm
    have hS := fun t t' => s_steps1 l hll ids hil fr m hm t s hs t' s' hs'
    by_cases ha : AskC l fr now sz
    · rw [if_pos ha, hm, Option.bind_some] at hw
      rw [decide_eq_true ha] at hA
      repeat' (first
 | (refine I_WS ?_; first
 | refine W_lenM rfl rfl rfl ?_
 | (refine I_mov ?_; first
 | refine W_mov (v := .int _ _) rfl rfl rfl ?_
 | refine W_mov (v := .bool _) rfl rfl rfl ?_
 | refine W_mov (v := .slice _ _ _) rfl rfl rfl ?_
 | refine W_mov (v := .tuple _) rfl rfl rfl ?_)
 | (refine I_call ?_; first
 | refine W_call rfl rfl rfl (hA _) rfl rfl ?_
 | (refine W_callT rfl rfl rfl (hS _ _) rfl ?_; intro tm sm hsm tk2 nt2))
 | (refine I_pick ?_; first
 | refine W_pick (v := .bool _) rfl rfl rfl rfl ?_)
 | (refine I_extract ?_; first
 | refine W_extract (d := .bool _) rfl rfl rfl rfl ?_
 | refine W_extract (d := .slice _ _ _) rfl rfl rfl rfl ?_)
 | refine W_not rfl rfl rfl ?_
 | refine WS_nil ?_)
 | refine WC_seq ?_
 | refine WC_opsS ?_
 | refine WC_skip ?_
 | refine WC_condF rfl ?_
 | refine WC_block ?_)
      refine l_walk sz m (by omega) tm sm hsm m [] rfl _ _ now [] .isnil 0 (Nat.le_refl _) (Nat.le_refl _) (Nat.zero_le _) (.inl ⟨.inl rfl, .inr ⟨rfl, rfl⟩⟩) ?_ ?_ ?_ ?_ ?_ ?_ _ (fun h' hh' => by rw [hw] at hh'; cases hh') (fun _ ρ' st' h10 h11 => ?_)
      all_goals first | rfl | skip
      rw [← upd_self h10, ← upd_self h11]
      exact ⟨.inr rfl, rfl⟩
    · rw [decide_eq_false ha] at hA
      repeat' (first
 | (refine I_WS ?_; first
 | (refine I_mov ?_; first
 | refine W_mov (v := .int _ _) rfl rfl rfl ?_
 | refine W_mov (v := .bool _) rfl rfl rfl ?_
 | refine W_mov (v := .slice _ _ _) rfl rfl rfl ?_
 | refine W_mov (v := .tuple _) rfl rfl rfl ?_)
 | (refine I_call ?_; first
 | refine W_call rfl rfl rfl (hA _) rfl rfl ?_
 | (refine W_callT rfl rfl rfl (hS _ _) rfl ?_; intro tm sm hsm tk2 nt2))
 | (refine I_pick ?_; first
 | refine W_pick (v := .bool _) rfl rfl rfl rfl ?_)
 | (refine I_extract ?_; first
 | refine W_extract (d := .bool _) rfl rfl rfl rfl ?_
 | refine W_extract (d := .slice _ _ _) rfl rfl rfl rfl ?_)
 | refine W_not rfl rfl rfl ?_
 | refine WS_nil ?_)
 | refine WC_seq ?_
 | refine WC_opsS ?_
 | refine WC_condT rfl ?_
 | refine WC_ret ?_)
      exact ⟨.inr rfl, rfl⟩
theorem s_asked (l : List Eg) (hll : l.length ≤ 1073741824) (fr now sz : Int) (t : Tok) (s : Nat) (hs : s = 8 ∨ l = []) : EvP Γ 38 [.slice t s (l.map Eg.e), .int .i64 fr, .int .i64 now, .int .i64 sz] (.bool (decide (AskC l fr now sz))) := by
  refine EvP_code rfl rfl ?_
  by_cases ha : AskC l fr now sz
  · have hw : walkM l [] fr now sz = some [] := by unfold walkM; rw [if_pos ha]; rfl
    have hW := fun t => s_Walk1 l hll [] (by simp) fr now sz [] hw t s hs .isnil 0 (.inr rfl)
    rw [decide_eq_true ha]
    repeat' (first
 | (refine I_WS ?_; first
 | (refine I_mov ?_; first
 | refine W_mov (v := .int _ _) rfl rfl rfl ?_
 | refine W_mov (v := .bool _) rfl rfl rfl ?_
 | refine W_mov (v := .slice _ _ _) rfl rfl rfl ?_
 | refine W_mov (v := .tuple _) rfl rfl rfl ?_)
 | (refine I_call ?_; first
 | (refine W_callT rfl rfl rfl (hW _) rfl ?_; intro tm sm hsm tk2 nt2))
 | (refine I_extract ?_; first
 | refine W_extract (d := .bool _) rfl rfl rfl rfl ?_
 | refine W_extract (d := .slice _ _ _) rfl rfl rfl rfl ?_)
 | refine WS_nil ?_)
 | refine WC_seq ?_
 | refine WC_opsS ?_
 | refine WC_ret ?_)
    exact fin_bool (.inr rfl) rfl rfl
  · have hw : walkM l [] fr now sz = none := by unfold walkM; rw [if_neg ha]
    have hW := fun t => s_Walk0 l hll [] (by simp) fr now sz hw t s hs .isnil 0 (.inr rfl)
    rw [decide_eq_false ha]
    repeat' (first
 | (refine I_WS ?_; first
 | (refine I_mov ?_; first
 | refine W_mov (v := .int _ _) rfl rfl rfl ?_
 | refine W_mov (v := .bool _) rfl rfl rfl ?_
 | refine W_mov (v := .slice _ _ _) rfl rfl rfl ?_
 | refine W_mov (v := .tuple _) rfl rfl rfl ?_)
 | (refine I_call ?_; first
 | refine W_call rfl rfl rfl (hW _) rfl rfl ?_)
 | (refine I_extract ?_; first
 | refine W_extract (d := .bool _) rfl rfl rfl rfl ?_
 | refine W_extract (d := .slice _ _ _) rfl rfl rfl rfl ?_)
 | refine WS_nil ?_)
 | refine WC_seq ?_
 | refine WC_opsS ?_
 | refine WC_ret ?_)
    exact fin_bool (.inr rfl) rfl rfl
end Go.Lea
/-
  Who is where at the earliest, as plain lists: the earliest one goes on first.
-/
namespace Go.Lea
def vis (out : List Rd) (n : Int) : Bool := out.any fun r => decide (r.node = n)
theorem vis_iff {out : List Rd} {n : Int} : vis out n = true ↔ ∃ r ∈ out, r.node = n := by simp [vis]
theorem vis_no {out : List Rd} {n : Int} : vis out n = false ↔ ∀ r ∈ out, r.node ≠ n := by simp [vis]
section
variable (ps : Eg → Int → Option Int) (cl : Int → Bool)
def push1 (out : List Rd) (t : Int) (s : List Rd) (e : Eg) : List Rd := match ps e t with
  | some u => if vis out e.to || cl e.to then s else ins ⟨e.to, u⟩ s
  | none => s
def pushes (out : List Rd) (t : Int) (es : List Eg) (s : List Rd) : List Rd := es.foldl (push1 ps cl out t) s
def dij (l : List Eg) : Nat → List Rd → List Rd → List Rd
  | 0, out, _ => out
  | _ + 1, out, [] => out
  | n + 1, out, r :: s => if vis out r.node then dij l n out s else dij l n (out ++ [r]) (pushes ps cl (out ++ [r]) r.at' (fromE r.node l) s)
inductive Reach (l : List Eg) (fr now : Int) : Int → Int → Prop where
  | here : Reach l fr now fr now
  | go {n t u : Int} {e : Eg} (h : Reach l fr now n t) (he : e ∈ l) (hf : e.fr = n) (hp : ps e t = some u) (hc : cl e.to = false) : Reach l fr now e.to u
def meas (l : List Eg) (out s : List Rd) : Nat := s.length + (l.filter fun e => !vis out e.fr).length
variable {ps cl}
theorem mem_ins {r x : Rd} {s : List Rd} : x ∈ ins r s ↔ x = r ∨ x ∈ s := by
  rw [(ins_perm r s).mem_iff, List.mem_cons]
theorem push1_mem {out : List Rd} {t : Int} {s : List Rd} {e : Eg} {x : Rd} : x ∈ push1 ps cl out t s e ↔ x ∈ s ∨ (x.node = e.to ∧ ps e t = some x.at' ∧ vis out e.to = false ∧ cl e.to = false) := by
  unfold push1
  cases hp : ps e t with
  | none => simp
  | some u =>
    simp only [Option.some.injEq]
    by_cases hv : (vis out e.to || cl e.to) = true
    · rw [if_pos hv]
      constructor
      · exact .inl
      · rintro (h | ⟨_, _, h1, h2⟩)
        · exact h
        · rw [h1, h2] at hv
          cases hv
    · rw [if_neg hv, mem_ins]
      have hv' : vis out e.to = false ∧ cl e.to = false := by
        cases h1 : vis out e.to <;> cases h2 : cl e.to <;> simp [h1, h2] at hv ⊢
      obtain ⟨n, a⟩ := x
      simp only [Rd.mk.injEq]
      constructor
      · rintro (⟨rfl, rfl⟩ | h)
        · exact .inr ⟨rfl, rfl, hv'⟩
        · exact .inl h
      · rintro (h | ⟨h1, h2, _⟩)
        · exact .inr h
        · exact .inl ⟨h1, h2.symm⟩
theorem pushes_mem {out : List Rd} {t : Int} : ∀ {es : List Eg} {s : List Rd} {x : Rd}, x ∈ pushes ps cl out t es s ↔ x ∈ s ∨ ∃ e ∈ es, x.node = e.to ∧ ps e t = some x.at' ∧ vis out e.to = false ∧ cl e.to = false
  | [], s, x => by simp [pushes]
  | e :: es, s, x => by
    rw [pushes, List.foldl_cons]
    have ih := pushes_mem (out := out) (t := t) (es := es) (s := push1 ps cl out t s e) (x := x)
    rw [pushes] at ih
    rw [ih, push1_mem]
    simp only [List.mem_cons, exists_eq_or_imp, or_assoc]
theorem push1_len {out : List Rd} {t : Int} {s : List Rd} {e : Eg} : (push1 ps cl out t s e).length ≤ s.length + 1 := by
  unfold push1
  split
  · split
    · omega
    · rw [(ins_perm _ s).length_eq]; simp
  · omega
theorem pushes_len {out : List Rd} {t : Int} : ∀ {es : List Eg} {s : List Rd}, (pushes ps cl out t es s).length ≤ s.length + es.length
  | [], s => by simp [pushes]
  | e :: es, s => by
    have ih := pushes_len (out := out) (t := t) (es := es) (s := push1 ps cl out t s e)
    have := push1_len (ps := ps) (cl := cl) (out := out) (t := t) (s := s) (e := e)
    rw [pushes] at ih ⊢
    rw [List.foldl_cons, List.length_cons]
    omega
theorem push1_srt {out : List Rd} {t : Int} {s : List Rd} {e : Eg} (h : Srt s) : Srt (push1 ps cl out t s e) := by
  unfold push1
  split
  · split
    · exact h
    · exact ins_srt _ s h
  · exact h
theorem pushes_srt {out : List Rd} {t : Int} : ∀ {es : List Eg} {s : List Rd}, Srt s → Srt (pushes ps cl out t es s)
  | [], s, h => h
  | e :: es, s, h => pushes_srt (es := es) (push1_srt h)
theorem vis_snoc (out : List Rd) (r : Rd) (n : Int) : vis (out ++ [r]) n = (vis out n || decide (r.node = n)) := by
  simp [vis, List.any_append]
theorem filt_split (l : List Eg) (out : List Rd) (r : Rd) (hv : vis out r.node = false) : (l.filter fun e => !vis out e.fr).length = (l.filter fun e => !vis (out ++ [r]) e.fr).length + (fromE r.node l).length := by
  unfold fromE
  induction l with
  | nil => rfl
  | cons e l ih =>
    simp only [List.filter_cons, vis_snoc]
    by_cases he : e.fr = r.node
    · rw [he, hv]
      simp only [Bool.false_or, decide_true, Bool.not_false, Bool.not_true, if_true, List.length_cons, Bool.false_eq_true, if_false]
      rw [show (List.filter (fun e => !vis (out ++ [r]) e.fr) l) = (List.filter (fun e => !(vis out e.fr || decide (r.node = e.fr))) l) by simp only [vis_snoc]] at ih
      rw [ih]
      omega
    · have he' : ¬ r.node = e.fr := fun h => he h.symm
      simp only [he, he', decide_false, Bool.or_false, Bool.false_eq_true, if_false]
      rw [show (List.filter (fun e => !vis (out ++ [r]) e.fr) l) = (List.filter (fun e => !(vis out e.fr || decide (r.node = e.fr))) l) by simp only [vis_snoc]] at ih
      cases hvv : vis out e.fr
      · simp only [Bool.not_false, if_true, List.length_cons]
        omega
      · simp only [Bool.not_true, Bool.false_eq_true, if_false]
        exact ih
theorem meas_skip {l : List Eg} {out s : List Rd} {r : Rd} : meas l out s + 1 = meas l out (r :: s) := by
  unfold meas
  rw [List.length_cons]
  omega
theorem meas_go {l : List Eg} {out s : List Rd} {r : Rd} (hv : vis out r.node = false) : meas l (out ++ [r]) (pushes ps cl (out ++ [r]) r.at' (fromE r.node l) s) + 1 ≤ meas l out (r :: s) := by
  have h1 := pushes_len (ps := ps) (cl := cl) (out := out ++ [r]) (t := r.at') (es := fromE r.node l) (s := s)
  have h2 := filt_split l out r hv
  unfold meas
  rw [List.length_cons, h2]
  omega
structure DI (ps : Eg → Int → Option Int) (cl : Int → Bool) (l : List Eg) (fr now : Int) (out s : List Rd) : Prop where
  p1 : ∀ x, x ∈ out ∨ x ∈ s → Reach ps cl l fr now x.node x.at'
  p2 : (out.map Rd.node).Nodup
  p3 : ∀ x ∈ out, ∀ y ∈ s, x.at' ≤ y.at'
  p4 : ∀ x ∈ out, ∀ e ∈ l, e.fr = x.node → ∀ u, ps e x.at' = some u → cl e.to = false → ∃ y, (y ∈ out ∨ y ∈ s) ∧ y.node = e.to ∧ y.at' ≤ u
  p5 : Srt s
  p6 : ∃ y, (y ∈ out ∨ y ∈ s) ∧ y.node = fr ∧ y.at' ≤ now
structure IsT (ps : Eg → Int → Option Int) (cl : Int → Bool) (l : List Eg) (fr now : Int) (out : List Rd) : Prop where
  t1 : ∀ x ∈ out, Reach ps cl l fr now x.node x.at'
  t2 : (out.map Rd.node).Nodup
  t3 : ∀ n t, Reach ps cl l fr now n t → ∃ y ∈ out, y.node = n ∧ y.at' ≤ t
theorem srt_head {r : Rd} {s : List Rd} (h : Srt (r :: s)) : ∀ y ∈ s, r.at' ≤ y.at' := fun y hy => by
  have := h.1 y hy
  unfold Rd.lt at this
  omega
theorem DI.start {l : List Eg} {fr now : Int} : DI ps cl l fr now [] [⟨fr, now⟩] :=
  ⟨(fun x h => by
    rcases h with h | h
    · cases h
    · rw [List.mem_singleton] at h
      subst h
      exact .here), by simp, (fun x h => by cases h), (fun x h => by cases h), ⟨(fun y h => by cases h), trivial⟩, ⟨⟨fr, now⟩, .inr (by simp), rfl, Int.le_refl _⟩⟩
theorem DI.skip {l : List Eg} {fr now : Int} {out s : List Rd} {r : Rd} (h : DI ps cl l fr now out (r :: s)) (hv : vis out r.node = true) : DI ps cl l fr now out s := by
  obtain ⟨z, hz, hzn⟩ := vis_iff.mp hv
  have hzr : z.at' ≤ r.at' := h.p3 z hz r List.mem_cons_self
  refine ⟨fun x hx => h.p1 x (hx.imp id (List.mem_cons_of_mem _)), h.p2, fun x hx y hy => h.p3 x hx y (List.mem_cons_of_mem _ hy), fun x hx e he hf u hp hc => ?_, h.p5.2, ?_⟩
  · obtain ⟨y, hy, h1, h2⟩ := h.p4 x hx e he hf u hp hc
    rcases hy with hy | hy
    · exact ⟨y, .inl hy, h1, h2⟩
    · rcases List.mem_cons.mp hy with rfl | hy
      · exact ⟨z, .inl hz, hzn.trans h1, by omega⟩
      · exact ⟨y, .inr hy, h1, h2⟩
  · obtain ⟨y, hy, h1, h2⟩ := h.p6
    rcases hy with hy | hy
    · exact ⟨y, .inl hy, h1, h2⟩
    · rcases List.mem_cons.mp hy with rfl | hy
      · exact ⟨z, .inl hz, hzn.trans h1, by omega⟩
      · exact ⟨y, .inr hy, h1, h2⟩
theorem DI.go {l : List Eg} {fr now : Int} {out s : List Rd} {r : Rd} (hge : ∀ e t u, ps e t = some u → t ≤ u) (h : DI ps cl l fr now out (r :: s)) (hv : vis out r.node = false) : DI ps cl l fr now (out ++ [r]) (pushes ps cl (out ++ [r]) r.at' (fromE r.node l) s) := by
  have hr := h.p1 r (.inr List.mem_cons_self)
  have hold : ∀ y, y ∈ s → y ∈ pushes ps cl (out ++ [r]) r.at' (fromE r.node l) s := fun y hy => pushes_mem.mpr (.inl hy)
  have hlift : ∀ y, (y ∈ out ∨ y ∈ r :: s) → (y ∈ out ++ [r] ∨ y ∈ pushes ps cl (out ++ [r]) r.at' (fromE r.node l) s) := fun y hy => by
    rcases hy with hy | hy
    · exact .inl (List.mem_append_left _ hy)
    · rcases List.mem_cons.mp hy with rfl | hy
      · exact .inl (List.mem_append_right _ (by simp))
      · exact .inr (hold y hy)
  refine ⟨fun x hx => ?_, ?_, fun x hx y hy => ?_, fun x hx e he hf u hp hc => ?_, pushes_srt h.p5.2, ?_⟩
  · rcases hx with hx | hx
    · rcases List.mem_append.mp hx with hx | hx
      · exact h.p1 x (.inl hx)
      · rw [List.mem_singleton] at hx
        subst hx
        exact hr
    · rcases pushes_mem.mp hx with hx | ⟨e, he, h1, h2, _, h4⟩
      · exact h.p1 x (.inr (List.mem_cons_of_mem _ hx))
      · obtain ⟨he1, he2⟩ := List.mem_filter.mp he
        rw [h1]
        exact .go hr he1 (of_decide_eq_true he2) h2 h4
  · rw [List.map_append, List.nodup_append]
    refine ⟨h.p2, by simp, fun a ha b hb => ?_⟩
    obtain ⟨x, hx, rfl⟩ := List.mem_map.mp ha
    simp only [List.map_cons, List.map_nil, List.mem_singleton] at hb
    subst hb
    exact vis_no.mp hv x hx
  · have hxr : x.at' ≤ r.at' := by
      rcases List.mem_append.mp hx with hx | hx
      · exact h.p3 x hx r List.mem_cons_self
      · rw [List.mem_singleton] at hx
        subst hx
        exact Int.le_refl _
    rcases pushes_mem.mp hy with hy | ⟨e, he, h1, h2, _⟩
    · have := srt_head h.p5 y hy
      omega
    · have := hge e _ _ h2
      omega
  · rcases List.mem_append.mp hx with hx | hx
    · obtain ⟨y, hy, h1, h2⟩ := h.p4 x hx e he hf u hp hc
      exact ⟨y, hlift y hy, h1, h2⟩
    · rw [List.mem_singleton] at hx
      subst hx
      by_cases hvt : vis (out ++ [x]) e.to = true
      · obtain ⟨z, hz, hzn⟩ := vis_iff.mp hvt
        refine ⟨z, .inl hz, hzn, ?_⟩
        have hu := hge e _ _ hp
        have hzx : z.at' ≤ x.at' := by
          rcases List.mem_append.mp hz with hz | hz
          · exact h.p3 z hz x List.mem_cons_self
          · rw [List.mem_singleton] at hz
            subst hz
            exact Int.le_refl _
        omega
      · exact ⟨⟨e.to, u⟩, .inr (pushes_mem.mpr (.inr ⟨e, List.mem_filter.mpr ⟨he, decide_eq_true hf⟩, rfl, hp, by simpa using hvt, hc⟩)), rfl, Int.le_refl _⟩
  · obtain ⟨y, hy, h1, h2⟩ := h.p6
    exact ⟨y, hlift y hy, h1, h2⟩
theorem DI.done {l : List Eg} {fr now : Int} {out : List Rd} (hmo : ∀ e t t' u, ps e t = some u → t' ≤ t → (∃ a b, Reach ps cl l fr now a b ∧ b = t') → ∃ u', u' ≤ u ∧ ps e t' = some u') (h : DI ps cl l fr now out []) : IsT ps cl l fr now out := by
  refine ⟨fun x hx => h.p1 x (.inl hx), h.p2, fun n t hr => ?_⟩
  induction hr with
  | here =>
    obtain ⟨y, hy, h1, h2⟩ := h.p6
    rcases hy with hy | hy
    · exact ⟨y, hy, h1, h2⟩
    · cases hy
  | @go n t u e hr he hf hp hc ih =>
    obtain ⟨y, hy, h1, h2⟩ := ih
    obtain ⟨u', hu', hp'⟩ := hmo e t y.at' u hp h2 ⟨_, _, h.p1 y (.inl hy), rfl⟩
    obtain ⟨z, hz, h3, h4⟩ := h.p4 y hy e he (hf.trans h1.symm) u' hp' hc
    rcases hz with hz | hz
    · exact ⟨z, hz, h3, by omega⟩
    · cases hz
theorem dij_isT {l : List Eg} {fr now : Int} (hge : ∀ e t u, ps e t = some u → t ≤ u) (hmo : ∀ e t t' u, ps e t = some u → t' ≤ t → (∃ a b, Reach ps cl l fr now a b ∧ b = t') → ∃ u', u' ≤ u ∧ ps e t' = some u') : ∀ (n : Nat) (out s : List Rd), meas l out s ≤ n → DI ps cl l fr now out s → IsT ps cl l fr now (dij ps cl l n out s)
  | 0, out, s, hm, h => by
    have hs : s = [] := List.length_eq_zero_iff.mp (by unfold meas at hm; omega)
    subst hs
    exact h.done hmo
  | n + 1, out, [], hm, h => h.done hmo
  | n + 1, out, r :: s, hm, h => by
    rw [dij]
    cases hv : vis out r.node with
    | true =>
      rw [if_pos rfl]
      exact dij_isT hge hmo n out s (by have := meas_skip (l := l) (out := out) (s := s) (r := r); omega) (h.skip hv)
    | false =>
      rw [if_neg (by simp)]
      exact dij_isT hge hmo n _ _ (by have := meas_go (ps := ps) (cl := cl) (l := l) (s := s) hv; omega) (h.go hge hv)
end
end Go.Lea
/-
  What goes into the queue from a node.
-/
namespace Go.Lea
open Go.Ev
def psz (sz : Int) (e : Eg) (t : Int) : Option Int := if passC e t sz then some (thereE e t sz) else none
def KVA (kv : List (Int × D)) (out : List Rd) : Prop := ∀ n, ∃ u, (kvGet n kv).getD (.int .i64 0) = .int .i64 u ∧ (kvGet n kv).isSome = vis out n
def KVC (kv : List (Int × D)) (cl : Int → Bool) : Prop := ∀ n, (kvGet n kv).getD (.bool false) = .bool (cl n)
set_option maxHeartbeats 8000000 in
theorem l_in (sz : Int) (cl : Int → Bool) (out : List Rd) (kvc kva : List (Int × D)) (hkc : KVC kvc cl) (hka : KVA kva out) (t : Int) (es : List Eg) (hel : es.length ≤ 1000000) (te : Tok) (se : Nat) (hse : se = 8 ∨ es = []) (h b : Nat) (st0 : Store) (Kp : Nat → Prop) (hK0 : Kp 0) (hK1 : Kp 1) (hKb : Kp b) (hKn : ∀ q, Kp q → q < st0.next ∧ q ≠ h)
    (hb0 : st0.boxes 0 = some (.map kvc)) (hb1 : st0.boxes 1 = some (.map kva)) (n0 : Int) (hbb : (st0.boxes b).bind Box.cs = some [.int .i64 n0, .int .i64 t]) (v0 v4 v10 : D) : ∀ (post pre : List Eg), es = pre ++ post →
    ∀ (ρ : Nat → D) (st : Store) (s : List Rd) (o : Option Nat), s.length ≤ 1000000 + pre.length → st.lim ≤ 0 → st0.next ≤ st.next → AH st h o s → (∀ q, Kp q → some q ≠ o) → (∀ q, Kp q → st.boxes q = st0.boxes q) →
    ρ 0 = v0 → ρ 3 = .int .i64 sz → ρ 4 = v4 → ρ 10 = v10 → ρ 11 = .map 0 → ρ 14 = .map 1 → ρ 15 = .ptr h 0 → ρ 16 = .ptr b 0 → ρ 77 = .slice te se (es.map Eg.e) → ρ 78 = .int .i64 es.length → ρ 79 = .int .i64 pre.length → ∀ (Q : X → (Nat → D) → Store → Prop),
    (∀ ρ' st' o', st'.lim ≤ 0 → st0.next ≤ st'.next → AH st' h o' (pushes (psz sz) cl out t post s) → (∀ q, Kp q → some q ≠ o') → (∀ q, Kp q → st'.boxes q = st0.boxes q) → (o' = o ∨ ∃ r, o' = some r ∧ st.next ≤ r) → ρ' 0 = v0 → ρ' 3 = .int .i64 sz → ρ' 4 = v4 → ρ' 10 = v10 → ρ' 11 = .map 0 → ρ' 14 = .map 1 → ρ' 15 = .ptr h 0 → Q (.exit 4) ρ' st') → WC Γ (.loop c_early_Times_l1) ρ st Q := by
  intro post
  induction post with
  | nil =>
    intro pre hpp ρ st s o hsl hlim hnx H hKo hKs h0 h3 h4 h10 h11 h14 h15 h16 h77 h78 h79 Q hQ
    rw [List.append_nil] at hpp
    subst hpp
    rw [← upd_self h0, ← upd_self h3, ← upd_self h4, ← upd_self h10, ← upd_self h11, ← upd_self h14, ← upd_self h15, ← upd_self h77, ← upd_self h78, ← upd_self h79]
    refine WC_loop ?_
    repeat' (first
 | (refine I_WS ?_; first
 | (refine I_bin ?_; first
 | refine W_lssF rfl rfl rfl rfl (by omega) ?_)
 | refine WS_nil ?_)
 | refine WC_seq ?_
 | refine WC_opsS ?_
 | refine WC_condF rfl ?_
 | refine WC_exit ?_)
    exact hQ _ _ o hlim hnx H hKo hKs (.inl rfl) rfl rfl rfl rfl rfl rfl rfl
  | cons e post ih =>
    intro pre hpp ρ st s o hsl hlim hnx H hKo hKs h0 h3 h4 h10 h11 h14 h15 h16 h77 h78 h79 Q hQ
    have hv := eg_mid hpp
    have hlen : es.length = pre.length + (post.length + 1) := by rw [hpp]; simp
    have hz : se = 8 := hse.resolve_right (by rintro rfl; simp at hlen)
    subst hz
    have hpl : pre.length < (es.map Eg.e).length := by simp; omega
    have hltl : (pre.length : Int) < es.length := by omega
    have hlim2 : st.lim ≤ st.next := by omega
    have hlb : st.lim ≤ b := by omega
    have hKn2 : ∀ q, Kp q → q < st.next := fun q hq => Nat.lt_of_lt_of_le (hKn q hq).1 hnx
    have q0 : (0 : Nat) ≠ st.next := Nat.ne_of_lt (hKn2 0 hK0)
    have q1 : (1 : Nat) ≠ st.next := Nat.ne_of_lt (hKn2 1 hK1)
    have qb : b ≠ st.next := Nat.ne_of_lt (hKn2 b hKb)
    have hc0 := (hKs 0 hK0).trans hb0
    have hc1 := (hKs 1 hK1).trans hb1
    have hcb : (st.boxes b).bind Box.cs = some [.int .i64 n0, .int .i64 t] := by rw [hKs b hKb]; exact hbb
    obtain ⟨u, hu1, hu2⟩ := hka e.to
    have hu3 := hkc e.to
    have hP := s_Pass e t sz
    unfold passT at hP
    have hA : ∀ {x y : Option Box}, AH { st with boxes := upd (upd st.boxes st.next x) st.next y, next := st.next + 1 } h o s := fun {x y} => H.of rfl (Nat.le_succ _) (fun q hq _ => (upd_ne _ _ (Nat.ne_of_lt hq)).trans (upd_ne _ _ (Nat.ne_of_lt hq)))
    have hps := fun {u v : Option Box} => s_PushA (hA (x := u) (y := v)) (by omega) ⟨e.to, thereE e t sz⟩
    have hnext : ∀ (ρ' : Nat → D) (st' : Store) (o' : Option Nat), st'.lim ≤ 0 → st0.next ≤ st'.next → st.next ≤ st'.next → AH st' h o' (push1 (psz sz) cl out t s e) → (∀ q, Kp q → some q ≠ o') → (∀ q, Kp q → st'.boxes q = st0.boxes q) → (o' = o ∨ ∃ r, o' = some r ∧ st.next ≤ r) → ρ' 0 = v0 → ρ' 3 = .int .i64 sz → ρ' 4 = v4 → ρ' 10 = v10 → ρ' 11 = .map 0 → ρ' 14 = .map 1 → ρ' 15 = .ptr h 0 → ρ' 16 = .ptr b 0 → ρ' 77 = .slice te 8 (es.map Eg.e) → ρ' 78 = .int .i64 es.length → ρ' 79 = .int .i64 ((pre.length : Int) + 1) → WC Γ (.loop c_early_Times_l1) ρ' st' Q := fun ρ' st' o' e1 e2 e2' e3 e4 e5 e6 k0 k3 k4 k10 k11 k14 k15 k16 k77 k78 k79 =>
      ih (pre ++ [e]) (by simp [hpp]) ρ' st' (push1 (psz sz) cl out t s e) o' (by have := push1_len (ps := psz sz) (cl := cl) (out := out) (t := t) (s := s) (e := e); simp; omega) e1 e2 e3 e4 e5 k0 k3 k4 k10 k11 k14 k15 k16 k77 k78 (by rw [List.length_append]; exact k79) Q
        (fun ρ'' st'' o'' f1 f2 f3 f4 f5 f6 => hQ ρ'' st'' o'' f1 f2 (by rw [pushes, List.foldl_cons]; exact f3) f4 f5 (by
          rcases f6 with rfl | ⟨r, hr, hr2⟩
          · exact e6
          · exact .inr ⟨r, hr, Nat.le_trans e2' hr2⟩))
    have hkeep : ∀ {x y : Option Box}, ∀ q, Kp q → (upd (upd st.boxes st.next x) st.next y) q = st0.boxes q := fun {x y} q hq => ((upd_ne _ _ (Nat.ne_of_lt (hKn2 q hq))).trans (upd_ne _ _ (Nat.ne_of_lt (hKn2 q hq)))).trans (hKs q hq)
    clear ih hQ hpp
    rw [← upd_self h0, ← upd_self h3, ← upd_self h4, ← upd_self h10, ← upd_self h11, ← upd_self h14, ← upd_self h15, ← upd_self h16, ← upd_self h77, ← upd_self h78, ← upd_self h79]
    refine WC_loop ?_
    by_cases hc : passC e t sz
    · rw [if_pos hc] at hP
      have hps1 : psz sz e t = some (thereE e t sz) := by unfold psz; rw [if_pos hc]
      generalize thereE e t sz = w at *
      generalize mx t e.op = w2 at *
      by_cases hvc : vis out e.to = false ∧ cl e.to = false
      · obtain ⟨hv1, hv2⟩ := hvc
        have hpush : push1 (psz sz) cl out t s e = ins ⟨e.to, w⟩ s := by simp [push1, hps1, hv1, hv2]
        rw [hv1] at hu2
        rw [hv2] at hu3
        rw [hpush] at hnext
        repeat' (first
 | (refine I_WS ?_; first
 | refine W_iaddr (j := pre.length) rfl rfl rfl rfl rfl hpl ?_
 | refine W_store (cs' := [_, _, _, _, _, _, _, _]) rfl rfl (upd_same _ _ _) rfl hlim2 rfl rfl rfl ?_
 | refine W_lookupT rfl rfl rfl ((upd_ne _ _ q1).trans ((upd_ne _ _ q1).trans hc1)) hu1 hu2 rfl ?_
 | refine W_lookup rfl rfl rfl ((upd_ne _ _ q0).trans ((upd_ne _ _ q0).trans hc0)) hu3 rfl ?_
 | (refine I_mov ?_; first
 | refine W_mov (v := .int _ _) rfl rfl rfl ?_
 | refine W_mov (v := .bool _) rfl rfl rfl ?_
 | refine W_mov (v := .ptr _ _) rfl rfl rfl ?_
 | refine W_mov (v := .tuple _) rfl rfl rfl ?_
 | refine W_mov (v := .map _) rfl rfl rfl ?_)
 | (refine I_bin ?_; first
 | refine W_lssT rfl rfl rfl rfl (by omega) ?_
 | refine W_add rfl rfl rfl rfl (by first | exact w64 (by omega) | rfl) ?_)
 | (refine I_load ?_; first
 | refine W_loadE (agg := true) (d := .agg [_, _, _, _, _, _, _, _]) rfl rfl rfl hv rfl ?_
 | refine W_load (agg := false) (d := .int _ _) rfl rfl rfl ((congrArg (fun x => Option.bind x Box.cs) ((upd_ne _ _ qb).trans (upd_ne _ _ qb))).trans hcb) hlb rfl ?_
 | refine W_load (agg := false) (d := .int _ _) rfl rfl rfl (bxc rfl) (by first | exact Nat.zero_le _ | assumption | exact Nat.le_trans hlim (Nat.zero_le _) | omega) rfl ?_
 | refine W_load (agg := true) (d := .agg [_, _, _, _, _, _, _, _]) rfl rfl rfl (bxc rfl) (by first | exact Nat.zero_le _ | assumption | exact Nat.le_trans hlim (Nat.zero_le _) | omega) rfl ?_)
 | (refine I_call ?_; first
 | refine W_call rfl rfl rfl hP rfl rfl ?_
 | (refine W_callRWX rfl rfl rfl hps ?_ <;> intro r1 st1 hp1))
 | (refine I_pick ?_; first
 | refine W_pick (v := .bool _) rfl rfl rfl rfl ?_)
 | (refine I_extract ?_; first
 | refine W_extract (d := .int _ _) rfl rfl rfl rfl ?_
 | refine W_extract (d := .bool _) rfl rfl rfl rfl ?_)
 | (refine I_build ?_; first
 | refine W_build (cs := [_, _]) rfl rfl rfl ?_)
 | refine W_not rfl rfl rfl ?_
 | refine W_faddr rfl rfl rfl ?_
 | refine W_alloc rfl rfl ?_
 | refine WS_nil ?_)
 | refine WC_seq ?_
 | refine WC_opsS ?_
 | refine WC_skip ?_
 | refine WC_condT rfl ?_
 | refine WC_block ?_)
        obtain ⟨rfl, o', H1, F1⟩ := hp1
        have hn1 : st.next + 1 ≤ st1.next := F1.next
        skip
        refine hnext _ st1 o' ?_ ?_ ?_ H1 (fun q hq => ?_) (fun q hq => ?_) ?_ rfl rfl rfl rfl rfl rfl rfl rfl rfl rfl rfl
        · rw [F1.lim]; exact hlim
        · omega
        · omega
        · rcases F1.own with e' | ⟨r', e', hr'⟩
          · rw [e']; exact hKo q hq
          · rw [e']
            intro e2
            cases e2
            have := hKn2 q hq
            have hr' : st.next + 1 ≤ q := hr'
            omega
        · rw [F1.box q (Nat.lt_succ_of_lt (hKn2 q hq)) (hKn q hq).2 (hKo q hq)]
          exact hkeep q hq
        · rcases F1.own with e' | ⟨r', e', hr'⟩
          · exact .inl e'
          · exact .inr ⟨r', e', Nat.le_of_succ_le hr'⟩
      · have hpush : push1 (psz sz) cl out t s e = s := by
          simp only [push1, hps1]
          rw [if_pos]
          cases h1 : vis out e.to <;> cases h2 : cl e.to <;> simp [h1, h2] at hvc ⊢
        rw [hpush] at hnext
        clear hpush hps
        cases hv1 : vis out e.to with
        | true =>
          rw [hv1] at hu2
          repeat' (first
 | (refine I_WS ?_; first
 | refine W_iaddr (j := pre.length) rfl rfl rfl rfl rfl hpl ?_
 | refine W_store (cs' := [_, _, _, _, _, _, _, _]) rfl rfl (upd_same _ _ _) rfl hlim2 rfl rfl rfl ?_
 | refine W_lookupT rfl rfl rfl ((upd_ne _ _ q1).trans ((upd_ne _ _ q1).trans hc1)) hu1 hu2 rfl ?_
 | (refine I_mov ?_; first
 | refine W_skip rfl ?_
 | refine W_mov (v := .int _ _) rfl rfl rfl ?_
 | refine W_mov (v := .bool _) rfl rfl rfl ?_
 | refine W_mov (v := .tuple _) rfl rfl rfl ?_
 | refine W_mov (v := .map _) rfl rfl rfl ?_)
 | (refine I_bin ?_; first
 | refine W_lssT rfl rfl rfl rfl (by omega) ?_
 | refine W_add rfl rfl rfl rfl (by first | exact w64 (by omega) | rfl) ?_)
 | (refine I_load ?_; first
 | refine W_skip rfl ?_
 | refine W_loadE (agg := true) (d := .agg [_, _, _, _, _, _, _, _]) rfl rfl rfl hv rfl ?_
 | refine W_load (agg := false) (d := .int _ _) rfl rfl rfl ((congrArg (fun x => Option.bind x Box.cs) ((upd_ne _ _ qb).trans (upd_ne _ _ qb))).trans hcb) hlb rfl ?_
 | refine W_load (agg := false) (d := .int _ _) rfl rfl rfl (bxc rfl) (by first | exact Nat.zero_le _ | assumption | exact Nat.le_trans hlim (Nat.zero_le _) | omega) rfl ?_
 | refine W_load (agg := true) (d := .agg [_, _, _, _, _, _, _, _]) rfl rfl rfl (bxc rfl) (by first | exact Nat.zero_le _ | assumption | exact Nat.le_trans hlim (Nat.zero_le _) | omega) rfl ?_)
 | (refine I_call ?_; first
 | refine W_call rfl rfl rfl hP rfl rfl ?_)
 | (refine I_pick ?_; first
 | refine W_pick (v := .bool _) rfl rfl rfl rfl ?_)
 | (refine I_extract ?_; first
 | refine W_extract (d := .int _ _) rfl rfl rfl rfl ?_
 | refine W_extract (d := .bool _) rfl rfl rfl rfl ?_)
 | refine W_not rfl rfl rfl ?_
 | refine W_faddr rfl rfl rfl ?_
 | refine W_alloc rfl rfl ?_
 | refine W_skip rfl ?_
 | refine WS_nil ?_)
 | refine WC_seq ?_
 | refine WC_opsS ?_
 | refine WC_skip ?_
 | refine WC_condT rfl ?_
 | refine WC_condF rfl ?_
 | refine WC_block ?_)
          exact hnext _ _ o hlim (Nat.le_succ_of_le hnx) (Nat.le_succ _) hA hKo hkeep (.inl rfl) rfl rfl rfl rfl rfl rfl rfl rfl rfl rfl rfl
        | false =>
          have hv2 : cl e.to = true := by cases h : cl e.to <;> simp [hv1, h] at hvc ⊢
          rw [hv1] at hu2
          rw [hv2] at hu3
          repeat' (first
 | (refine I_WS ?_; first
 | refine W_iaddr (j := pre.length) rfl rfl rfl rfl rfl hpl ?_
 | refine W_store (cs' := [_, _, _, _, _, _, _, _]) rfl rfl (upd_same _ _ _) rfl hlim2 rfl rfl rfl ?_
 | refine W_lookupT rfl rfl rfl ((upd_ne _ _ q1).trans ((upd_ne _ _ q1).trans hc1)) hu1 hu2 rfl ?_
 | refine W_lookup rfl rfl rfl ((upd_ne _ _ q0).trans ((upd_ne _ _ q0).trans hc0)) hu3 rfl ?_
 | (refine I_mov ?_; first
 | refine W_mov (v := .int _ _) rfl rfl rfl ?_
 | refine W_mov (v := .bool _) rfl rfl rfl ?_
 | refine W_mov (v := .tuple _) rfl rfl rfl ?_
 | refine W_mov (v := .map _) rfl rfl rfl ?_)
 | (refine I_bin ?_; first
 | refine W_lssT rfl rfl rfl rfl (by omega) ?_
 | refine W_add rfl rfl rfl rfl (by first | exact w64 (by omega) | rfl) ?_)
 | (refine I_load ?_; first
 | refine W_loadE (agg := true) (d := .agg [_, _, _, _, _, _, _, _]) rfl rfl rfl hv rfl ?_
 | refine W_load (agg := false) (d := .int _ _) rfl rfl rfl ((congrArg (fun x => Option.bind x Box.cs) ((upd_ne _ _ qb).trans (upd_ne _ _ qb))).trans hcb) hlb rfl ?_
 | refine W_load (agg := false) (d := .int _ _) rfl rfl rfl (bxc rfl) (by first | exact Nat.zero_le _ | assumption | exact Nat.le_trans hlim (Nat.zero_le _) | omega) rfl ?_
 | refine W_load (agg := true) (d := .agg [_, _, _, _, _, _, _, _]) rfl rfl rfl (bxc rfl) (by first | exact Nat.zero_le _ | assumption | exact Nat.le_trans hlim (Nat.zero_le _) | omega) rfl ?_)
 | (refine I_call ?_; first
 | refine W_call rfl rfl rfl hP rfl rfl ?_)
 | (refine I_pick ?_; first
 | refine W_pick (v := .bool _) rfl rfl rfl rfl ?_)
 | (refine I_extract ?_; first
 | refine W_extract (d := .int _ _) rfl rfl rfl rfl ?_
 | refine W_extract (d := .bool _) rfl rfl rfl rfl ?_)
 | refine W_not rfl rfl rfl ?_
 | refine W_faddr rfl rfl rfl ?_
 | refine W_alloc rfl rfl ?_
 | refine WS_nil ?_)
 | refine WC_seq ?_
 | refine WC_opsS ?_
 | refine WC_skip ?_
 | refine WC_condT rfl ?_
 | refine WC_condF rfl ?_
 | refine WC_block ?_)
          exact hnext _ _ o hlim (Nat.le_succ_of_le hnx) (Nat.le_succ _) hA hKo hkeep (.inl rfl) rfl rfl rfl rfl rfl rfl rfl rfl rfl rfl rfl
    · rw [if_neg hc] at hP
      have hpush : push1 (psz sz) cl out t s e = s := by simp [push1, psz, hc]
      rw [hpush] at hnext
      clear hpush hps
      generalize vis out e.to = vv at hu2
      repeat' (first
 | (refine I_WS ?_; first
 | refine W_iaddr (j := pre.length) rfl rfl rfl rfl rfl hpl ?_
 | refine W_store (cs' := [_, _, _, _, _, _, _, _]) rfl rfl (upd_same _ _ _) rfl hlim2 rfl rfl rfl ?_
 | refine W_lookupT rfl rfl rfl ((upd_ne _ _ q1).trans ((upd_ne _ _ q1).trans hc1)) hu1 hu2 rfl ?_
 | (refine I_mov ?_; first
 | refine W_skip rfl ?_
 | refine W_mov (v := .int _ _) rfl rfl rfl ?_
 | refine W_mov (v := .bool _) rfl rfl rfl ?_
 | refine W_mov (v := .tuple _) rfl rfl rfl ?_
 | refine W_mov (v := .map _) rfl rfl rfl ?_)
 | (refine I_bin ?_; first
 | refine W_lssT rfl rfl rfl rfl (by omega) ?_
 | refine W_add rfl rfl rfl rfl (by first | exact w64 (by omega) | rfl) ?_)
 | (refine I_load ?_; first
 | refine W_skip rfl ?_
 | refine W_loadE (agg := true) (d := .agg [_, _, _, _, _, _, _, _]) rfl rfl rfl hv rfl ?_
 | refine W_load (agg := false) (d := .int _ _) rfl rfl rfl ((congrArg (fun x => Option.bind x Box.cs) ((upd_ne _ _ qb).trans (upd_ne _ _ qb))).trans hcb) hlb rfl ?_
 | refine W_load (agg := false) (d := .int _ _) rfl rfl rfl (bxc rfl) (by first | exact Nat.zero_le _ | assumption | exact Nat.le_trans hlim (Nat.zero_le _) | omega) rfl ?_
 | refine W_load (agg := true) (d := .agg [_, _, _, _, _, _, _, _]) rfl rfl rfl (bxc rfl) (by first | exact Nat.zero_le _ | assumption | exact Nat.le_trans hlim (Nat.zero_le _) | omega) rfl ?_)
 | (refine I_call ?_; first
 | refine W_call rfl rfl rfl hP rfl rfl ?_)
 | (refine I_pick ?_; first
 | refine W_pick (v := .bool _) rfl rfl rfl rfl ?_)
 | (refine I_extract ?_; first
 | refine W_extract (d := .int _ _) rfl rfl rfl rfl ?_
 | refine W_extract (d := .bool _) rfl rfl rfl rfl ?_)
 | refine W_faddr rfl rfl rfl ?_
 | refine W_alloc rfl rfl ?_
 | refine W_skip rfl ?_
 | refine WS_nil ?_)
 | refine WC_seq ?_
 | refine WC_opsS ?_
 | refine WC_skip ?_
 | refine WC_condT rfl ?_
 | refine WC_condF rfl ?_
 | refine WC_block ?_)
      exact hnext _ _ o hlim (Nat.le_succ_of_le hnx) (Nat.le_succ _) hA hKo hkeep (.inl rfl) rfl rfl rfl rfl rfl rfl rfl rfl rfl rfl rfl
end Go.Lea
/-
  The times: the earliest node goes on first.
-/
namespace Go.Lea
open Go.Ev
theorem rd_ele (a : Rd) : Elem 2 a.e := ⟨rfl, rfl⟩
def OutR (st : Store) (h : Nat) (o : Option Nat) (d : D) (out : List Rd) : Prop := (out = [] ∧ d = .slice .isnil 0 []) ∨ ∃ q n c, 2 ≤ q ∧ q ≠ h ∧ some q ≠ o ∧ n = out.length ∧ out ≠ [] ∧ d = .rs q 0 2 n c ∧ RowIs st q 2 (out.map Rd.e)
theorem OutR.ne {st : Store} {h : Nat} {o : Option Nat} {d : D} {out : List Rd} (H : OutR st h o d out) {x : Nat} (hx : x < 2 ∨ x = h ∨ some x = o ∨ st.next ≤ x) : ∀ n c, d ≠ .rs x 0 2 n c := by
  rintro n c rfl
  rcases H with ⟨_, h⟩ | ⟨q, n', c', h1, h2, h3, _, _, h4, hR⟩
  · cases h
  · cases h4
    have := hR.2.1
    rcases hx with hx | hx | hx | hx
    · omega
    · exact h2 hx
    · exact h3 hx
    · omega
theorem OutR.of {st st' : Store} {h : Nat} {o o' : Option Nat} {d : D} {out : List Rd} (H : OutR st h o d out) (hl : st'.lim ≤ 0) (hn : st.next ≤ st'.next) (hb : ∀ q n c, d = .rs q 0 2 n c → st'.boxes q = st.boxes q ∧ some q ≠ o') : OutR st' h o' d out := by
  rcases H with h | ⟨q, n, c, h1, h2, h3, h4, h5, rfl, hR⟩
  · exact .inl h
  · obtain ⟨e1, e2⟩ := hb q n c rfl
    exact .inr ⟨q, n, c, h1, h2, e2, h4, h5, rfl, hR.of (by omega) (Nat.lt_of_lt_of_le hR.2.1 hn) e1⟩
section
variable {Γ : Nat → Option FD} {ρ : Nat → D} {st : Store} {dr : Bool} {R : (Nat → D) → Store → List Fl → Prop} {l : List Op1} {g : Option (Nat × Bool)} {mv : Bool} {k : Nat} {x y : A}
theorem W_appOut {bytes h : Nat} {o : Option Nat} {d : D} {out : List Rd} {r : Rd} {t : Tok} (hg : guardV ρ g = some true) (hx : x.ev ρ = d) (hy : y.ev ρ = .slice t 2 [r.e]) (hm : mv = true) (hO : OutR st h o d out) (hb : (out.length + 1) * bytes ≤ 140737488355328) (hl : st.lim ≤ st.next) (h2 : 2 ≤ st.next) (hh : h < st.next) (ho : ∀ r, o = some r → r < st.next)
    (H : ∀ st' d', st'.lim = st.lim → st.next ≤ st'.next → OutR st' h o d' (out ++ [r]) → (∀ x, x < st.next → (∀ n c, d ≠ .rs x 0 2 n c) → st'.boxes x = st.boxes x) → WS Γ dr l (upd ρ k d') st' (nx .f R)) : WS Γ dr (⟨some k, g, mv, .append 2 bytes x y⟩ :: l) ρ st R := by
  have hys : ∀ d ∈ [r.e], Elem 2 d := fun d hd => by rw [List.mem_singleton.mp hd]; exact rd_ele r
  rcases hO with ⟨rfl, rfl⟩ | ⟨q, n, c, h1, h2', h3, rfl, h5, rfl, hR⟩
  · refine W_appNew hg hx (.inr rfl) (.inr rfl) hy hm (.inl rfl) (by simp) (by simp) hys (by simpa using hb) hl (fun st' e1 _ _ _ hR' hoth hn => ?_)
    refine H st' _ e1 (by omega) (.inr ⟨st.next, _, _, h2, by omega, fun e => by have := ho st.next e.symm; omega, rfl, by simp, rfl, by simpa using hR'⟩) (fun x hx _ => hoth x hx)
  · refine W_appRow hg hx hy hR (by simp) (.inl rfl) (fun d hd => by
      obtain ⟨a, _, rfl⟩ := List.mem_map.mp hd
      rfl) hys (by simpa using hb) (fun p' c' st' e1 _ _ _ hR' hoth hn hp => ?_)
    refine H st' _ e1 hn (.inr ⟨p', _, c', ?_, ?_, ?_, by simp, by simp, rfl, by simpa using hR'⟩) (fun x hx hne => hoth x (fun e => by subst e; exact hne _ _ rfl) hx)
    · rcases hp with rfl | hp
      · exact h1
      · omega
    · rcases hp with rfl | hp
      · exact h2'
      · omega
    · rcases hp with rfl | hp
      · exact h3
      · intro e
        have := ho p' e.symm
        omega
end
theorem KVA.set {kv : List (Int × D)} {out : List Rd} (h : KVA kv out) (r : Rd) : KVA (kvSet r.node (.int .i64 r.at') kv) (out ++ [r]) := fun n => by
  rw [kvGet_set, vis_snoc]
  by_cases e : n = r.node
  · rw [if_pos e]
    exact ⟨r.at', rfl, by simp [e]⟩
  · rw [if_neg e]
    obtain ⟨u, h1, h2⟩ := h n
    refine ⟨u, h1, ?_⟩
    rw [h2]
    have : ¬ r.node = n := fun x => e x.symm
    simp [this]
set_option maxHeartbeats 8000000 in
theorem l_out (l : List Eg) (hll : l.length ≤ 1000) (t0 : Tok) (s0 : Nat) (hs0 : s0 = 8 ∨ l = []) (sz : Int) (cl : Int → Bool) (kvc : List (Int × D)) (hkc : KVC kvc cl) : ∀ (n : Nat) (out s : List Rd), meas l out s ≤ n → n + out.length ≤ 100000 → ∀ (kva : List (Int × D)), KVA kva out → ∀ (ρ : Nat → D) (st : Store) (h : Nat) (o : Option Nat) (d v4 : D),
    st.lim ≤ 0 → 2 ≤ h → (∀ r, o = some r → 2 ≤ r) → AH st h o s → st.boxes 0 = some (.map kvc) → st.boxes 1 = some (.map kva) → OutR st h o d out →
    ρ 0 = .slice t0 s0 (l.map Eg.e) → ρ 3 = .int .i64 sz → ρ 4 = v4 → ρ 10 = d → ρ 11 = .map 0 → ρ 14 = .map 1 → ρ 15 = .ptr h 0 → ∀ (Q : X → (Nat → D) → Store → Prop),
    (∀ ρ' st' d' h' o', st'.lim ≤ 0 → OutR st' h' o' d' (dij (psz sz) cl l n out s) → ρ' 10 = d' → Q (.exit 2) ρ' st') → WC Γ (.loop c_early_Times_l2) ρ st Q := by
  intro n
  induction n with
  | zero =>
    intro out s hm hno kva hka ρ st h o d v4 hlim hh2 ho2 H hb0 hb1 hO h0 h3 h4 h10 h11 h14 h15 Q hQ
    have hs : s = [] := List.length_eq_zero_iff.mp (by unfold meas at hm; omega)
    subst hs
    have hLen : EvRO Γ 40 [.ptr h 0] st (.int .i64 0) := s_LenA H (by simp)
    rw [← upd_self h0, ← upd_self h3, ← upd_self h4, ← upd_self h10, ← upd_self h11, ← upd_self h14, ← upd_self h15]
    refine WC_loop ?_
    repeat' (first
 | (refine I_WS ?_; first
 | (refine I_mov ?_; first
 | refine W_mov (v := .ptr _ _) rfl rfl rfl ?_)
 | (refine I_bin ?_; first
 | refine W_gtrF rfl rfl rfl rfl (by omega) ?_)
 | (refine I_call ?_; first
 | refine W_callRO rfl rfl rfl hLen rfl rfl ?_)
 | refine WS_nil ?_)
 | refine WC_seq ?_
 | refine WC_opsS ?_
 | refine WC_condF rfl ?_
 | refine WC_exit ?_)
    exact hQ _ _ d h o hlim hO rfl
  | succ n ih =>
    intro out s hm hno kva hka ρ st h o d v4 hlim hh2 ho2 H hb0 hb1 hO h0 h3 h4 h10 h11 h14 h15 Q hQ
    cases s with
    | nil =>
      have hLen : EvRO Γ 40 [.ptr h 0] st (.int .i64 0) := s_LenA H (by simp)
      rw [← upd_self h0, ← upd_self h3, ← upd_self h4, ← upd_self h10, ← upd_self h11, ← upd_self h14, ← upd_self h15]
      refine WC_loop ?_
      repeat' (first
 | (refine I_WS ?_; first
 | (refine I_mov ?_; first
 | refine W_mov (v := .ptr _ _) rfl rfl rfl ?_)
 | (refine I_bin ?_; first
 | refine W_gtrF rfl rfl rfl rfl (by omega) ?_)
 | (refine I_call ?_; first
 | refine W_callRO rfl rfl rfl hLen rfl rfl ?_)
 | refine WS_nil ?_)
 | refine WC_seq ?_
 | refine WC_opsS ?_
 | refine WC_condF rfl ?_
 | refine WC_exit ?_)
      exact hQ _ _ d h o hlim hO rfl
    | cons r s =>
      have hsl : s.length + 1 ≤ n + 1 := by unfold meas at hm; simp at hm; omega
      have hLen : EvRO Γ 40 [.ptr h 0] st (.int .i64 ((s.length : Int) + 1)) := by
        have := s_LenA H (by simp; omega)
        simpa using this
      have hPop : EvRWX Γ 41 [.ptr h 0] st (fun r0 st' => r0 = .tuple [r.e, .bool true] ∧ AH st' h o s ∧ Fr st st' h o o) := by
        have := s_PopA H (by simp; omega)
        simpa [hdR] using this
      have hnh := H.nx
      have hne0 : some 0 ≠ o := fun e => by have := ho2 0 e.symm; omega
      have hne1 : some 1 ≠ o := fun e => by have := ho2 1 e.symm; omega
      rw [← upd_self h0, ← upd_self h3, ← upd_self h4, ← upd_self h10, ← upd_self h11, ← upd_self h14, ← upd_self h15]
      refine WC_loop ?_
      repeat' (first
 | (refine I_WS ?_; first
 | (refine I_mov ?_; first
 | refine W_mov (v := .ptr _ _) rfl rfl rfl ?_)
 | (refine I_bin ?_; first
 | refine W_gtrT rfl rfl rfl rfl (by omega) ?_)
 | (refine I_call ?_; first
 | refine W_callRO rfl rfl rfl hLen rfl rfl ?_
 | (refine W_callRWX rfl rfl rfl hPop ?_ <;> intro r0 st1 hp0))
 | refine WS_nil ?_)
 | refine WC_seq ?_
 | refine WC_opsS ?_
 | refine WC_skip ?_
 | refine WC_condT rfl ?_
 | refine WC_block ?_)
      obtain ⟨rfl, H1, F1⟩ := hp0
      have hlim1 : st1.lim ≤ 0 := by rw [F1.lim]; exact hlim
      have hll1 : st1.lim ≤ st1.next := by omega
      have hnx1 : st.next ≤ st1.next := F1.next
      have h31 : 2 < st1.next := by omega
      have hc0 : st1.boxes 0 = some (.map kvc) := by rw [F1.box 0 (by omega) (by omega) hne0]; exact hb0
      have hc1 : st1.boxes 1 = some (.map kva) := by rw [F1.box 1 (by omega) (by omega) hne1]; exact hb1
      have hO1 : OutR st1 h o d out := by
        rcases hO with hO | ⟨q, n', c, k1, k2, k3, k4, k5, rfl, hR⟩
        · exact .inl hO
        · exact .inr ⟨q, n', c, k1, k2, k3, k4, k5, rfl, hR.of (by omega) (Nat.lt_of_lt_of_le hR.2.1 hnx1) (F1.box q hR.2.1 k2 k3)⟩
      have ho3 : ∀ r, o = some r → r < st1.next := fun r hr => by subst hr; exact H1.onx
      obtain ⟨u, hu1, hu2⟩ := hka r.node
      have q1 : (1 : Nat) ≠ st1.next := by omega
      have q0 : (0 : Nat) ≠ st1.next := by omega
      clear hb0 hb1 hO H hLen hPop F1 hnh
      cases hv : vis out r.node with
      | true =>
        rw [hv] at hu2
        have hd : dij (psz sz) cl l (n + 1) out (r :: s) = dij (psz sz) cl l n out s := by rw [dij, if_pos hv]
        have hms : meas l out s ≤ n := by have := meas_skip (l := l) (out := out) (s := s) (r := r); omega
        have hnext : ∀ (ρ' : Nat → D) (x y : Option Box), ρ' 0 = .slice t0 s0 (l.map Eg.e) → ρ' 3 = .int .i64 sz → ρ' 4 = v4 → ρ' 10 = d → ρ' 11 = .map 0 → ρ' 14 = .map 1 → ρ' 15 = .ptr h 0 → WC Γ (.loop c_early_Times_l2) ρ' { st1 with boxes := upd (upd st1.boxes st1.next x) st1.next y, next := st1.next + 1 } Q := fun ρ' x y k0 k3 k4 k10 k11 k14 k15 =>
          ih out s hms (by omega) kva hka ρ' { st1 with boxes := upd (upd st1.boxes st1.next x) st1.next y, next := st1.next + 1 } h o d v4 hlim1 hh2 ho2 (H1.of rfl (Nat.le_succ _) (fun q hq _ => (upd_ne _ _ (Nat.ne_of_lt hq)).trans (upd_ne _ _ (Nat.ne_of_lt hq))))
            ((upd_ne _ _ q0).trans ((upd_ne _ _ q0).trans hc0)) ((upd_ne _ _ q1).trans ((upd_ne _ _ q1).trans hc1))
            (by
              rcases hO1 with hO | ⟨q, n', c, k1, k2, k3, k4, k5, rfl, hR⟩
              · exact .inl hO
              · have hq := hR.2.1
                exact .inr ⟨q, n', c, k1, k2, k3, k4, k5, rfl, hR.of hR.1 (Nat.lt_succ_of_lt hq) ((upd_ne _ _ (Nat.ne_of_lt hq)).trans (upd_ne _ _ (Nat.ne_of_lt hq)))⟩)
            k0 k3 k4 k10 k11 k14 k15 Q (fun ρ'' st'' d' h' o' f1 f2 f3 => hQ ρ'' st'' d' h' o' f1 (by rw [hd]; exact f2) f3)
        clear ih hQ
        repeat' (first
 | (refine I_WS ?_; first
 | refine W_store (cs' := [_, _]) rfl rfl (upd_same _ _ _) rfl hll1 rfl rfl rfl ?_
 | refine W_lookupT rfl rfl rfl ((upd_ne _ _ q1).trans ((upd_ne _ _ q1).trans hc1)) hu1 hu2 rfl ?_
 | (refine I_mov ?_; first
 | refine W_mov (v := .int _ _) rfl rfl rfl ?_
 | refine W_mov (v := .bool _) rfl rfl rfl ?_
 | refine W_mov (v := .tuple _) rfl rfl rfl ?_
 | refine W_mov (v := .map _) rfl rfl rfl ?_)
 | (refine I_load ?_; first
 | refine W_load (agg := false) (d := .int _ _) rfl rfl rfl (bxc rfl) (by first | exact Nat.zero_le _ | assumption | exact Nat.le_trans hlim (Nat.zero_le _) | omega) rfl ?_)
 | (refine I_extract ?_; first
 | refine W_extract (d := .int _ _) rfl rfl rfl rfl ?_
 | refine W_extract (d := .bool _) rfl rfl rfl rfl ?_
 | refine W_extract (d := .agg _) rfl rfl rfl rfl ?_)
 | refine W_faddr rfl rfl rfl ?_
 | refine W_alloc rfl rfl ?_
 | refine WS_nil ?_)
 | refine WC_seq ?_
 | refine WC_opsS ?_
 | refine WC_condT rfl ?_
 | refine WC_exit ?_)
        refine hnext _ _ _ ?_ ?_ ?_ ?_ ?_ ?_ ?_ <;> rfl
      | false =>
        rw [hv] at hu2
        have hd : dij (psz sz) cl l (n + 1) out (r :: s) = dij (psz sz) cl l n (out ++ [r]) (pushes (psz sz) cl (out ++ [r]) r.at' (fromE r.node l) s) := by rw [dij, if_neg (by simp [hv])]
        have hms : meas l (out ++ [r]) (pushes (psz sz) cl (out ++ [r]) r.at' (fromE r.node l) s) ≤ n := by have := meas_go (ps := psz sz) (cl := cl) (l := l) (s := s) hv; omega
        have hF := fun t => s_From r.node l (by omega) t s0 hs0
        have hfl : (fromE r.node l).length ≤ l.length := by unfold fromE; exact List.length_filter_le _ _
        have hkv' := hka.set r
        have hbd : (out.length + 1) * 16 ≤ 140737488355328 := by omega
        have hqb1 : st1.next ≠ 1 := by omega
        have hl01 : st1.lim ≤ 1 := by omega
        have hneb : ∀ n c, d ≠ .rs st1.next 0 2 n c := hO1.ne (.inr (.inr (.inr (Nat.le_refl _))))
        have hO2 : ∀ {x y z : Option Box}, OutR { st1 with boxes := upd (upd (upd st1.boxes st1.next x) st1.next y) 1 z, next := st1.next + 1 } h o d out := fun {x y z} => hO1.of hlim1 (Nat.le_succ _) (fun q n c e => by
          have h1 : ¬ q < 2 := fun hq => hO1.ne (.inl hq) n c e
          have h2 : some q ≠ o := fun hq => hO1.ne (.inr (.inr (.inl hq))) n c e
          have h3 : ¬ st1.next ≤ q := fun hq => hO1.ne (.inr (.inr (.inr hq))) n c e
          exact ⟨(upd_ne _ _ (by omega)).trans ((upd_ne _ _ (by omega)).trans (upd_ne _ _ (by omega))), h2⟩)
        have hkeep2 : ∀ {x y z : Option Box} (q : Nat), q < st1.next → q ≠ 1 → (upd (upd (upd st1.boxes st1.next x) st1.next y) 1 z) q = st1.boxes q := fun {x y z} q hq hq1 => (upd_ne _ _ hq1).trans ((upd_ne _ _ (Nat.ne_of_lt hq)).trans (upd_ne _ _ (Nat.ne_of_lt hq)))
        have hhn1 : h < st1.next + 1 := Nat.lt_succ_of_lt H1.nx
        have ho4 : ∀ r, o = some r → r < st1.next + 1 := fun r hr => Nat.lt_succ_of_lt (ho3 r hr)
        have h2n : 2 ≤ st1.next + 1 := by omega
        have hll2 : st1.lim ≤ st1.next + 1 := by omega
        repeat' (first
 | (refine I_WS ?_; first
 | refine W_store (cs' := [_, _]) rfl rfl (upd_same _ _ _) rfl hll1 rfl rfl rfl ?_
 | refine W_lookupT rfl rfl rfl ((upd_ne _ _ q1).trans ((upd_ne _ _ q1).trans hc1)) hu1 hu2 rfl ?_
 | refine W_mapset (v := .int .i64 r.at') rfl rfl rfl ((upd_ne _ _ q1).trans ((upd_ne _ _ q1).trans hc1)) hl01 rfl rfl ?_
 | refine W_mov (v := d3) rfl rfl rfl ?_
 | refine W_mov (v := d) rfl rfl rfl ?_
 | (refine W_appOut rfl rfl rfl rfl hO2 hbd hll2 h2n hhn1 ho4 ?_; intro st3 d3 e1 e2 hO3 hoth3; have hbb3 : (st3.boxes st1.next).bind Box.cs = some [.int .i64 r.node, .int .i64 r.at'] := (congrArg (fun x => Option.bind x Box.cs) (hoth3 st1.next (Nat.lt_succ_self _) hneb)).trans (bxs hqb1 (bxc rfl)); have hlb3 : st3.lim ≤ st1.next := Nat.le_trans (Nat.le_of_eq e1) hll1)
 | refine W_lenM rfl rfl rfl ?_
 | (refine I_mov ?_; first
 | refine W_mov (v := .int _ _) rfl rfl rfl ?_
 | refine W_mov (v := .bool _) rfl rfl rfl ?_
 | refine W_mov (v := .slice _ _ _) rfl rfl rfl ?_
 | refine W_mov (v := .tuple _) rfl rfl rfl ?_
 | refine W_mov (v := .map _) rfl rfl rfl ?_)
 | (refine I_load ?_; first
 | refine W_load (agg := false) (d := .int _ _) rfl rfl rfl hbb3 hlb3 rfl ?_
 | refine W_load (agg := true) (d := .agg [_, _]) rfl rfl rfl (bxs hqb1 (bxc rfl)) hll1 rfl ?_
 | refine W_load (agg := false) (d := .int _ _) rfl rfl rfl (bxc rfl) hll1 rfl ?_)
 | (refine I_call ?_; first
 | (refine W_callS rfl rfl rfl (hF _) rfl ?_; intro tf sf hsf1 tk5 nt5))
 | (refine I_extract ?_; first
 | refine W_extract (d := .int _ _) rfl rfl rfl rfl ?_
 | refine W_extract (d := .bool _) rfl rfl rfl rfl ?_
 | refine W_extract (d := .agg _) rfl rfl rfl rfl ?_)
 | refine W_faddr rfl rfl rfl ?_
 | refine W_alloc rfl rfl ?_
 | refine W_bslice (ys := [_]) rfl rfl rfl (by decide) rfl ?_
 | refine WS_nil ?_)
 | refine WC_seq ?_
 | refine WC_opsS ?_
 | refine WC_skip ?_
 | refine WC_condF rfl ?_
 | refine WC_block ?_)
        have e1' : st3.lim = st1.lim := e1
        have e2' : st1.next + 1 ≤ st3.next := e2
        have hlim3 : st3.lim ≤ 0 := by rw [e1']; exact hlim1
        have hb03 : st3.boxes 0 = some (.map kvc) := by
          rw [hoth3 0 (by show 0 < st1.next + 1; omega) (hO1.ne (.inl (by omega)))]
          exact (hkeep2 (z := none) 0 (by omega) (by omega)).trans hc0
        have hb13 : st3.boxes 1 = some (.map (kvSet r.node (.int .i64 r.at') kva)) := (hoth3 1 (by show 1 < st1.next + 1; omega) (hO1.ne (.inl (by omega)))).trans rfl
        have H3 : AH st3 h o s := H1.of e1' (by omega) (fun q hq hqo => by
          rw [hoth3 q (Nat.lt_succ_of_lt hq) (hO1.ne (by
            rcases hqo with h' | h'
            · exact .inr (.inl h')
            · exact .inr (.inr (.inl h'))))]
          refine hkeep2 q hq ?_
          rcases hqo with rfl | h'
          · omega
          · have := ho2 q h'.symm
            omega)
        have hKn : ∀ q, (q = 0 ∨ q = 1 ∨ q = st1.next ∨ ∃ n c, d3 = .rs q 0 2 n c) → q < st3.next ∧ q ≠ h := by
          have := H1.nx
          rintro q (rfl | rfl | rfl | ⟨n', c', e⟩)
          · omega
          · omega
          · omega
          · exact ⟨Nat.lt_of_not_le fun hq => hO3.ne (.inr (.inr (.inr hq))) n' c' e, fun hq => hO3.ne (.inr (.inl hq)) n' c' e⟩
        have hKo : ∀ q, (q = 0 ∨ q = 1 ∨ q = st1.next ∨ ∃ n c, d3 = .rs q 0 2 n c) → some q ≠ o := by
          rintro q (rfl | rfl | rfl | ⟨n', c', e⟩)
          · exact hne0
          · exact hne1
          · intro e
            have := ho3 _ e.symm
            omega
          · exact fun hq => hO3.ne (.inr (.inr (.inl hq))) n' c' e
        refine l_in sz cl (out ++ [r]) kvc (kvSet r.node (.int .i64 r.at') kva) hkc hkv' r.at' (fromE r.node l) (by omega) tf sf hsf1 h st1.next { st3 with toks := tk5, ntok := nt5 } (fun q => q = 0 ∨ q = 1 ∨ q = st1.next ∨ ∃ n c, d3 = .rs q 0 2 n c) (.inl rfl) (.inr (.inl rfl)) (.inr (.inr (.inl rfl))) hKn hb03 hb13 r.node hbb3 (.slice t0 s0 (l.map Eg.e)) v4 d3 (fromE r.node l) [] rfl _ { st3 with toks := tk5, ntok := nt5 } s o (by simp; omega) hlim3 (Nat.le_refl _) (H3.of rfl (Nat.le_refl _) (fun _ _ _ => rfl)) hKo (fun _ _ => rfl) ?_ ?_ ?_ ?_ ?_ ?_ ?_ ?_ ?_ ?_ ?_ _ (fun ρ' st4 o' f1 f2 f3 f4 f5 f6 k0 k3 k4 k10 k11 k14 k15 => ?_)
        all_goals first | rfl | skip
        rw [← upd_self k0, ← upd_self k3, ← upd_self k4, ← upd_self k10, ← upd_self k11, ← upd_self k14, ← upd_self k15]
        skip
        refine ih (out ++ [r]) _ hms (by simp; omega) _ hkv' _ st4 h o' d3 v4 f1 hh2 (fun r' hr' => ?_) f3 ((f5 0 (.inl rfl)).trans hb03) ((f5 1 (.inr (.inl rfl))).trans hb13) (hO3.of f1 f2 (fun q n' c' e => ⟨f5 q (.inr (.inr (.inr ⟨n', c', e⟩))), f4 q (.inr (.inr (.inr ⟨n', c', e⟩)))⟩)) ?_ ?_ ?_ ?_ ?_ ?_ ?_ Q (fun ρ'' st'' d' h' o'' g1 g2 g3 => hQ ρ'' st'' d' h' o'' g1 (by rw [hd]; exact g2) g3)
        · rcases f6 with rfl | ⟨r2, hr2, hr3⟩
          · exact ho2 r' hr'
          · have hr4 : st3.next ≤ r2 := hr3
            rw [hr2] at hr'
            cases hr'
            omega
        all_goals rfl
end Go.Lea
/-
  Sorting by nodes, as the known function does it, and as plain lists.
-/
namespace Go.Ev
theorem EvRW_primS {Γ : Nat → Option FD} {st st' : Store} {f : Nat} {F : List D → Store → Option (D × Store)} {ds : List D} {r : D} (hf : Γ f = some (.primS F)) (hF : F (ds.map D.strip) st = some (r, st')) : EvRW Γ f ds st r st' := by
  refine ⟨2, fun n hn => ?_⟩
  obtain ⟨n, rfl⟩ : ∃ m, n = m + 2 := ⟨n - 2, by omega⟩
  have hp : callP Γ (n + 1) f (ds.map D.strip) = none := by simp [callP, hf]
  have hp2 : callP Γ (n + 1) f (ds.map (seen st)) = none := by simp [callP, hf]
  refine ⟨?_, by simp [callRW, hf, hF]⟩
  simp only [callRO, hf, hp, hp2]
  split
  · rfl
  · split
    · split <;> rfl
    · rfl
end Go.Ev
namespace Go.Lea
open Go.Ev
def insK {α : Type} (key : α → Int) (x : α) : List α → List α
  | [] => [x]
  | y :: s => if key y < key x then y :: insK key x s else x :: y :: s
def srtK {α : Type} (key : α → Int) : List α → List α
  | [] => []
  | x :: s => insK key x (srtK key s)
theorem insK_perm {α : Type} (key : α → Int) (x : α) : ∀ l : List α, (insK key x l).Perm (x :: l)
  | [] => List.Perm.refl _
  | y :: s => by
    simp only [insK]
    split
    · exact ((insK_perm key x s).cons y).trans (List.Perm.swap x y s)
    · exact List.Perm.refl _
theorem srtK_perm {α : Type} (key : α → Int) : ∀ l : List α, (srtK key l).Perm l
  | [] => List.Perm.refl _
  | x :: s => (insK_perm key x _).trans ((srtK_perm key s).cons x)
theorem insK_map {α β : Type} (key : β → Int) (f : α → β) (x : α) : ∀ l : List α, insK key (f x) (l.map f) = (insK (fun a => key (f a)) x l).map f
  | [] => rfl
  | y :: s => by
    simp only [List.map_cons, insK]
    split
    · rw [insK_map key f x s]; rfl
    · rfl
theorem srtK_map {α β : Type} (key : β → Int) (f : α → β) : ∀ l : List α, srtK key (l.map f) = (srtK (fun a => key (f a)) l).map f
  | [] => rfl
  | x :: s => by
    simp only [List.map_cons, srtK]
    rw [srtK_map key f s, insK_map]
theorem insI_eq (x : List Int) : ∀ l : List (List Int), insI 0 x l = insK (fun a => a.getD 0 0) x l
  | [] => rfl
  | y :: s => by simp only [insI, insK, insI_eq x s]
theorem sortI_eq : ∀ l : List (List Int), sortI 0 l = srtK (fun a => a.getD 0 0) l
  | [] => rfl
  | x :: s => by simp only [sortI, srtK, sortI_eq s, insI_eq]
theorem insK_sorted {α : Type} (key : α → Int) (x : α) : ∀ l : List α, (l.Pairwise fun a b => key a ≤ key b) → (insK key x l).Pairwise fun a b => key a ≤ key b
  | [], _ => by simp [insK]
  | y :: s, h => by
    have h' := List.pairwise_cons.mp h
    simp only [insK]
    split
    · rename_i hlt
      refine List.pairwise_cons.mpr ⟨fun z hz => ?_, insK_sorted key x s h'.2⟩
      rcases List.mem_cons.mp ((insK_perm key x s).mem_iff.mp hz) with rfl | hz
      · omega
      · exact h'.1 z hz
    · rename_i hlt
      refine List.pairwise_cons.mpr ⟨fun z hz => ?_, h⟩
      rcases List.mem_cons.mp hz with rfl | hz
      · omega
      · have := h'.1 z hz
        omega
theorem srtK_sorted {α : Type} (key : α → Int) : ∀ l : List α, (srtK key l).Pairwise fun a b => key a ≤ key b
  | [] => List.Pairwise.nil
  | x :: s => insK_sorted key x _ (srtK_sorted key s)
def Rd.row (e : Rd) : List Int := [e.node, e.at']
theorem flat_cells (es : List Rd) : (es.map Rd.e).flatMap D.cells = (es.flatMap Rd.row).map (D.int .i64) := by
  induction es with
  | nil => rfl
  | cons e es ih => rw [List.map_cons, List.flatMap_cons, ih, List.flatMap_cons, List.map_append]; rfl
theorem intsOf_map : ∀ l : List Int, intsOf (l.map (D.int .i64)) = some l
  | [] => rfl
  | x :: l => by simp only [List.map_cons, intsOf, intsOf_map l]
theorem rowsI_flat : ∀ es : List Rd, rowsI 2 es.length (es.flatMap Rd.row) = es.map Rd.row
  | [] => rfl
  | e :: es => by
    rw [List.flatMap_cons, List.length_cons, List.map_cons]
    simp only [rowsI]
    rw [List.take_left' (show e.row.length = 2 from rfl), List.drop_left' (show e.row.length = 2 from rfl), rowsI_flat es]
theorem diffB_of : ∀ l : List Int, l.Nodup → diffB l = true
  | [], _ => rfl
  | x :: l, h => by
    have h' := List.nodup_cons.mp h
    simp only [diffB, diffB_of l h'.2, Bool.and_true, Bool.not_eq_true']
    simpa using h'.1
theorem el2 {es : List Rd} : ∀ d ∈ es.map Rd.e, d.cells.length = 2 := fun d hd => by
  obtain ⟨e, _, rfl⟩ := List.mem_map.mp hd
  rfl
theorem s_sort (es : List Rd) (hn : (es.map Rd.node).Nodup) (hlen : es.length < 4611686018427387904) (st : Store) (p c : Nat) (hR : RowIs st p 2 (es.map Rd.e)) :
    ∃ st', EvRW Γ 45 [.rs p 0 2 es.length c, .func 46 []] st (.tuple []) st' ∧ RowIs st' p 2 ((srtK Rd.node es).map Rd.e) := by
  obtain ⟨hl, hp, cs, hb, hlc, htk, hpl⟩ := hR
  rw [List.length_map] at hlc htk
  have e1 : sortI 0 (es.map Rd.row) = (srtK Rd.node es).map Rd.row := by rw [sortI_eq, srtK_map]; rfl
  have e2 : ((srtK Rd.node es).map Rd.row).flatMap (fun x => x.map (D.int .i64)) = ((srtK Rd.node es).map Rd.e).flatMap D.cells := by
    rw [List.flatMap_map, List.flatMap_map]; rfl
  have hpm := (srtK_perm Rd.node es).length_eq
  have e3 : (((srtK Rd.node es).map Rd.e).flatMap D.cells).length = es.length * 2 := by
    rw [flatMap_len el2, List.length_map, hpm]
  refine ⟨{ st with boxes := upd st.boxes p (some (.row (((srtK Rd.node es).map Rd.e).flatMap D.cells ++ cs.drop (es.length * 2)))) }, EvRW_primS (F := sortF 2 0 46) rfl ?_, hl, hp, _, upd_same _ _ _, ?_, ?_, ?_⟩
  · show sortF 2 0 46 [.rs p 0 2 es.length c, .func 46 []] st = _
    simp only [sortF, hb]
    rw [htk, flat_cells, intsOf_map]
    simp only [rowsI_flat, e1, e2]
    rw [if_pos ⟨trivial, trivial, trivial, hl, hlc, hlen, by
      rw [List.map_map]
      exact diffB_of _ hn⟩]
  · rw [List.length_map, List.length_append, e3, hpm]; omega
  · rw [List.length_map, hpm, List.take_left' e3]
  · rw [List.all_append, Bool.and_eq_true]
    refine ⟨?_, ?_⟩
    · rw [flat_cells]
      simp [D.plain]
    · rw [List.all_eq_true] at hpl ⊢
      exact fun x hx => hpl x (List.mem_of_mem_drop hx)
end Go.Lea
/-
  The times, by nodes.
-/
namespace Go.Lea
open Go.Ev
theorem pass_ge {e : Eg} {t sz : Int} (h : passC e t sz) : t ≤ thereE e t sz := by
  have h1 := le_mx (a := t) (b := e.op)
  have h2 := takes_in e sz
  have h3 := h.1.2.2.2.1.2.2
  unfold thereE
  omega
theorem pass_to {e : Eg} {t sz : Int} (h : passC e t sz) : 1 ≤ e.to ∧ e.to ≤ 255 := h.1.2.2.1.2.1
theorem pass_top {e : Eg} {t sz : Int} (h : passC e t sz) : thereE e t sz ≤ 4294967294 := by
  have h2 := takes_in e sz
  have h3 := h.1.2.2.2.1.2.2
  have h4 := h.1.2.2.2.1.2.1
  have h5 := h.2.2
  have h6 := le_mx (a := takesE e sz) (b := 1)
  unfold thereE
  omega
theorem ceilI_mono {a a' b : Int} (ha : 0 ≤ a') (h : a' ≤ a) (hb : 1 ≤ b) : ceilI a' b ≤ ceilI a b := by
  have h0 : 0 ≤ a := by omega
  unfold ceilI
  rw [Int.tdiv_eq_ediv_of_nonneg ha, Int.tmod_eq_emod_of_nonneg ha, Int.tdiv_eq_ediv_of_nonneg h0, Int.tmod_eq_emod_of_nonneg h0]
  have d1 := Int.ediv_le_ediv (c := b) (by omega) h
  have m1 := Int.emod_nonneg a' (show b ≠ 0 by omega)
  have m2 := Int.emod_nonneg a (show b ≠ 0 by omega)
  have e1 := Int.mul_ediv_add_emod a' b
  have e2 := Int.mul_ediv_add_emod a b
  by_cases hd : a' / b = a / b
  · rw [hd] at e1 ⊢
    split <;> split <;> omega
  · split <;> split <;> omega
theorem pass_mono {e : Eg} {t t' sz sz' : Int} (h : passC e t sz) (ht : 0 ≤ t') (htt : t' ≤ t) (hs : 0 ≤ sz') (hss : sz' ≤ sz) : passC e t' sz' ∧ thereE e t' sz' ≤ thereE e t sz := by
  obtain ⟨⟨h1, h2, h3⟩, h4, h5⟩ := h
  have hr : rightE e t' sz' := ⟨by omega, by omega, h3⟩
  have hm : mx t' e.op ≤ mx t e.op := by
    have := le_mx (a := t) (b := e.op)
    exact mx_le.mpr ⟨by omega, by omega⟩
  have hk : takesE e sz' ≤ takesE e sz := by
    unfold takesE
    rw [if_pos ⟨by omega, by omega, h3⟩, if_pos ⟨by omega, h2, h3⟩]
    exact ceilI_mono hs hss h3.2.2.2.1.1
  have hm1 : mx (takesE e sz') 1 ≤ mx (takesE e sz) 1 := by
    have := le_mx (a := takesE e sz) (b := 1)
    exact mx_le.mpr ⟨by omega, by omega⟩
  refine ⟨⟨hr, by omega, by omega⟩, ?_⟩
  unfold thereE
  omega
theorem psz_some {sz : Int} {e : Eg} {t u : Int} : psz sz e t = some u ↔ passC e t sz ∧ u = thereE e t sz := by
  unfold psz
  by_cases h : passC e t sz
  · rw [if_pos h]; simp [h, eq_comm]
  · rw [if_neg h]; simp [h]
theorem psz_ge {sz : Int} : ∀ e t u, psz sz e t = some u → t ≤ u := fun e t u h => by
  obtain ⟨h1, rfl⟩ := psz_some.mp h
  exact pass_ge h1
theorem reach_ge {sz : Int} {cl : Int → Bool} {l : List Eg} {fr now n t : Int} (h : Reach (psz sz) cl l fr now n t) : now ≤ t := by
  induction h with
  | here => exact Int.le_refl _
  | go _ _ _ hp _ ih => exact Int.le_trans ih (psz_ge _ _ _ hp)
theorem psz_mo {sz : Int} {cl : Int → Bool} {l : List Eg} {fr now : Int} (hn : 0 ≤ now) (hs : 0 ≤ sz) : ∀ e t t' u, psz sz e t = some u → t' ≤ t → (∃ a b, Reach (psz sz) cl l fr now a b ∧ b = t') → ∃ u', u' ≤ u ∧ psz sz e t' = some u' := by
  rintro e t t' u h ht ⟨a, b, hr, rfl⟩
  obtain ⟨h1, rfl⟩ := psz_some.mp h
  have := reach_ge hr
  obtain ⟨h2, h3⟩ := pass_mono h1 (by omega) ht hs (Int.le_refl _)
  exact ⟨_, h3, psz_some.mpr ⟨h2, rfl⟩⟩
def clS (shut : List Int) (n : Int) : Bool := decide (n ∈ shut)
def timesM (l : List Eg) (fr now sz : Int) (shut : List Int) : List Rd := if AskC l fr now sz then srtK Rd.node (dij (psz sz) (clS shut) l (l.length + 1) [] [⟨fr, now⟩]) else []
theorem meas_start (l : List Eg) (r : Rd) : meas l [] [r] ≤ l.length + 1 := by
  have := List.length_filter_le (fun e : Eg => !vis [] e.fr) l
  unfold meas
  simp
  omega
theorem dij_ask {l : List Eg} {fr now sz : Int} (ha : AskC l fr now sz) (shut : List Int) : IsT (psz sz) (clS shut) l fr now (dij (psz sz) (clS shut) l (l.length + 1) [] [⟨fr, now⟩]) :=
  dij_isT psz_ge (psz_mo ha.2.2.1.1 ha.2.1.1) _ _ _ (meas_start l _) .start
theorem dij_len (ps : Eg → Int → Option Int) (cl : Int → Bool) (l : List Eg) : ∀ (n : Nat) (out s : List Rd), (dij ps cl l n out s).length ≤ out.length + n
  | 0, out, s => by rw [dij]; omega
  | n + 1, out, [] => by rw [dij]; omega
  | n + 1, out, r :: s => by
    rw [dij]
    split
    · have := dij_len ps cl l n out s; omega
    · have := dij_len ps cl l n (out ++ [r]) (pushes ps cl (out ++ [r]) r.at' (fromE r.node l) s)
      simp at this
      omega
theorem times_len (l : List Eg) (fr now sz : Int) (shut : List Int) : (timesM l fr now sz shut).length ≤ l.length + 1 := by
  unfold timesM
  split
  · rw [(srtK_perm Rd.node _).length_eq]
    have := dij_len (psz sz) (clS shut) l (l.length + 1) [] [⟨fr, now⟩]
    simpa using this
  · simp
theorem l_cl (shut : List Int) (hsl : shut.length ≤ 1073741824) (t : Tok) (sz : Nat) (hs : sz = 1 ∨ shut = []) (v0 v1 v2 v3 v4 v10 : D) : ∀ (post pre : List Int), shut = pre ++ post → ∀ (kv : List (Int × D)), KVC kv (clS pre) → ∀ (ρ : Nat → D) (st : Store), st.lim ≤ 0 → st.boxes 0 = some (.map kv) →
    ρ 0 = v0 → ρ 1 = v1 → ρ 2 = v2 → ρ 3 = v3 → ρ 4 = v4 → ρ 10 = v10 → ρ 11 = .map 0 → ρ 34 = .slice t sz (shut.map (D.int .i64)) → ρ 35 = .int .i64 shut.length → ρ 36 = .int .i64 pre.length → ∀ (Q : X → (Nat → D) → Store → Prop),
    (∀ ρ' st' kv', KVC kv' (clS shut) → st'.lim ≤ 0 → st'.next = st.next → st'.boxes 0 = some (.map kv') → ρ' 0 = v0 → ρ' 1 = v1 → ρ' 2 = v2 → ρ' 3 = v3 → ρ' 4 = v4 → ρ' 10 = v10 → ρ' 11 = .map 0 → Q (.exit 0) ρ' st') → WC Γ (.loop c_early_Times_l0) ρ st Q := by
  intro post
  induction post with
  | nil =>
    intro pre hpp kv hk ρ st hlim hb h0 h1 h2 h3 h4 h10 h11 h34 h35 h36 Q hQ
    rw [List.append_nil] at hpp
    subst hpp
    rw [← upd_self h0, ← upd_self h1, ← upd_self h2, ← upd_self h3, ← upd_self h4, ← upd_self h10, ← upd_self h11, ← upd_self h34, ← upd_self h35, ← upd_self h36]
    refine WC_loop ?_
    repeat' (first
 | (refine I_WS ?_; first
 | (refine I_bin ?_; first
 | refine W_lssF rfl rfl rfl rfl (by omega) ?_)
 | refine WS_nil ?_)
 | refine WC_seq ?_
 | refine WC_opsS ?_
 | refine WC_condF rfl ?_
 | refine WC_exit ?_)
    exact hQ _ _ kv hk hlim rfl hb rfl rfl rfl rfl rfl rfl rfl
  | cons x post ih =>
    intro pre hpp kv hk ρ st hlim hb h0 h1 h2 h3 h4 h10 h11 h34 h35 h36 Q hQ
    have hv : shut[pre.length]? = some x := by rw [hpp]; simp
    have hlen : shut.length = pre.length + (post.length + 1) := by rw [hpp]; simp
    have hz : sz = 1 := hs.resolve_right (by rintro rfl; simp at hlen)
    subst hz
    have hpl : pre.length < (shut.map (D.int .i64)).length := by simp; omega
    have hltl : (pre.length : Int) < shut.length := by omega
    have hk2 : KVC (kvSet x (.bool true) kv) (clS (pre ++ [x])) := fun n => by
      rw [kvGet_set]
      by_cases e : n = x
      · rw [if_pos e]; simp [clS, e]
      · rw [if_neg e, hk n]; simp [clS, e]
    have hnext : ∀ (ρ' : Nat → D) (st' : Store), st'.lim ≤ 0 → st'.next = st.next → st'.boxes 0 = some (.map (kvSet x (.bool true) kv)) → ρ' 0 = v0 → ρ' 1 = v1 → ρ' 2 = v2 → ρ' 3 = v3 → ρ' 4 = v4 → ρ' 10 = v10 → ρ' 11 = .map 0 → ρ' 34 = .slice t 1 (shut.map (D.int .i64)) → ρ' 35 = .int .i64 shut.length → ρ' 36 = .int .i64 ((pre.length : Int) + 1) → WC Γ (.loop c_early_Times_l0) ρ' st' Q := fun ρ' st' e1 e2 e3 k0 k1 k2 k3 k4 k10 k11 k34 k35 k36 =>
      ih (pre ++ [x]) (by simp [hpp]) _ hk2 ρ' st' e1 e3 k0 k1 k2 k3 k4 k10 k11 k34 k35 (by rw [List.length_append]; exact k36) Q (fun ρ'' st'' kv' f0 f1 f2 => hQ ρ'' st'' kv' f0 f1 (f2.trans e2))
    clear ih hQ hpp
    rw [← upd_self h0, ← upd_self h1, ← upd_self h2, ← upd_self h3, ← upd_self h4, ← upd_self h10, ← upd_self h11, ← upd_self h34, ← upd_self h35, ← upd_self h36]
    refine WC_loop ?_
    repeat' (first
 | (refine I_WS ?_; first
 | refine W_iaddr (j := pre.length) rfl rfl rfl rfl rfl hpl ?_
 | refine W_mapset (v := .bool true) rfl rfl rfl hb hlim rfl rfl ?_
 | (refine I_mov ?_; first
 | refine W_mov (v := .int _ _) rfl rfl rfl ?_
 | refine W_mov (v := .map _) rfl rfl rfl ?_)
 | (refine I_bin ?_; first
 | refine W_lssT rfl rfl rfl rfl (by omega) ?_
 | refine W_add rfl rfl rfl rfl (by first | exact w64 (by omega) | rfl) ?_)
 | (refine I_load ?_; first
 | refine W_loadE (agg := false) (d := .int _ _) rfl rfl rfl hv rfl ?_)
 | refine WS_nil ?_)
 | refine WC_seq ?_
 | refine WC_opsS ?_
 | refine WC_skip ?_
 | refine WC_condT rfl ?_
 | refine WC_block ?_)
    refine hnext _ _ hlim rfl rfl ?_ ?_ ?_ ?_ ?_ ?_ ?_ ?_ ?_ ?_ <;> rfl
set_option maxHeartbeats 8000000 in
theorem s_Times (l : List Eg) (hll : l.length ≤ 1000) (fr now sz : Int) (shut : List Int) (hsl : shut.length ≤ 1073741824) (t t' : Tok) (s s' : Nat) (hs : s = 8 ∨ l = []) (hs' : s' = 1 ∨ shut = []) :
    EvX Γ 21 [.slice t s (l.map Eg.e), .int .i64 fr, .int .i64 now, .int .i64 sz, .slice t' s' (shut.map (D.int .i64))] (IsN Rd.e 2 (timesM l fr now sz shut)) := by
  refine EvX_code rfl rfl ?_
  have hA := fun t => s_asked l (by omega) fr now sz t s hs
  unfold timesM
  by_cases ha : AskC l fr now sz
  · rw [decide_eq_true ha] at hA
    rw [if_pos ha]
    have hT := dij_ask ha shut
    repeat' (first
 | (refine I_WS ?_; first
 | refine W_lenM rfl rfl rfl ?_
 | (refine I_mov ?_; first
 | refine W_mov (v := .int _ _) rfl rfl rfl ?_
 | refine W_mov (v := .slice _ _ _) rfl rfl rfl ?_
 | refine W_mov (v := .map _) rfl rfl rfl ?_)
 | (refine I_call ?_; first
 | refine W_call rfl rfl rfl (hA _) rfl rfl ?_)
 | refine W_not rfl rfl rfl ?_
 | refine W_mkmap rfl rfl ?_
 | refine WS_nil ?_)
 | refine WC_seq ?_
 | refine WC_opsS ?_
 | refine WC_skip ?_
 | refine WC_condF rfl ?_
 | refine WC_block ?_)
    refine l_cl shut hsl t' s' hs' (.slice t s (l.map Eg.e)) (.int .i64 fr) (.int .i64 now) (.int .i64 sz) (.slice t' s' (shut.map (D.int .i64))) (.slice .isnil 0 []) shut [] rfl [] (fun n => rfl) _ _ (Nat.le_refl _) ?_ ?_ ?_ ?_ ?_ ?_ ?_ ?_ ?_ ?_ ?_ _ (fun ρ' st' kv hk e1 e2 e3 h0 h1 h2 h3 h4 h10 h11 => ?_)
    all_goals first | rfl | skip
    obtain ⟨bx, nx1, tk, nt, lm, tl⟩ := st'
    have e2' : nx1 = 1 := e2
    subst e2'
    rw [← upd_self h0, ← upd_self h1, ← upd_self h2, ← upd_self h3, ← upd_self h4, ← upd_self h10, ← upd_self h11]
    have hlm : lm ≤ 0 := e1
    have hbx : bx 0 = some (.map kv) := e3
    have hNew := s_New [⟨fr, now⟩] (by simp) .exact 2 (.inl rfl) ⟨upd bx 1 (some (.map [])), 2, tk, nt, lm, tl⟩ (by show lm ≤ 2; omega)
    repeat' (first
 | (refine I_WS ?_; first
 | (refine I_mov ?_; first
 | refine W_mov (v := .int _ _) rfl rfl rfl ?_
 | refine W_mov (v := .map _) rfl rfl rfl ?_)
 | (refine I_call ?_; first
 | (refine W_callRWX0 rfl rfl hNew ?_ <;> intro r0 st2 hp0))
 | (refine I_build ?_; first
 | refine W_build (cs := [_, _]) rfl rfl rfl ?_)
 | refine W_bslice (ys := [_]) rfl rfl rfl (by decide) rfl ?_
 | refine W_mkmap rfl rfl ?_
 | refine WS_nil ?_)
 | refine WC_seq ?_
 | refine WC_opsS ?_)
    obtain ⟨h, o, rfl, q1, q2, H, N⟩ := hp0
    have N1 : st2.lim = lm := N.lim
    have q1' : 2 ≤ h := q1
    have hb0 : st2.boxes 0 = some (.map kv) := (N.box 0 (by show 0 < 2; omega)).trans hbx
    have hb1 : st2.boxes 1 = some (.map []) := N.box 1 (by show 1 < 2; omega)
    repeat' (first
 | (refine I_WS ?_; first
 | (refine I_mov ?_; first
 | refine W_mov (v := .ptr _ _) rfl rfl rfl ?_)
 | refine WS_nil ?_)
 | refine WC_seq ?_
 | refine WC_block ?_)
    refine l_out l hll t s hs sz (clS shut) kv hk (l.length + 1) [] [⟨fr, now⟩] (meas_start l _) (by simp; omega) [] (fun n => ⟨0, rfl, rfl⟩) _ st2 h o (.slice .isnil 0 []) (.slice t' s' (shut.map (D.int .i64))) (by rw [N1]; exact hlm) q1' q2 H hb0 hb1 (.inl ⟨rfl, rfl⟩) ?_ ?_ ?_ ?_ ?_ ?_ ?_ _ (fun ρ' st3 d' h' o' g1 g2 g3 => ?_)
    all_goals first | rfl | skip
    have hlen := dij_len (psz sz) (clS shut) l (l.length + 1) [] [⟨fr, now⟩]
    generalize dij (psz sz) (clS shut) l (l.length + 1) [] [⟨fr, now⟩] = es at *
    rcases g2 with ⟨rfl, rfl⟩ | ⟨q, n, c, _, _, _, rfl, hne, rfl, hR⟩
    · have hS : EvRW Γ 45 [.slice .isnil 0 [], .func 46 []] st3 (.tuple []) st3 := EvRW_primS (F := sortF 2 0 46) rfl rfl
      rw [← upd_self g3]
      repeat' (first
 | (refine I_WS ?_; first
 | (refine WS_callRW rfl rfl rfl hS ?_)
 | (refine I_mov ?_; first
 | refine W_mov (v := .slice _ _ _) rfl rfl rfl ?_)
 | refine WS_nil ?_)
 | refine WC_seq ?_
 | refine WC_opsS ?_
 | refine WC_ret ?_)
      exact finX_N (t := .isnil) (s := 0) rfl (.inr rfl) ⟨.inr rfl, rfl⟩
    · obtain ⟨st4, hS, hR2⟩ := s_sort es hT.t2 (by simp at hlen; omega) st3 q c hR
      rw [← upd_self g3]
      repeat' (first
 | (refine I_WS ?_; first
 | (refine WS_callRW rfl rfl rfl hS ?_)
 | (refine I_mov ?_; first
 | refine W_mov (v := .rs _ _ _ _ _) rfl rfl rfl ?_)
 | refine WS_nil ?_)
 | refine WC_seq ?_
 | refine WC_opsS ?_
 | refine WC_ret ?_)
      exact finX_N (t := .row) (s := 2) rfl (.inl rfl) (fin_row (.inr rfl) rfl (by rw [List.length_map, (srtK_perm Rd.node es).length_eq]) (by decide) hR2 (fun d hd => by
        obtain ⟨e, _, rfl⟩ := List.mem_map.mp hd
        exact ⟨rfl, rfl⟩))
  · rw [decide_eq_false ha] at hA
    rw [if_neg ha]
    repeat' (first
 | (refine I_WS ?_; first
 | (refine I_mov ?_; first
 | refine W_mov (v := .int _ _) rfl rfl rfl ?_
 | refine W_mov (v := .slice _ _ _) rfl rfl rfl ?_)
 | (refine I_call ?_; first
 | refine W_call rfl rfl rfl (hA _) rfl rfl ?_)
 | refine W_not rfl rfl rfl ?_
 | refine WS_nil ?_)
 | refine WC_seq ?_
 | refine WC_opsS ?_
 | refine WC_condT rfl ?_
 | refine WC_ret ?_)
    exact finX_N (t := .isnil) (s := 0) rfl (.inr rfl) ⟨.inr rfl, rfl⟩
end Go.Lea
/-
  Plain laws of the earliest times.
-/
namespace Go.Lea
theorem nd_le {α : Type} [DecidableEq α] : ∀ {l m : List α}, l.Nodup → (∀ x ∈ l, x ∈ m) → l.length ≤ m.length
  | [], m, _, _ => Nat.zero_le _
  | x :: l, m, hn, hs => by
    have hn' := List.nodup_cons.mp hn
    have hx := hs x List.mem_cons_self
    have ih := nd_le (l := l) (m := m.erase x) hn'.2 (fun y hy => (List.mem_erase_of_ne (fun e : y = x => hn'.1 (by rw [← e]; exact hy))).mpr (hs y (List.mem_cons_of_mem _ hy)))
    rw [List.length_erase_of_mem hx] at ih
    have := List.length_pos_of_mem hx
    rw [List.length_cons]
    omega
theorem atN_some {n u : Int} : ∀ {L : List Rd}, atN n L = some u → ⟨n, u⟩ ∈ L
  | [], h => by cases h
  | r :: L, h => by
    rw [atN] at h
    split at h
    · rename_i e
      cases h
      obtain ⟨a, b⟩ := r
      cases e
      exact List.mem_cons_self
    · exact List.mem_cons_of_mem _ (atN_some h)
theorem atN_of {L : List Rd} (hn : (L.map Rd.node).Nodup) {r : Rd} (hr : r ∈ L) : atN r.node L = some r.at' := by
  induction L with
  | nil => cases hr
  | cons x L ih =>
    have hn' := List.nodup_cons.mp hn
    rw [atN]
    rcases List.mem_cons.mp hr with rfl | hr
    · rw [if_pos rfl]
    · rw [if_neg (fun e : x.node = r.node => hn'.1 (by rw [e]; exact List.mem_map.mpr ⟨r, hr, rfl⟩))]
      exact ih hn'.2 hr
section
variable {ps : Eg → Int → Option Int} {cl : Int → Bool} {l : List Eg} {fr now : Int}
theorem IsT.perm {es es' : List Rd} (h : IsT ps cl l fr now es) (hp : es'.Perm es) : IsT ps cl l fr now es' :=
  ⟨fun x hx => h.t1 x (hp.mem_iff.mp hx), (hp.map Rd.node).nodup_iff.mpr h.t2, fun n t hr => by
    obtain ⟨y, hy, h1⟩ := h.t3 n t hr
    exact ⟨y, hp.mem_iff.mpr hy, h1⟩⟩
theorem IsT.at_ {es : List Rd} (h : IsT ps cl l fr now es) {n t : Int} (hr : Reach ps cl l fr now n t) : ∃ u, atN n es = some u ∧ u ≤ t := by
  obtain ⟨y, hy, rfl, h2⟩ := h.t3 n t hr
  exact ⟨y.at', atN_of h.t2 hy, h2⟩
theorem reach_trans {n t m u : Int} (h : Reach ps cl l fr now n t) (h' : Reach ps cl l n t m u) : Reach ps cl l fr now m u := by
  induction h' with
  | here => exact h
  | go _ he hf hp hc ih => exact .go ih he hf hp hc
theorem reach_cl {n t : Int} (h : Reach ps cl l fr now n t) : n = fr ∨ cl n = false := by
  cases h with
  | here => exact .inl rfl
  | go _ _ _ _ hc => exact .inr hc
end
theorem reach_node {sz : Int} {cl : Int → Bool} {l : List Eg} {fr now n t : Int} (hf : 1 ≤ fr ∧ fr ≤ 255) (h : Reach (psz sz) cl l fr now n t) : 1 ≤ n ∧ n ≤ 255 := by
  cases h with
  | here => exact hf
  | go _ _ _ hp _ => exact pass_to (psz_some.mp hp).1
theorem reach_top {sz : Int} {cl : Int → Bool} {l : List Eg} {fr now n t : Int} (hf : now ≤ 1099511627776) (h : Reach (psz sz) cl l fr now n t) : t ≤ 1099511627776 := by
  cases h with
  | here => exact hf
  | go _ _ _ hp _ =>
    obtain ⟨h1, rfl⟩ := psz_some.mp hp
    have := pass_top h1
    omega
theorem times_isT {l : List Eg} {fr now sz : Int} (ha : AskC l fr now sz) (shut : List Int) : IsT (psz sz) (clS shut) l fr now (timesM l fr now sz shut) := by
  unfold timesM
  rw [if_pos ha]
  exact (dij_ask ha shut).perm (srtK_perm Rd.node _)
theorem times_no {l : List Eg} {fr now sz : Int} (ha : ¬ AskC l fr now sz) (shut : List Int) : timesM l fr now sz shut = [] := by
  unfold timesM
  rw [if_neg ha]
theorem times_mem {l : List Eg} {fr now sz : Int} {shut : List Int} {r : Rd} (hr : r ∈ timesM l fr now sz shut) : AskC l fr now sz := by
  by_cases ha : AskC l fr now sz
  · exact ha
  · rw [times_no ha] at hr
    cases hr
theorem pw_lt : ∀ {L : List Rd}, (L.Pairwise fun a b => a.node ≤ b.node) → (L.map Rd.node).Nodup → L.Pairwise fun a b => a.node < b.node
  | [], _, _ => List.Pairwise.nil
  | x :: L, h, hn => by
    have h' := List.pairwise_cons.mp h
    have hn' := List.nodup_cons.mp hn
    refine List.pairwise_cons.mpr ⟨fun y hy => ?_, pw_lt h'.2 hn'.2⟩
    have h1 := h'.1 y hy
    have h2 : x.node ≠ y.node := fun e => hn'.1 (by rw [e]; exact List.mem_map.mpr ⟨y, hy, rfl⟩)
    omega
end Go.Lea
