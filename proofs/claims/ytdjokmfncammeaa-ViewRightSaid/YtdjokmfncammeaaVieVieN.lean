/-
  plan.Right, few, rounding up, the nearest number.
-/
import Derived.Test.YtdjokmfncammeaaVieVieJ
import Derived.Test.YtdjokmfncammeaaVieVieD
import Derived.Test.YtdjokmfncammeaaVieVieS
set_option linter.unusedVariables false
set_option linter.unusedSimpArgs false
set_option linter.unnecessarySimpa false

namespace Go.Vie
open Go.Ev
set_option linter.unusedVariables false
set_option linter.unusedSimpArgs false
/-- A plan. -/
structure Pl where
  cs : List Ct
  rs : List Rg
  ck : Int
  ver : Int
def Pl.e (p : Pl) : D := .agg [.slice .no 6 (p.cs.map Ct.e), .slice .no 5 (p.rs.map Rg.e), .int .i64 p.ck, .int .i64 p.ver]
/-- Small enough to count, of machine numbers. -/
structure Pl.Sm (p : Pl) : Prop where
  hc : p.cs.length ≤ 1073741824
  hr : p.rs.length ≤ 1073741824
  ic : ∀ c ∈ p.cs, In64 c.en
  ir : ∀ r ∈ p.rs, In64 r.en
theorem s_Few (p : Pl) : EvP Γ 9 [p.e] (.bool (decide (p.cs.length ≤ 50 ∧ p.rs.length ≤ 50))) := by
  refine EvP_code rfl rfl ?_
  repeat' (first
 | (refine I_WS ?_; first
 | refine W_lenM rfl rfl rfl ?_
 | (refine I_mov ?_; first
 | refine W_skip rfl ?_
 | refine W_mov (v := .int _ _) rfl rfl rfl ?_
 | refine W_mov (v := .bool _) rfl rfl rfl ?_
 | refine W_mov (v := .slice _ _ _) rfl rfl rfl ?_
 | refine W_mov (v := .agg _) rfl rfl rfl ?_
 | refine W_mov (v := .ptr _ _) rfl rfl rfl ?_
 | refine W_mov (v := .func _ _) rfl rfl rfl ?_
 | refine W_mov (v := .eptr _ _ _ _) rfl rfl rfl ?_
 | refine W_mov (v := .rs _ _ _ _ _) rfl rfl rfl ?_
 | refine W_mov (v := .tuple _) rfl rfl rfl ?_
 | refine W_mov (v := .map _) rfl rfl rfl ?_
 | refine W_mov (v := .str _) rfl rfl rfl ?_
 | refine W_mov (v := .nilptr) rfl rfl rfl ?_)
 | (refine I_bin ?_; first
 | refine W_skip rfl ?_
 | refine W_leqT rfl rfl rfl rfl (by omega) ?_
 | refine W_leqF rfl rfl rfl rfl (by omega) ?_
 | (refine W_leq rfl rfl rfl rfl ?_ ?_ <;> intro _))
 | (refine I_load ?_; first
 | refine W_skip rfl ?_
 | refine W_load (agg := false) (d := .int _ _) rfl rfl rfl rfl (by first | exact Nat.zero_le _ | omega) rfl ?_
 | refine W_load (agg := false) (d := .bool _) rfl rfl rfl rfl (by first | exact Nat.zero_le _ | omega) rfl ?_
 | refine W_load (agg := false) (d := .slice _ _ _) rfl rfl rfl rfl (by first | exact Nat.zero_le _ | omega) rfl ?_
 | refine W_load (agg := false) (d := .ptr _ _) rfl rfl rfl rfl (by first | exact Nat.zero_le _ | omega) rfl ?_
 | refine W_load (agg := false) (d := .func _ _) rfl rfl rfl rfl (by first | exact Nat.zero_le _ | omega) rfl ?_
 | refine W_load (agg := true) (d := .agg [_, _, _, _]) rfl rfl rfl rfl (by first | exact Nat.zero_le _ | omega) rfl ?_)
 | (refine I_pick ?_; first
 | refine W_pick (v := .int _ _) rfl rfl rfl rfl ?_
 | refine W_pick (v := .bool _) rfl rfl rfl rfl ?_
 | refine W_pick (v := .slice _ _ _) rfl rfl rfl rfl ?_
 | refine W_pick (v := .agg _) rfl rfl rfl rfl ?_
 | refine W_skip rfl ?_)
 | (refine I_box ?_; first
 | refine W_boxA rfl rfl rfl rfl rfl ?_
 | refine W_box1 (v := .slice _ _ _) rfl rfl rfl rfl rfl ?_
 | refine W_box1 (v := .int _ _) rfl rfl rfl rfl rfl ?_
 | refine W_box1 (v := .bool _) rfl rfl rfl rfl rfl ?_
 | refine W_box1 (v := .ptr _ _) rfl rfl rfl rfl rfl ?_
 | refine W_skip rfl ?_)
 | refine W_lenS0 rfl rfl rfl ?_
 | refine W_lenM rfl rfl rfl ?_
 | refine W_lenS rfl rfl rfl ?_
 | refine W_lenR rfl rfl rfl ?_
 | refine W_faddr rfl rfl rfl ?_
 | refine W_faddrE rfl rfl rfl ?_
 | refine W_faddrM rfl rfl ?_
 | refine W_skip rfl ?_
 | refine WS_nil ?_)
 | refine WC_seq ?_
 | refine WC_opsS ?_
 | refine WC_skip ?_
 | refine WC_ret ?_)
  all_goals (refine fin_bool (by simp) rfl ?_; first | (simp_all; done) | (simp_all; omega) | (simp only [eq_comm (a := true), eq_comm (a := false), decide_eq_true_eq, decide_eq_false_iff_not] at *; omega) | grind)
theorem s_pRight (p : Pl) (h : p.Sm) : EvX Γ 24 [p.e] (fun r => ∃ b, r = .bool b ∧ (b = true → Good p.cs)) := by
  obtain ⟨_, ⟨b1, rfl, hb1⟩, hC⟩ := s_cRight p.cs h.hc h.ic .no 6 (.inl rfl)
  obtain ⟨_, ⟨b2, rfl⟩, hR⟩ := s_rRight p.rs h.hr h.ir .no 5 (.inl rfl)
  have hA := fun (st : Store) (h0 : (st.boxes 0).bind Box.cs = some p.e.cells) (hn : 0 < st.next) => s_cCont (fun c => decide (c.en ≤ p.ck)) 47 0 p.cs h.hc .no 6 (.inl rfl) st (fun st' hb hn' c hc => s_old1 c 0 _ _ _ p.ck st' (by rw [hb]; exact h0) (Nat.lt_of_lt_of_le hn hn'))
  have hB := fun (st : Store) (h0 : (st.boxes 0).bind Box.cs = some p.e.cells) (hn : 0 < st.next) => s_rCont (fun c => decide (c.en ≤ p.ck)) 48 0 p.rs h.hr .no 5 (.inl rfl) st (fun st' hb hn' c hc => s_old2 c 0 _ _ _ p.ck st' (by rw [hb]; exact h0) (Nat.lt_of_lt_of_le hn hn'))
  generalize decide (0 ≤ idx (fun c : Ct => decide (c.en ≤ p.ck)) p.cs 0) = d1 at hA
  generalize decide (0 ≤ idx (fun c : Rg => decide (c.en ≤ p.ck)) p.rs 0) = d2 at hB
  refine EvX_code rfl rfl ?_
  repeat' (first
 | (refine I_WS ?_; first
 | (refine I_mov ?_; first
 | refine W_skip rfl ?_
 | refine W_mov (v := .int _ _) rfl rfl rfl ?_
 | refine W_mov (v := .bool _) rfl rfl rfl ?_
 | refine W_mov (v := .slice _ _ _) rfl rfl rfl ?_
 | refine W_mov (v := .agg _) rfl rfl rfl ?_
 | refine W_mov (v := .ptr _ _) rfl rfl rfl ?_
 | refine W_mov (v := .func _ _) rfl rfl rfl ?_
 | refine W_mov (v := .eptr _ _ _ _) rfl rfl rfl ?_
 | refine W_mov (v := .rs _ _ _ _ _) rfl rfl rfl ?_
 | refine W_mov (v := .tuple _) rfl rfl rfl ?_
 | refine W_mov (v := .map _) rfl rfl rfl ?_
 | refine W_mov (v := .str _) rfl rfl rfl ?_
 | refine W_mov (v := .nilptr) rfl rfl rfl ?_)
 | (refine I_bin ?_; first
 | refine W_skip rfl ?_
 | refine W_lssT rfl rfl rfl rfl (by omega) ?_
 | refine W_lssF rfl rfl rfl rfl (by omega) ?_
 | (refine W_lss rfl rfl rfl rfl ?_ ?_ <;> intro _)
 | refine W_gtrT rfl rfl rfl rfl (by omega) ?_
 | refine W_gtrF rfl rfl rfl rfl (by omega) ?_
 | (refine W_gtr rfl rfl rfl rfl ?_ ?_ <;> intro _))
 | (refine I_load ?_; first
 | refine W_skip rfl ?_
 | refine W_load (agg := false) (d := .int _ _) rfl rfl rfl rfl (by first | exact Nat.zero_le _ | omega) rfl ?_
 | refine W_load (agg := false) (d := .bool _) rfl rfl rfl rfl (by first | exact Nat.zero_le _ | omega) rfl ?_
 | refine W_load (agg := false) (d := .slice _ _ _) rfl rfl rfl rfl (by first | exact Nat.zero_le _ | omega) rfl ?_
 | refine W_load (agg := false) (d := .ptr _ _) rfl rfl rfl rfl (by first | exact Nat.zero_le _ | omega) rfl ?_
 | refine W_load (agg := false) (d := .func _ _) rfl rfl rfl rfl (by first | exact Nat.zero_le _ | omega) rfl ?_
 | refine W_load (agg := true) (d := .agg [_, _, _, _]) rfl rfl rfl rfl (by first | exact Nat.zero_le _ | omega) rfl ?_)
 | (refine I_call ?_; first
 | refine W_skip rfl ?_
 | (refine W_callROB rfl rfl (nf2 rfl) (hA _ rfl (Nat.succ_pos _)) rfl ?_ ?_ <;> intro _)
 | (refine W_callROB rfl rfl (nf2 rfl) (hB _ rfl (Nat.succ_pos _)) rfl ?_ ?_ <;> intro _)
 | (refine W_callB rfl rfl rfl hC rfl ?_ ?_ <;> intro _)
 | (refine W_callB rfl rfl rfl hR rfl ?_ ?_ <;> intro _))
 | (refine I_pick ?_; first
 | refine W_pick (v := .int _ _) rfl rfl rfl rfl ?_
 | refine W_pick (v := .bool _) rfl rfl rfl rfl ?_
 | refine W_pick (v := .slice _ _ _) rfl rfl rfl rfl ?_
 | refine W_pick (v := .agg _) rfl rfl rfl rfl ?_
 | refine W_skip rfl ?_)
 | (refine I_box ?_; first
 | refine W_boxA rfl rfl rfl rfl rfl ?_
 | refine W_box1 (v := .slice _ _ _) rfl rfl rfl rfl rfl ?_
 | refine W_box1 (v := .int _ _) rfl rfl rfl rfl rfl ?_
 | refine W_box1 (v := .bool _) rfl rfl rfl rfl rfl ?_
 | refine W_box1 (v := .ptr _ _) rfl rfl rfl rfl rfl ?_
 | refine W_skip rfl ?_)
 | refine W_not rfl rfl rfl ?_
 | refine W_faddr rfl rfl rfl ?_
 | refine W_faddrE rfl rfl rfl ?_
 | refine W_faddrM rfl rfl ?_
 | refine W_mkfunc (cs := [.ptr _ _]) rfl rfl rfl ?_
 | refine W_mkfunc rfl rfl rfl ?_
 | refine W_skip rfl ?_
 | refine WS_nil ?_)
 | refine WC_seq ?_
 | refine WC_opsS ?_
 | refine WC_skip ?_
 | refine WC_condT rfl ?_
 | refine WC_condF rfl ?_
 | refine WC_ret ?_)
  all_goals first
    | exact ⟨.inr rfl, _, rfl, false, rfl, fun h => by cases h⟩
    | exact ⟨.inr rfl, _, rfl, _, rfl, fun _ => hb1 (by assumption)⟩
/-- The quotient, rounded up. -/
def ceilI (a b : Int) : Int := a.tdiv b + (if 1 < a.tmod b then 1 else a.tmod b)
theorem ceilI_in {a b : Int} (ha : 0 ≤ a) (hb : 1 ≤ b) : 0 ≤ ceilI a b ∧ ceilI a b ≤ a + 1 := by
  unfold ceilI
  rw [Int.tdiv_eq_ediv_of_nonneg ha, Int.tmod_eq_emod_of_nonneg ha]
  have h1 := Int.ediv_nonneg ha (show 0 ≤ b by omega)
  have h2 := Int.emod_nonneg a (show b ≠ 0 by omega)
  have h3 : a / b ≤ a := Int.ediv_le_self _ ha
  split <;> omega
theorem ceilI_zero {b : Int} : ceilI 0 b = 0 := by unfold ceilI; simp
theorem s_Ceil (a b : Int) (ha : 0 ≤ a) (ha2 : a ≤ 4611686018427387904) (hb : 1 ≤ b) : EvP Γ 34 [.int .i64 a, .int .i64 b] (.tuple [.int .i64 (ceilI a b), .bool true]) := by
  refine EvP_code rfl rfl ?_
  have hc := ceilI_in ha hb
  unfold ceilI at hc ⊢
  have h1 : 0 ≤ a.tdiv b ∧ a.tdiv b ≤ a := by
    rw [Int.tdiv_eq_ediv_of_nonneg ha]
    exact ⟨Int.ediv_nonneg ha (by omega), Int.ediv_le_self _ ha⟩
  have h2 : 0 ≤ a.tmod b := by
    rw [Int.tmod_eq_emod_of_nonneg ha]
    exact Int.emod_nonneg a (by omega)
  generalize hq : a.tdiv b = q at *
  generalize hr : a.tmod b = r at *
  have hb0 : b ≠ 0 := by omega
  have hq' : IntKind.wrap .i64 (a.tdiv b) = q := by rw [hq]; exact w64 (by omega)
  have hsum : IntKind.wrap .i64 (q + if 1 < r then 1 else r) = q + if 1 < r then 1 else r := w64 (by omega)
  repeat' (first
 | (refine I_WS ?_; first
 | refine W_quo (s := q) rfl rfl rfl rfl hb0 hq' ?_
 | refine W_rem (s := r) rfl rfl rfl rfl hb0 hr ?_
 | refine W_add rfl rfl rfl rfl hsum ?_
 | (refine I_mov ?_; first
 | refine W_skip rfl ?_
 | refine W_mov (v := .int _ _) rfl rfl rfl ?_
 | refine W_mov (v := .bool _) rfl rfl rfl ?_
 | refine W_mov (v := .slice _ _ _) rfl rfl rfl ?_
 | refine W_mov (v := .agg _) rfl rfl rfl ?_
 | refine W_mov (v := .ptr _ _) rfl rfl rfl ?_
 | refine W_mov (v := .func _ _) rfl rfl rfl ?_
 | refine W_mov (v := .eptr _ _ _ _) rfl rfl rfl ?_
 | refine W_mov (v := .rs _ _ _ _ _) rfl rfl rfl ?_
 | refine W_mov (v := .tuple _) rfl rfl rfl ?_
 | refine W_mov (v := .map _) rfl rfl rfl ?_
 | refine W_mov (v := .str _) rfl rfl rfl ?_
 | refine W_mov (v := .nilptr) rfl rfl rfl ?_)
 | (refine I_bin ?_; first
 | refine W_skip rfl ?_
 | refine W_lssT rfl rfl rfl rfl (by omega) ?_
 | refine W_lssF rfl rfl rfl rfl (by omega) ?_
 | (refine W_lss rfl rfl rfl rfl ?_ ?_ <;> intro _)
 | refine W_add rfl rfl rfl rfl (by first | exact w64 (by omega) | rfl) ?_
 | refine W_quo rfl rfl rfl rfl (by omega) rfl ?_
 | refine W_rem rfl rfl rfl rfl (by omega) rfl ?_)
 | (refine I_pick ?_; first
 | refine W_pick (v := .int _ _) rfl rfl rfl rfl ?_
 | refine W_pick (v := .bool _) rfl rfl rfl rfl ?_
 | refine W_pick (v := .slice _ _ _) rfl rfl rfl rfl ?_
 | refine W_pick (v := .agg _) rfl rfl rfl rfl ?_
 | refine W_skip rfl ?_)
 | refine W_min2 rfl rfl rfl rfl ?_
 | refine W_skip rfl ?_
 | refine WS_nil ?_)
 | refine WC_seq ?_
 | refine WC_opsS ?_
 | refine WC_drawS ?_
 | refine WC_skip ?_
 | refine WC_condT rfl ?_
 | refine WC_condF rfl ?_
 | refine WC_ret ?_
 | refine okF_intro rfl ?_)
  exact fin_ground (r' := .tuple [.int _ _, .bool _]) (.inr rfl) rfl rfl rfl
def clampI (n lo hi : Int) : Int := if n < lo then lo else if hi < n then hi else n
theorem s_Clamp (n lo hi : Int) : EvP Γ 36 [.int .i64 n, .int .i64 lo, .int .i64 hi] (.int .i64 (clampI n lo hi)) := by
  refine EvP_code rfl rfl ?_
  unfold clampI
  repeat' (first
 | (refine I_WS ?_; first
 | (refine I_mov ?_; first
 | refine W_skip rfl ?_
 | refine W_mov (v := .int _ _) rfl rfl rfl ?_
 | refine W_mov (v := .bool _) rfl rfl rfl ?_
 | refine W_mov (v := .slice _ _ _) rfl rfl rfl ?_
 | refine W_mov (v := .agg _) rfl rfl rfl ?_
 | refine W_mov (v := .ptr _ _) rfl rfl rfl ?_
 | refine W_mov (v := .func _ _) rfl rfl rfl ?_
 | refine W_mov (v := .eptr _ _ _ _) rfl rfl rfl ?_
 | refine W_mov (v := .rs _ _ _ _ _) rfl rfl rfl ?_
 | refine W_mov (v := .tuple _) rfl rfl rfl ?_
 | refine W_mov (v := .map _) rfl rfl rfl ?_
 | refine W_mov (v := .str _) rfl rfl rfl ?_
 | refine W_mov (v := .nilptr) rfl rfl rfl ?_)
 | (refine I_bin ?_; first
 | refine W_skip rfl ?_
 | refine W_lssT rfl rfl rfl rfl (by omega) ?_
 | refine W_lssF rfl rfl rfl rfl (by omega) ?_
 | (refine W_lss rfl rfl rfl rfl ?_ ?_ <;> intro _)
 | refine W_gtrT rfl rfl rfl rfl (by omega) ?_
 | refine W_gtrF rfl rfl rfl rfl (by omega) ?_
 | (refine W_gtr rfl rfl rfl rfl ?_ ?_ <;> intro _))
 | refine W_skip rfl ?_
 | refine WS_nil ?_)
 | refine WC_seq ?_
 | refine WC_opsS ?_
 | refine WC_skip ?_
 | refine WC_condT rfl ?_
 | refine WC_condF rfl ?_
 | refine WC_block ?_
 | refine WC_exit ?_
 | refine WC_ret ?_)
  all_goals exact fin_int (.inr rfl) rfl (by simp [*])
end Go.Vie

/-
  Sorting edges by their IDs, as the known function does it, and as plain lists.
-/
namespace Go.Ev
theorem EvRW_primS {Γ : Nat → Option FD} {st st' : Store} {f : Nat} {F : List D → Store → Option (D × Store)} {ds : List D} {r : D} (hf : Γ f = some (.primS F)) (hF : F (ds.map D.strip) st = some (r, st')) : EvRW Γ f ds st r st' := by
  refine ⟨2, fun n hn => ?_⟩
  obtain ⟨n, rfl⟩ : ∃ m, n = m + 2 := ⟨n - 2, by omega⟩
  have hp : callP Γ (n + 1) f (ds.map D.strip) = none := by simp [callP, hf]
  refine ⟨?_, by simp [callRW, hf, hF]⟩
  simp only [callRO, hf, hp]
  split <;> rfl
end Go.Ev
namespace Go.Vie
open Go.Ev
set_option linter.unusedVariables false
set_option linter.unusedSimpArgs false
def insK {α : Type} (key : α → Int) (x : α) : List α → List α
  | [] => [x]
  | y :: s => if key y < key x then y :: insK key x s else x :: y :: s
def srtK {α : Type} (key : α → Int) : List α → List α
  | [] => []
  | x :: s => insK key x (srtK key s)
theorem insK_perm {α : Type} (key : α → Int) (x : α) : ∀ l : List α, (insK key x l).Perm (x :: l)
  | [] => List.Perm.refl _
  | y :: s => by
    simp only [insK]
    split
    · exact ((insK_perm key x s).cons y).trans (List.Perm.swap x y s)
    · exact List.Perm.refl _
theorem srtK_perm {α : Type} (key : α → Int) : ∀ l : List α, (srtK key l).Perm l
  | [] => List.Perm.refl _
  | x :: s => (insK_perm key x _).trans ((srtK_perm key s).cons x)
theorem insK_map {α β : Type} (key : β → Int) (f : α → β) (x : α) : ∀ l : List α, insK key (f x) (l.map f) = (insK (fun a => key (f a)) x l).map f
  | [] => rfl
  | y :: s => by
    simp only [List.map_cons, insK]
    split
    · rw [insK_map key f x s]; rfl
    · rfl
theorem srtK_map {α β : Type} (key : β → Int) (f : α → β) : ∀ l : List α, srtK key (l.map f) = (srtK (fun a => key (f a)) l).map f
  | [] => rfl
  | x :: s => by
    simp only [List.map_cons, srtK]
    rw [srtK_map key f s, insK_map]
theorem insI_eq (x : List Int) : ∀ l : List (List Int), insI 0 x l = insK (fun a => a.getD 0 0) x l
  | [] => rfl
  | y :: s => by simp only [insI, insK, insI_eq x s]
theorem sortI_eq : ∀ l : List (List Int), sortI 0 l = srtK (fun a => a.getD 0 0) l
  | [] => rfl
  | x :: s => by simp only [sortI, srtK, sortI_eq s, insI_eq]
theorem insK_sorted {α : Type} (key : α → Int) (x : α) : ∀ l : List α, (l.Pairwise fun a b => key a ≤ key b) → (insK key x l).Pairwise fun a b => key a ≤ key b
  | [], _ => by simp [insK]
  | y :: s, h => by
    have h' := List.pairwise_cons.mp h
    simp only [insK]
    split
    · rename_i hlt
      refine List.pairwise_cons.mpr ⟨fun z hz => ?_, insK_sorted key x s h'.2⟩
      rcases List.mem_cons.mp ((insK_perm key x s).mem_iff.mp hz) with rfl | hz
      · omega
      · exact h'.1 z hz
    · rename_i hlt
      refine List.pairwise_cons.mpr ⟨fun z hz => ?_, h⟩
      rcases List.mem_cons.mp hz with rfl | hz
      · omega
      · have := h'.1 z hz
        omega
theorem srtK_sorted {α : Type} (key : α → Int) : ∀ l : List α, (srtK key l).Pairwise fun a b => key a ≤ key b
  | [] => List.Pairwise.nil
  | x :: s => insK_sorted key x _ (srtK_sorted key s)
def Eg.row (e : Eg) : List Int := [e.id, e.fr, e.to, e.op, e.en, e.ra, e.ow, e.ro]
theorem eg_cells (e : Eg) : e.e.cells = e.row.map (D.int .i64) := rfl
theorem flat_cells (es : List Eg) : (es.map Eg.e).flatMap D.cells = (es.flatMap Eg.row).map (D.int .i64) := by
  induction es with
  | nil => rfl
  | cons e es ih => rw [List.map_cons, List.flatMap_cons, ih, List.flatMap_cons, List.map_append]; rfl
theorem intsOf_map : ∀ l : List Int, intsOf (l.map (D.int .i64)) = some l
  | [] => rfl
  | x :: l => by simp only [List.map_cons, intsOf, intsOf_map l]
theorem rowsI_flat : ∀ es : List Eg, rowsI 8 es.length (es.flatMap Eg.row) = es.map Eg.row
  | [] => rfl
  | e :: es => by
    rw [List.flatMap_cons, List.length_cons, List.map_cons]
    simp only [rowsI]
    rw [List.take_left' (show e.row.length = 8 from rfl), List.drop_left' (show e.row.length = 8 from rfl), rowsI_flat es]
theorem diffB_of : ∀ l : List Int, l.Nodup → diffB l = true
  | [], _ => rfl
  | x :: l, h => by
    have h' := List.nodup_cons.mp h
    simp only [diffB, diffB_of l h'.2, Bool.and_true, Bool.not_eq_true']
    simpa using h'.1
theorem el8 {es : List Eg} : ∀ d ∈ es.map Eg.e, d.cells.length = 8 := fun d hd => by
  obtain ⟨e, _, rfl⟩ := List.mem_map.mp hd
  rfl
theorem s_sort (es : List Eg) (hn : (es.map Eg.id).Nodup) (hlen : es.length < 4611686018427387904) (st : Store) (p c : Nat) (hR : RowIs st p 8 (es.map Eg.e)) :
    ∃ st', EvRW Γ 43 [.rs p 0 8 es.length c, .func 44 []] st (.tuple []) st' ∧ RowIs st' p 8 ((srtK Eg.id es).map Eg.e) := by
  obtain ⟨hl, hp, cs, hb, hlc, htk, hpl⟩ := hR
  rw [List.length_map] at hlc htk
  have e1 : sortI 0 (es.map Eg.row) = (srtK Eg.id es).map Eg.row := by rw [sortI_eq, srtK_map]; rfl
  have e2 : ((srtK Eg.id es).map Eg.row).flatMap (fun x => x.map (D.int .i64)) = ((srtK Eg.id es).map Eg.e).flatMap D.cells := by
    rw [List.flatMap_map, List.flatMap_map]; rfl
  have hpm := (srtK_perm Eg.id es).length_eq
  have e3 : (((srtK Eg.id es).map Eg.e).flatMap D.cells).length = es.length * 8 := by
    rw [flatMap_len el8, List.length_map, hpm]
  refine ⟨{ st with boxes := upd st.boxes p (some (.row (((srtK Eg.id es).map Eg.e).flatMap D.cells ++ cs.drop (es.length * 8)))) }, EvRW_primS (F := sortF 8 0 44) rfl ?_, hl, hp, _, upd_same _ _ _, ?_, ?_, ?_⟩
  · show sortF 8 0 44 [.rs p 0 8 es.length c, .func 44 []] st = _
    simp only [sortF, hb]
    rw [htk, flat_cells, intsOf_map]
    simp only [rowsI_flat, e1, e2]
    rw [if_pos ⟨trivial, trivial, trivial, hl, hlc, hlen, by
      rw [List.map_map]
      exact diffB_of _ hn⟩]
  · rw [List.length_map, List.length_append, e3, hpm]; omega
  · rw [List.length_map, hpm, List.take_left' e3]
  · rw [List.all_append, Bool.and_eq_true]
    refine ⟨?_, ?_⟩
    · rw [flat_cells]
      simp [D.plain]
    · rw [List.all_eq_true] at hpl ⊢
      exact fun x hx => hpl x (List.mem_of_mem_drop hx)
end Go.Vie
