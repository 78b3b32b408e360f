/-
  What is booked closes, and opens nothing: plain.
-/
import Derived.Test.YtdjokmfncammeaaVieVieQ
set_option linter.unusedVariables false
set_option linter.unusedSimpArgs false
set_option linter.unnecessarySimpa false
namespace Go.Vie
open Go.Ev
set_option linter.unusedVariables false
set_option linter.unusedSimpArgs false
theorem bkl_mono {b : Bk} (h : b.U) {k : Int} (hk : 0 ≤ k ∧ k ≤ 1) : bkl b (k + 1) ≤ bkl b k := by
  unfold Bk.U at h
  have hk' : k = 0 ∨ k = 1 := by omega
  rcases hk' with rfl | rfl
  · simp only [bkl, stp]
    simp
    omega
  · simp only [bkl, stp]
    simp
    omega
theorem ceilI_mono {a a' b : Int} (ha : 0 ≤ a) (hb : 1 ≤ b) (h : a ≤ a') : ceilI a b ≤ ceilI a' b := by
  unfold ceilI
  rw [Int.tdiv_eq_ediv_of_nonneg ha, Int.tmod_eq_emod_of_nonneg ha, Int.tdiv_eq_ediv_of_nonneg (Int.le_trans ha h), Int.tmod_eq_emod_of_nonneg (Int.le_trans ha h)]
  have h1 := Int.emod_nonneg a (show b ≠ 0 by omega)
  have h2 := Int.emod_nonneg a' (show b ≠ 0 by omega)
  have h3 : a / b ≤ a' / b := Int.ediv_le_ediv (by omega) h
  rcases Int.lt_or_eq_of_le h3 with h4 | h4
  · split <;> split <;> omega
  · have h5 := Int.mul_ediv_add_emod a b
    have h6 := Int.mul_ediv_add_emod a' b
    rw [h4] at h5 ⊢
    split <;> split <;> omega
theorem clamp_mono {n m lo hi : Int} (h : n ≤ m) (hl : lo ≤ hi) : clampI n lo hi ≤ clampI m lo hi := by
  unfold clampI
  repeat' split
  all_goals omega
/-- One edge beside another one. -/
def EgLe (a b : Eg) : Prop := a.id = b.id ∧ a.fr = b.fr ∧ a.to = b.to ∧ a.en = b.en ∧ a.ra = b.ra ∧ a.ow = b.ow ∧ b.op ≤ a.op ∧ a.ro ≤ b.ro
theorem mkE_le {lg lg' : List Bk} (hl : Led lg) (hl' : Led lg') {c : Ct} (hc : c.ok) {k k' o : Int} (hk : 0 ≤ k ∧ k < 3) (hk' : 0 ≤ k' ∧ k' < 3) (hb : bkl (row lg' c.id) k' ≤ bkl (row lg c.id) k) : EgLe (mkE lg c k o) (mkE lg' c k' o) := by
  have h1 := bkl_in (hl'.hu c.id) k'
  refine ⟨rfl, rfl, rfl, rfl, rfl, rfl, ?_, ?_⟩
  · have := ceilI_mono (b := c.ra) h1.1 hc.2.2.2.1 hb
    exact clamp_mono (by omega) (by decide)
  · show room lg c.id c.fr c.to c.st c.en c.ra k ≤ room lg' c.id c.fr c.to c.st c.en c.ra k'
    unfold room
    rw [if_pos hk, if_pos hk']
    split <;> split <;> omega
/-- The contacts that have edges, by rising IDs. -/
def gds (p : Pl) : List Ct := srtK Ct.id (p.cs.filter fun c => decide c.ok && (owl p.rs c).isSome)
def mkO (p : Pl) (lg : List Bk) (k : Int) (c : Ct) : Eg := mkE lg c k ((owl p.rs c).getD 0)
theorem fm_eq (p : Pl) (lg : List Bk) (k : Int) : ∀ cs : List Ct, cs.filterMap (edg p.rs lg k) = (cs.filter fun c => decide c.ok && (owl p.rs c).isSome).map (mkO p lg k)
  | [] => rfl
  | c :: cs => by
    rw [List.filterMap_cons, List.filter_cons, fm_eq p lg k cs]
    by_cases hc : c.ok
    · cases ho : owl p.rs c with
      | none => simp [edg, hc, ho]
      | some o => simp [edg, hc, ho, mkO]
    · simp [edg, hc]
theorem allE_gds (p : Pl) (lg : List Bk) (k : Int) : allE p lg k = (gds p).map (mkO p lg k) := by
  unfold allE gds
  rw [fm_eq, srtK_map]
  rfl
theorem gds_ok {p : Pl} {c : Ct} (h : c ∈ gds p) : c ∈ p.cs ∧ c.ok ∧ ∃ o, owl p.rs c = some o := by
  have := (srtK_perm Ct.id _).mem_iff.mp h
  rw [List.mem_filter, Bool.and_eq_true, decide_eq_true_eq, Option.isSome_iff_exists] at this
  exact this
theorem all_le {p : Pl} {lg lg' : List Bk} (hl : Led lg) (hl' : Led lg') {k k' : Int} (hk : 0 ≤ k ∧ k < 3) (hk' : 0 ≤ k' ∧ k' < 3) (hb : ∀ id, bkl (row lg' id) k' ≤ bkl (row lg id) k) {i : Nat} {x y : Eg} (hx : (allE p lg k)[i]? = some x) (hy : (allE p lg' k')[i]? = some y) : EgLe x y := by
  rw [allE_gds, List.getElem?_map] at hx hy
  obtain ⟨c, hc, rfl⟩ := Option.map_eq_some_iff.mp hx
  rw [hc] at hy
  cases hy
  exact mkE_le hl hl' (gds_ok (List.mem_of_getElem? hc)).2.1 hk hk' (hb c.id)
theorem all_len (p : Pl) (lg lg' : List Bk) (k k' : Int) : (allE p lg k).length = (allE p lg' k').length := by
  rw [allE_gds, allE_gds, List.length_map, List.length_map]
end Go.Vie
