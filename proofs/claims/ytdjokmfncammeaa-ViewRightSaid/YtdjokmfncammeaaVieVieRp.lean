/-
  ViewRight: what is said of the edges, plain.
-/
import Derived.Test.YtdjokmfncammeaaVieVieRa
set_option linter.unusedVariables false
set_option linter.unusedSimpArgs false
set_option linter.unnecessarySimpa false
namespace Go.Vie
open Go.Ev
set_option linter.unusedVariables false
set_option linter.unusedSimpArgs false
theorem fnd_some2 {n : Int} : ∀ {l : List Eg}, (∃ y ∈ l, y.id = n) → (fnd n l).isSome = true
  | [], h => by obtain ⟨y, hy, _⟩ := h; simp at hy
  | y :: l, h => by
    simp only [fnd]
    by_cases e : y.id = n
    · rw [if_pos e]; rfl
    · rw [if_neg e]
      obtain ⟨z, hz, hz2⟩ := h
      rcases List.mem_cons.mp hz with h | h
      · rw [h] at hz2; exact absurd hz2 e
      · exact fnd_some2 ⟨z, h, hz2⟩
/-- All that is said of an edge of a contact. -/
structure EgOf (c : Ct) (x : Eg) : Prop where
  q1 : c.fr = x.fr
  q2 : c.to = x.to
  q3 : c.en = x.en
  q4 : c.ra = x.ra
  q5 : c.st ≤ x.op
  qh : EvP Γ 28 [x.e] (.bool true)
theorem find_mem {α : Type} {f : α → Bool} {l : List α} {x : α} (h : l.find? f = some x) : x ∈ l := List.mem_of_find?_eq_some h
theorem egOf {p : Pl} {lg : List Bk} (hl : Led lg) {k : Int} (hk : 0 ≤ k ∧ k < 3) {c : Ct} {x : Eg} (hR : ∀ r ∈ p.rs, ROK r) (h : edg p.rs lg k c = some x) : EgOf c x := by
  obtain ⟨hc, o, ho, rfl⟩ := edg_ok h
  obtain ⟨r, hr, rfl⟩ := Option.map_eq_some_iff.mp ho
  have hrk := hR r (find_mem hr)
  have hb := bkl_in (hl.hu c.id) k
  have hci := ceilI_in (b := c.ra) hb.1 hc.2.2.2.1
  have hv := volC_in c.id c.fr c.to c.st c.en c.ra
  obtain ⟨⟨a1, a2, a3⟩, a4, a5, a6⟩ := hc
  have hop : c.st ≤ (mkE lg c k r.ow).op ∧ (mkE lg c k r.ow).op ≤ 1099511627776 := by
    show c.st ≤ clampI (c.st + ceilI (bkl (row lg c.id) k) c.ra) 0 1099511627776 ∧ clampI (c.st + ceilI (bkl (row lg c.id) k) c.ra) 0 1099511627776 ≤ 1099511627776
    unfold clampI
    split <;> (try split) <;> omega
  refine ⟨rfl, rfl, rfl, rfl, hop.1, s_hop _ a1 a2 a3 ⟨by omega, hop.2⟩ ?_ hrk a5 a6 ?_⟩
  · show 1 ≤ c.en ∧ c.en ≤ 2147483647
    omega
  · show 0 ≤ room lg c.id c.fr c.to c.st c.en c.ra k ∧ room lg c.id c.fr c.to c.st c.en c.ra k ≤ 4611686018427387904
    unfold room
    rw [if_pos hk]
    split <;> omega
theorem pw_lt {l : List Eg} (h : l.Pairwise fun a b => a.id < b.id) {i : Nat} {x y : Eg} (hy : l[i]? = some y) (hx : l[i + 1]? = some x) : y.id < x.id := by
  obtain ⟨h1, rfl⟩ := List.getElem?_eq_some_iff.mp hy
  obtain ⟨h2, rfl⟩ := List.getElem?_eq_some_iff.mp hx
  exact List.pairwise_iff_getElem.mp h i (i + 1) h1 h2 (Nat.lt_succ_self _)
theorem nodup_lt : ∀ {l : List Eg}, (l.Pairwise fun a b => a.id ≤ b.id) → (l.map Eg.id).Nodup → l.Pairwise fun a b => a.id < b.id
  | [], _, _ => List.Pairwise.nil
  | a :: l, h, hn => by
    rw [List.map_cons, List.nodup_cons] at hn
    have h' := List.pairwise_cons.mp h
    refine List.pairwise_cons.mpr ⟨fun b hb => ?_, nodup_lt h'.2 hn.2⟩
    have h1 := h'.1 b hb
    have h2 : a.id ≠ b.id := fun e => hn.1 (by rw [e]; exact List.mem_map.mpr ⟨b, hb, rfl⟩)
    omega
theorem allE_lt {p : Pl} (lg : List Bk) (k : Int) (hd : (p.cs.map Ct.id).Nodup) : (allE p lg k).Pairwise fun a b => a.id < b.id :=
  nodup_lt (srtK_sorted Eg.id _) (((srtK_perm Eg.id _).map Eg.id).nodup_iff.mpr (edg_nodup p.rs lg k p.cs hd))
def Fl.rd : Fl → Bool
  | .n | .r _ | .c => true
  | _ => false
theorem clash_rd {a b : Fl} (ha : Fl.rd a = true) (hb : Fl.rd b = true) : a.clash b = false := by
  cases a <;> cases b <;> first | rfl | (simp [Fl.rd] at ha; done) | (simp [Fl.rd] at hb; done)
theorem okFlags_rd {bef : List (List Nat)} {fl : List Fl} (h : fl.all Fl.rd = true) : okFlags bef fl = true := by
  unfold okFlags
  rw [List.all_eq_true] at h ⊢
  intro j hj
  rw [List.all_eq_true]
  intro i hi
  have hj' := List.mem_range.mp hj
  have hi' := List.mem_range.mp hi
  rw [List.getElem?_eq_getElem (show i < fl.length by omega), List.getElem?_eq_getElem hj']
  simp only
  rw [clash_rd (h _ (List.getElem_mem _)) (h _ (List.getElem_mem _))]
  simp
end Go.Vie
