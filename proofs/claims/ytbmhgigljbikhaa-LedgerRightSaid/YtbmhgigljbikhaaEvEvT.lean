/-
  Regions that draw their order: any order comes to the same data, if those that clash are forced into theirs.
-/
import Derived.Test.YtbmhgigljbikhaaEvEvU
set_option linter.unusedVariables false
set_option linter.unusedSimpArgs false
set_option linter.unnecessarySimpa false
namespace Go.Ev
open Go.RowKit
set_option linter.unusedVariables false
set_option linter.unusedSimpArgs false

section
variable {P : Program} {ops : Array Oper}

def Down (ops : Array Oper) (S : Nat → Bool) : Prop := ∀ i o, S i = true → ops[i]? = some o → ∀ e ∈ o.after, Region.binds .any e = true → S e.on = true

theorem count_set {l : List Bool} {i : Nat} (h : l[i]? = some false) : (l.set i true).count false + 1 = l.count false := by
  induction l generalizing i with
  | nil => simp at h
  | cons b l ih =>
    cases i with
    | zero => simp at h; subst h; simp
    | succ i =>
      simp only [List.getElem?_cons_succ] at h
      have := ih h
      simp only [List.set_cons_succ, List.count_cons]
      omega

/-- An invariant over what has come up. -/
theorem any_of_inv (I : (Nat → Bool) → Act → World → Prop) {Q : Exit → Act → World → Prop}
    (hafter : ∀ i o, ops[i]? = some o → ∀ e ∈ o.after, Region.binds .any e = true → e.on < i)
    (hstep : ∀ (S : Nat → Bool) (i : Nat) (o : Oper) (a : Act) (w : World) (K : Act → World → Prop), I S a w → Down ops S → S i = false → ops[i]? = some o → (∀ e ∈ o.after, Region.binds .any e = true → S e.on = true) →
      (∀ a' w', I (fun j => S j || j == i) a' w' → K a' w') → wpOp P ops Q i K a w)
    (hfin : ∀ (S : Nat → Bool) a w, I S a w → (∀ j, j < ops.size → S j = true) → (∀ j, ops.size ≤ j → S j = false) → Q .normal a w) :
    ∀ (fuel : Nat) (listed : Array Bool) (a : Act) (w : World), listed.size = ops.size → listed.toList.count false = fuel → Down ops (fun j => listed.getD j false) → I (fun j => listed.getD j false) a w → wpAny P .any ops Q fuel listed a w := by
  have final : ∀ (listed : Array Bool) (a : Act) (w : World), listed.size = ops.size → I (fun j => listed.getD j false) a w → Region.ready .any ops listed = [] → Q .normal a w := by
    intro listed a w hs hI hr
    refine hfin _ a w hI (fun j hj => ?_) (fun j hj => by simp [Array.getD, show ¬ j < listed.size by omega])
    -- the least one that has not come up could come up
    have key : ∀ j, j < ops.size → listed.getD j false = true := by
      intro j
      induction j using Nat.strongRecOn with
      | _ j ih =>
        intro hj
        cases hb : listed.getD j false with
        | true => rfl
        | false =>
          exfalso
          have : j ∈ Region.ready .any ops listed := mem_ready.2 ⟨by
            have hlt : j < listed.size := by omega
            simp only [Array.getD, hlt, dite_true] at hb ⊢
            exact hb, ops[j], Array.getElem?_eq_getElem hj, fun e he hbd => by
            have hlt := hafter j _ (Array.getElem?_eq_getElem hj) e he hbd
            exact ih e.on hlt (by omega)⟩
          rw [hr] at this
          cases this
    exact key j hj
  intro fuel
  induction fuel with
  | zero =>
    intro listed a w hs hc hd hI
    have hall : ∀ j, listed.getD j true = true := fun j => by
      by_cases hlt : j < listed.size
      · simp only [Array.getD, hlt, dite_true]
        cases hb : listed[j] with
        | true => simpa using hb
        | false =>
          exfalso
          have hmem : false ∈ listed.toList := by
            rw [← hb]
            exact Array.getElem_mem_toList hlt
          have := List.count_pos_iff.2 hmem
          omega
      · simp [Array.getD, hlt]
    have hr : Region.ready .any ops listed = [] := by
      apply List.eq_nil_iff_forall_not_mem.2
      intro j hj
      have := (mem_ready.1 hj).1
      rw [hall] at this
      cases this
    exact ⟨hr, final listed a w hs hI hr⟩
  | succ fuel ih =>
    intro listed a w hs hc hd hI
    refine ⟨final listed a w hs hI, fun i hi => ?_⟩
    obtain ⟨h0, o, ho, hall⟩ := mem_ready.1 hi
    have hlt : i < listed.size := by
      have := (Array.getElem?_eq_some_iff.1 ho).1
      omega
    have h0' : listed[i] = false := by simpa [Array.getD, hlt] using h0
    have hset : (fun j => (listed.setIfInBounds i true).getD j false) = fun j => listed.getD j false || j == i := by
      funext j
      by_cases e : j = i
      · subst e
        simp [Array.getD, hlt]
      · by_cases hj : j < listed.size
        · simp [Array.getD, hj, Array.getElem_setIfInBounds, Ne.symm e, e]
        · simp [Array.getD, hj, e]
    refine hstep _ i o a w _ hI hd (by simp [Array.getD, hlt, h0']) ho hall (fun a' w' hI' => ?_)
    refine ih _ a' w' (by simpa using hs) ?_ ?_ (by rw [hset]; exact hI')
    · have := count_set (l := listed.toList) (i := i) (by simp [hlt, h0'])
      rw [Array.toList_setIfInBounds]
      omega
    · rw [hset]
      intro k ok hk hok e he hbd
      simp only [Bool.or_eq_true, beq_iff_eq] at hk ⊢
      rcases hk with hk | rfl
      · exact .inl (hd k ok hk hok e he hbd)
      · rw [ho] at hok
        cases hok
        exact .inl (hall e he hbd)

/-! ### Frames and stores over a set of operations -/
section
variable {α : Type} (ρ0 : Nat → D) (dst : Nat → Option Nat) (dv : Nat → D) (st0 : Store) (sv : Nat → Store) (wr : Nat → Bool)

def envS (S : Nat → Bool) : Nat → (Nat → D)
  | 0 => ρ0
  | n + 1 => if S n then updO (envS S n) (dst n) (dv n) else envS S n
def stS (S : Nat → Bool) : Nat → Store
  | 0 => st0
  | n + 1 => if S n && wr n then sv n else stS S n

theorem updO_ne {ρ : Nat → D} {d : Option Nat} {x : D} {t : Nat} (h : d ≠ some t) : updO ρ d x t = ρ t := by
  cases d with
  | none => rfl
  | some k => exact upd_ne _ _ (fun e => h (by rw [e]))
theorem updO_at {ρ : Nat → D} {x : D} {t : Nat} : updO ρ (some t) x t = x := upd_same _ _ _

theorem envS_same {S S' : Nat → Bool} {t : Nat} : ∀ n, (∀ j, j < n → dst j = some t → S j = S' j) → envS ρ0 dst dv S n t = envS ρ0 dst dv S' n t
  | 0, _ => rfl
  | n + 1, h => by
    have ih := envS_same n (fun j hj => h j (by omega))
    unfold envS
    by_cases hd : dst n = some t
    · rw [h n (by omega) hd]
      split
      · rw [hd, updO_at, updO_at]
      · exact ih
    · have e : ∀ (b : Bool) (ρ : Nat → D), (if b = true then updO ρ (dst n) (dv n) else ρ) t = ρ t := fun b ρ => by
        split
        · exact updO_ne hd
        · rfl
      rw [e, e]
      exact ih
theorem envS_lt (i : Nat) : ∀ n, i ≤ n → envS ρ0 dst dv (fun j => decide (j < i)) n = envS ρ0 dst dv (fun _ => true) i := by
  intro n
  induction n with
  | zero => intro h; have : i = 0 := by omega
            subst this; rfl
  | succ n ih =>
    intro h
    by_cases e : i = n + 1
    · subst e
      clear ih h
      have : ∀ m, m ≤ n + 1 → envS ρ0 dst dv (fun j => decide (j < n + 1)) m = envS ρ0 dst dv (fun _ => true) m := by
        intro m
        induction m with
        | zero => intro _; rfl
        | succ m ihm =>
          intro hm
          unfold envS
          rw [ihm (by omega)]
          simp [show m < n + 1 by omega]
      exact this _ (Nat.le_refl _)
    · conv => lhs; unfold envS
      simp only [show ¬ n < i by omega, decide_false, Bool.false_eq_true, if_false]
      exact ih (by omega)
theorem envS_last {S : Nat → Bool} {t i : Nat} (hi : dst i = some t) (hS : S i = true) : ∀ n, i < n → (∀ j, i < j → j < n → S j = true → dst j ≠ some t) → envS ρ0 dst dv S n t = dv i
  | 0, h, _ => by omega
  | n + 1, h, hl => by
    unfold envS
    by_cases e : i = n
    · subst e
      rw [hS, if_pos rfl, hi, updO_at]
    · have ih := envS_last hi hS n (by omega) (fun j h1 h2 => hl j h1 (by omega))
      split
      · rename_i hSn
        rw [updO_ne (hl n (by omega) (by omega) hSn)]
        exact ih
      · exact ih
theorem stS_same {S S' : Nat → Bool} : ∀ n, (∀ j, j < n → wr j = true → S j = S' j) → stS st0 sv wr S n = stS st0 sv wr S' n
  | 0, _ => rfl
  | n + 1, h => by
    have ih := stS_same n (fun j hj => h j (by omega))
    unfold stS
    cases hw : wr n with
    | true => rw [h n (by omega) hw, ih]
    | false => simp [ih]
theorem stS_lt (i : Nat) : ∀ n, i ≤ n → stS st0 sv wr (fun j => decide (j < i)) n = stS st0 sv wr (fun _ => true) i := by
  intro n
  induction n with
  | zero => intro h; have : i = 0 := by omega
            subst this; rfl
  | succ n ih =>
    intro h
    by_cases e : i = n + 1
    · subst e
      clear ih h
      have : ∀ m, m ≤ n + 1 → stS st0 sv wr (fun j => decide (j < n + 1)) m = stS st0 sv wr (fun _ => true) m := by
        intro m
        induction m with
        | zero => intro _; rfl
        | succ m ihm =>
          intro hm
          unfold stS
          rw [ihm (by omega)]
          simp [show m < n + 1 by omega]
      exact this _ (Nat.le_refl _)
    · conv => lhs; unfold stS
      simp only [show ¬ n < i by omega, decide_false, Bool.false_and, Bool.false_eq_true, if_false]
      exact ih (by omega)
theorem stS_last {S : Nat → Bool} {i : Nat} (hi : wr i = true) (hS : S i = true) : ∀ n, i < n → (∀ j, i < j → j < n → S j = true → wr j = false) → stS st0 sv wr S n = sv i
  | 0, h, _ => by omega
  | n + 1, h, hl => by
    unfold stS
    by_cases e : i = n
    · subst e
      simp [hS, hi]
    · have ih := stS_last hi hS n (by omega) (fun j h1 h2 => hl j h1 (by omega))
      split
      · rename_i hSn
        simp only [Bool.and_eq_true] at hSn
        rw [hl n (by omega) (by omega) hSn.1] at hSn
        simp at hSn
      · exact ih
end

end
end Go.Ev
