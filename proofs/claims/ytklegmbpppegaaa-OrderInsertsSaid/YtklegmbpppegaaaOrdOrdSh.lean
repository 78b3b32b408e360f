/-
  What is inserted one by one, as many as are kept, is what is sorted, and its first ones. Plain.
-/
import Derived.Test.YtklegmbpppegaaaOrdOrdSf
import Derived.Test.YtklegmbpppegaaaOrdOrdSf
import Derived.Test.YtklegmbpppegaaaOrdOrdB
set_option linter.unusedVariables false
set_option linter.unusedSimpArgs false
set_option linter.unnecessarySimpa false

namespace Go.Ord
open Go.Ev
set_option linter.unusedVariables false
theorem sortM_fd (r : Rt) (L : List Rt) : (sortM L).find? (eqR r) = L.find? (eqR r) := by
  unfold sortM
  rw [cpt_fd, ssort_fd]
theorem mem_sortM {L : List Rt} {y : Rt} : y ∈ sortM L ↔ L.find? (eqR y) = some y :=
  ⟨fun h => sortM_first L h, fun h => List.mem_of_find?_eq_some ((sortM_fd y L).trans h)⟩
theorem ltR_irr {x : Rt} : ¬ ltR x x = true := by
  rw [ltR_iff, cmpR_self]
  decide
theorem ltR_asym {x y : Rt} (h : ltR x y = true) : ¬ ltR y x = true := by
  rw [ltR_iff] at h ⊢
  have := cmpR_anti x.hs x.ar y.hs y.ar
  omega
/-- Two that rise and hold the same are the same. -/
theorem str_ext : ∀ {a b : List Rt}, Str a → Str b → (∀ y, y ∈ a ↔ y ∈ b) → a = b
  | [], [], _, _, _ => rfl
  | [], y :: b, _, _, h => absurd ((h y).2 List.mem_cons_self) List.not_mem_nil
  | x :: a, [], _, _, h => absurd ((h x).1 List.mem_cons_self) List.not_mem_nil
  | x :: a, y :: b, ha, hb, h => by
    have h1 := List.pairwise_cons.1 ha
    have h2 := List.pairwise_cons.1 hb
    have hxy : x = y := by
      rcases List.mem_cons.1 ((h x).1 List.mem_cons_self) with e | e
      · exact e
      · rcases List.mem_cons.1 ((h y).2 List.mem_cons_self) with e' | e'
        · exact e'.symm
        · exact absurd (h1.1 y e') (ltR_asym (h2.1 x e))
    subst hxy
    rw [str_ext h1.2 h2.2 (fun z => ⟨fun hz => by
      rcases List.mem_cons.1 ((h z).1 (List.mem_cons_of_mem _ hz)) with e | e
      · subst e; exact absurd (h1.1 z hz) ltR_irr
      · exact e, fun hz => by
      rcases List.mem_cons.1 ((h z).2 (List.mem_cons_of_mem _ hz)) with e | e
      · subst e; exact absurd (h2.1 z hz) ltR_irr
      · exact e⟩)]
theorem sortM_congr {L L' : List Rt} (h : ∀ y, L.find? (eqR y) = L'.find? (eqR y)) : sortM L = sortM L' :=
  str_ext (sortM_str L) (sortM_str L') (fun y => by rw [mem_sortM, mem_sortM, h])
/-- One more, at its place, if there is none of it. -/
def insU : List Rt → Rt → List Rt
  | [], r => [r]
  | x :: S, r => if eqR x r then x :: S else if ltR r x then r :: x :: S else x :: insU S r
theorem insU_sub {r y : Rt} : ∀ {S : List Rt}, y ∈ insU S r → y ∈ S ∨ y = r
  | [], h => .inr (List.mem_singleton.1 h)
  | x :: S, h => by
    rw [insU] at h
    split at h
    · exact .inl h
    · split at h
      · rcases List.mem_cons.1 h with e | e
        · exact .inr e
        · exact .inl e
      · rcases List.mem_cons.1 h with e | e
        · exact .inl (by rw [e]; exact List.mem_cons_self)
        · rcases insU_sub e with e | e
          · exact .inl (List.mem_cons_of_mem _ e)
          · exact .inr e
theorem insU_sup {r y : Rt} : ∀ {S : List Rt}, y ∈ S → y ∈ insU S r
  | [], h => absurd h List.not_mem_nil
  | x :: S, h => by
    rw [insU]
    split
    · exact h
    · split
      · exact List.mem_cons_of_mem _ h
      · rcases List.mem_cons.1 h with e | e
        · rw [e]; exact List.mem_cons_self
        · exact List.mem_cons_of_mem _ (insU_sup e)
theorem insU_new {r : Rt} : ∀ {S : List Rt}, (∀ x ∈ S, ¬ eqR x r = true) → r ∈ insU S r
  | [], _ => List.mem_cons_self
  | x :: S, h => by
    rw [insU, if_neg (h x List.mem_cons_self)]
    split
    · exact List.mem_cons_self
    · exact List.mem_cons_of_mem _ (insU_new (fun z hz => h z (List.mem_cons_of_mem _ hz)))
theorem ltR_trans {x y z : Rt} (h : ltR x y = true) (h2 : ltR y z = true) : ltR x z = true := le_lt (leR_of_lt h) h2
theorem insU_str {r : Rt} : ∀ {S : List Rt}, Str S → Str (insU S r)
  | [], _ => List.pairwise_singleton _ _
  | x :: S, h => by
    have h1 := List.pairwise_cons.1 h
    rw [insU]
    split
    · exact h
    · rename_i hne
      split
      · rename_i hlt
        refine List.pairwise_cons.2 ⟨fun y hy => ?_, h⟩
        rcases List.mem_cons.1 hy with e | e
        · rw [e]; exact hlt
        · exact ltR_trans hlt (h1.1 y e)
      · rename_i hnl
        refine List.pairwise_cons.2 ⟨fun y hy => ?_, insU_str h1.2⟩
        rcases insU_sub hy with e | e
        · exact h1.1 y e
        · subst e
          have h3 := cmpR_anti x.hs x.ar y.hs y.ar
          rw [eqR_iff] at hne
          rw [ltR_iff] at hnl ⊢
          omega
theorem insU_old {r y : Rt} : ∀ {S : List Rt}, Str S → y ∈ insU S r → y ∈ S ∨ (y = r ∧ ∀ x ∈ S, ¬ eqR x r = true)
  | [], _, h => .inr ⟨List.mem_singleton.1 h, fun x hx => absurd hx List.not_mem_nil⟩
  | x :: S, hS, h => by
    have h1 := List.pairwise_cons.1 hS
    rw [insU] at h
    split at h
    · exact .inl h
    · rename_i hne
      split at h
      · rename_i hlt
        rcases List.mem_cons.1 h with e | e
        · refine .inr ⟨e, fun z hz hez => ?_⟩
          rcases List.mem_cons.1 hz with e2 | e2
          · subst e2; exact hne hez
          · have h3 := ltR_iff.1 (ltR_trans hlt (h1.1 z e2))
            have h4 := eqR_iff.1 (eq_symm hez)
            omega
        · exact .inl e
      · rcases List.mem_cons.1 h with e | e
        · exact .inl (by rw [e]; exact List.mem_cons_self)
        · rcases insU_old h1.2 e with e | ⟨e, e2⟩
          · exact .inl (List.mem_cons_of_mem _ e)
          · refine .inr ⟨e, fun z hz => ?_⟩
            rcases List.mem_cons.1 hz with e3 | e3
            · subst e3; exact hne
            · exact e2 z e3
theorem insU_mem {r y : Rt} {S : List Rt} (hS : Str S) : y ∈ insU S r ↔ y ∈ S ∨ (y = r ∧ ∀ x ∈ S, ¬ eqR x r = true) :=
  ⟨insU_old hS, fun h => by
    rcases h with h | ⟨rfl, h⟩
    · exact insU_sup h
    · exact insU_new h⟩
theorem eqR_self (x : Rt) : eqR x x = true := by rw [eqR_iff]; exact cmpR_self _ _
/-- What is sorted, and one more. -/
theorem sortM_one {S : List Rt} (hS : Str S) (r : Rt) : sortM (S ++ [r]) = insU S r :=
  str_ext (sortM_str _) (insU_str hS) (fun y => by
    rw [mem_sortM, insU_mem hS, List.find?_append, fd_one]
    constructor
    · intro h
      cases h1 : S.find? (eqR y) with
      | some z =>
        rw [h1] at h
        simp only [Option.some_or, Option.some.injEq] at h
        subst h
        exact .inl (List.mem_of_find?_eq_some h1)
      | none =>
        rw [h1] at h
        simp only [Option.none_or] at h
        split at h
        · cases h
          exact .inr ⟨rfl, fun x hx he => absurd (eq_symm he) (by simpa using List.find?_eq_none.1 h1 x hx)⟩
        · cases h
    · intro h
      rcases h with h | ⟨rfl, h⟩
      · rw [str_fd hS h]
        rfl
      · have h1 : S.find? (eqR y) = none := List.find?_eq_none.2 (fun x hx he => h x hx (eq_symm he))
        rw [h1, if_pos (eqR_self y)]
        rfl)
theorem sortM_snoc (L : List Rt) (r : Rt) : sortM (L ++ [r]) = insU (sortM L) r := by
  rw [← sortM_one (sortM_str L)]
  exact sortM_congr (fun y => by rw [List.find?_append, List.find?_append, sortM_fd])
theorem insU_take (r : Rt) : ∀ (S : List Rt) (m : Nat), (insU (S.take m) r).take m = (insU S r).take m
  | [], m => by rw [List.take_nil]
  | x :: S, 0 => by rw [List.take_zero, List.take_zero]
  | x :: S, m + 1 => by
    rw [List.take_succ_cons, insU, insU]
    split
    · rw [List.take_succ_cons, List.take_succ_cons, List.take_take, Nat.min_self]
    · split
      · rw [List.take_succ_cons, List.take_succ_cons]
        cases m with
        | zero => rfl
        | succ k =>
          rw [List.take_succ_cons, List.take_succ_cons, List.take_take]
          rw [show min k (k + 1) = k by omega]
      · rw [List.take_succ_cons, List.take_succ_cons, insU_take r S m]
theorem str_take {S : List Rt} (h : Str S) (m : Nat) : Str (S.take m) := h.sublist (List.take_sublist m S)
/-- Insert, upon the first ones of what is sorted. -/
theorem ins_step (L : List Rt) (r : Rt) (m : Nat) : (sortM ((sortM L).take m ++ [r])).take m = (sortM (L ++ [r])).take m := by
  rw [sortM_one (str_take (sortM_str L) m), sortM_snoc, insU_take]
end Go.Ord

/-
  The law OrderSorts, run.
-/
namespace Go.Ord
open Go.Ev
set_option linter.unusedVariables false
set_option linter.unusedSimpArgs false
theorem sortM_mem {L : List Rt} {y : Rt} (h : y ∈ sortM L) : y ∈ L := by
  have := sortM_first L h
  exact List.mem_of_find?_eq_some this
theorem sortM_short {L : List Rt} (h : Short L) : Short (sortM L) := fun r hr => h r (sortM_mem hr)
theorem dd_le : ∀ (l : List Rt) (z : Rt), (dd z l).length ≤ l.length
  | [], _ => Nat.le_refl _
  | x :: l, z => by
    rw [dd]
    split
    · exact Nat.le_trans (dd_le l _) (Nat.le_succ _)
    · exact Nat.succ_le_succ (dd_le l _)
theorem sortM_le (L : List Rt) : (sortM L).length ≤ L.length := by
  unfold sortM
  rw [← ssort_len L]
  cases ssort L with
  | nil => exact Nat.le_refl _
  | cons x l => exact Nat.succ_le_succ (dd_le l x)
theorem s_SortAN (L : List Rt) (hL : L.length ≤ 1000000) (hsh : Short L) (t : Tok) (s : Nat) (hs : s = 2 ∨ L = []) : EvX Γ 15 [.slice t s (L.map Rt.e)] (IsN Rt.e 2 (sortM L)) :=
  (s_SortA L hL hsh t s hs).mono fun _ h => h.n
end Go.Ord
