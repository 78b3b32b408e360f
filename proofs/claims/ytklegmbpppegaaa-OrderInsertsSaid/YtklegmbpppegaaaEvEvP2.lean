/-
  slices.Clone of nothing has no room: a second form of it as something known, for who appends to it.
-/
import Derived.Test.YtklegmbpppegaaaEvEvX10
set_option linter.unusedVariables false
set_option linter.unusedSimpArgs false
set_option linter.unnecessarySimpa false
namespace Go.Ev
open Go.RowKit
set_option linter.unusedVariables false
set_option linter.unusedSimpArgs false
variable {P : Program} {Γ : Nat → Option FD}
/-- What Clone hands back: of nothing, what has no room. -/
def cloneE (sz bytes : Nat) : List D → Option D
  | [.slice t s []] => some (.slice .exact sz [])
  | ds => cloneF sz bytes ds
theorem clone_primE (hm : P.follows .mixedOrders = true) {f sz bytes : Nat} (hcf : compF P f true [7] = some (cloneC sz bytes)) (h0 : 0 < sz) (hnil : ∀ (w : World) (cap : Nat), Calls P f #[.slice none 0 cap] w (fun e w' => e = .returned (.slice none 0 0) ∧ w' = w)) : PrimOK P f (cloneE sz bytes) := by
  let Γ0 : Nat → Option FD := fun k => if k = f then some (.code (cloneC sz bytes)) else none
  have hΓ : Γ0 f = some (.code (cloneC sz bytes)) := by simp [Γ0]
  have hk : Known P Γ0 := fun k fd h => by
    simp only [Γ0] at h
    split at h
    · rename_i hkf
      cases h
      subst hkf
      exact hcf
    · cases h
  have hF0 := clone_prim hm hcf h0 hnil
  refine ⟨hF0.1, ?_⟩
  intro B w g st ds vs r hrel hv hF
  unfold cloneE at hF
  split at hF
  · rename_i t s
    cases hF
    obtain ⟨vl⟩ := vs
    have hlen : vl.length = 1 := hv.1.symm
    obtain ⟨v, rfl⟩ := List.length_eq_one_iff.mp hlen
    have hvv := hv.2 0 _ _ rfl rfl
    obtain ⟨A, cap, vals, rfl, hc, htk, hs, hA, hvs⟩ := hvv.slice_inv
    cases A with
    | none =>
      refine (hnil w cap).mono fun e w' h => ?_
      obtain ⟨rfl, rfl⟩ := h
      refine ⟨_, rfl, Same.refl _ _ _, fun mv => ⟨g, ?_, ?_⟩⟩
      · exact .slice .exact sz [] none 0 0 (fun _ _ => default) rfl (Nat.le_refl _) rfl (by simp) (by simp) (by simp)
      · exact Step.refl hrel
    | some ad =>
      have hv' : VRs w ⟨g.S, fun _ => none, fun _ => none⟩ [D.slice .nonnil sz []] (#[Value.slice (some ad) ([] : List D).length cap] : Array Value).toList := ⟨rfl, fun j d v h1 h2 => by
        cases j with
        | zero =>
          simp at h1 h2
          subst h1 h2
          exact .slice .nonnil sz [] (some ad) 0 cap (fun _ _ => default) rfl (Nat.zero_le _) (by simp [TokOK]) (by simp) (by simp) (by simp)
        | succ j => simp at h1⟩
      exact (calls_code hk hm hΓ (clone_run0 hΓ) hrel hv').2
  · exact hF0.2 _ _ _ _ _ _ _ hrel hv hF
/-- What Clone hands back, for one that writes to it, or appends to it if it is nothing. -/
def IsE {α : Type} (e : α → D) (sz : Nat) (xs : List α) (r : D) : Prop := (xs = [] ∧ ∃ s, r = .slice .exact s []) ∨ xs ≠ [] ∧ r = .slice .row sz (xs.map e)
theorem IsE.r {α : Type} {e : α → D} {sz : Nat} {xs : List α} {r : D} (h : IsE e sz xs r) : IsR e sz xs r := by
  rcases h with ⟨h, s, rfl⟩ | ⟨_, h⟩
  · exact .inl ⟨h, _, s, rfl, .inr (.inr rfl)⟩
  · exact .inr h
theorem clone_E {α : Type} {e : α → D} {f sz bytes : Nat} (hΓ : Γ f = some (.prim (cloneE sz bytes))) (ls : List α) {t : Tok} {s : Nat} (hs : s = sz ∨ ls = []) (hb : ls.length * bytes ≤ 140737488355328) (he : ∀ a, Elem sz (e a) ∧ (match (e a).cells with | [c] => (match e a with | .agg _ => false | _ => true) | _ => (match e a with | .agg _ => true | _ => false)) = true) : EvX Γ f [.slice t s (ls.map e)] (IsE e sz ls) := by
  cases ls with
  | nil => exact ⟨_, .inl ⟨rfl, sz, rfl⟩, EvP_prim hΓ rfl⟩
  | cons x xs =>
    rcases hs with rfl | hs
    · refine ⟨_, .inr ⟨by simp, rfl⟩, EvP_prim hΓ ?_⟩
      have hall : (((x :: xs).map e).all (fun d => d.cells.length == s && d.cells.all D.plain && (match d.cells with | [c] => (match d with | .agg _ => false | _ => true) | _ => (match d with | .agg _ => true | _ => false)))) = true := by
        rw [List.all_eq_true]
        intro d hd
        obtain ⟨a, _, rfl⟩ := List.mem_map.mp hd
        simp only [(he a).1.1, (he a).1.2, (he a).2, beq_self_eq_true, Bool.and_self]
      simp only [cloneE, List.map_cons, cloneF]
      rw [List.map_cons] at hall
      rw [if_neg (by simp), if_pos ⟨trivial, by simpa using hb, hall⟩]
    · cases hs
end Go.Ev
