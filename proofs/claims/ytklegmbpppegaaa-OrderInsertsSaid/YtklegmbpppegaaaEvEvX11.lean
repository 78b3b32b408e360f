/-
  Rules: a call that hands back a struct whose first cell is a slice, and more; rows that are grown.
-/
import Derived.Test.YtklegmbpppegaaaEvEvX10
set_option linter.unusedVariables false
set_option linter.unusedSimpArgs false
set_option linter.unnecessarySimpa false
namespace Go.Ev
set_option linter.unusedVariables false
set_option linter.unusedSimpArgs false
section
variable {Γ : Nat → Option FD} {ρ : Nat → D} {st : Store} {dr : Bool} {R : (Nat → D) → Store → List Fl → Prop} {l : List Op1} {g : Option (Nat × Bool)} {mv : Bool} {k : Nat} {x y : A}
/-- What is grown so far: in a row of its own. -/
def OutG {α : Type} (e : α → D) (sz : Nat) (st : Store) (d : D) (out : List α) : Prop := (out = [] ∧ d = .slice .isnil 0 []) ∨ ∃ q n c, n = out.length ∧ out ≠ [] ∧ d = .rs q 0 sz n c ∧ RowIs st q sz (out.map e)
theorem W_appG {α : Type} {e : α → D} {sz bytes : Nat} {d : D} {out : List α} {r : α} {t : Tok} (h0 : 0 < sz) (he : ∀ a, Elem sz (e a)) (hg : guardV ρ g = some true) (hx : x.ev ρ = d) (hy : y.ev ρ = .slice t sz [e r]) (hm : mv = true) (hO : OutG e sz st d out) (hb : (out.length + 1) * bytes ≤ 140737488355328) (hl : st.lim ≤ 0)
    (H : ∀ st' d', st'.lim ≤ 0 → OutG e sz st' d' (out ++ [r]) → WS Γ dr l (upd ρ k d') st' (nx .f R)) : WS Γ dr (⟨some k, g, mv, .append sz bytes x y⟩ :: l) ρ st R := by
  have hys : ∀ d ∈ [e r], Elem sz d := fun d hd => by rw [List.mem_singleton.mp hd]; exact he r
  rcases hO with ⟨rfl, rfl⟩ | ⟨q, n, c, rfl, h5, rfl, hR⟩
  · refine W_appNew hg hx (.inr rfl) (.inr rfl) hy hm (.inl rfl) (by simp) (by simp) hys (by simpa using hb) (by omega) (fun st' e1 _ _ _ hR' hoth hn => ?_)
    exact H st' _ (by omega) (.inr ⟨st.next, _, _, rfl, by simp, rfl, by simpa using hR'⟩)
  · refine W_appRow hg hx hy hR (by simp) (.inl rfl) (fun d hd => by
      obtain ⟨a, _, rfl⟩ := List.mem_map.mp hd
      exact (he a).1) hys (by simpa using hb) (fun p' c' st' e1 _ _ _ hR' hoth hn hp => ?_)
    exact H st' _ (by omega) (.inr ⟨p', _, c', by simp, by simp, rfl, by simpa using hR'⟩)
theorem finX_G {α : Type} {e : α → D} {sz : Nat} {X0 : X} {rs : List Rs} {d : D} {es : List α} (hs0 : 0 < sz) (hxs : ∀ a, (e a).cells.length = sz ∧ mkD (e a).cells = e a) (hx : X0 = .normal ∨ X0 = .ret) (h1 : resAll ρ st rs = some d) (hO : OutG e sz st d es) : (X0 = .normal ∨ X0 = .ret) ∧ ∃ r, (resAll ρ st rs).bind (finP st) = some r ∧ IsN e sz es r := by
  rcases hO with ⟨rfl, rfl⟩ | ⟨q, n, c, rfl, hne, rfl, hR⟩
  · exact ⟨hx, .slice .isnil 0 [], by rw [h1]; rfl, .isnil, 0, rfl, .inr rfl, rfl⟩
  · exact finX_N (t := .row) (s := sz) rfl (.inl rfl) (fin_row hx h1 (by rw [List.length_map]) hs0 hR (fun d hd => by
      obtain ⟨e, _, rfl⟩ := List.mem_map.mp hd
      exact hxs e))
end
end Go.Ev
