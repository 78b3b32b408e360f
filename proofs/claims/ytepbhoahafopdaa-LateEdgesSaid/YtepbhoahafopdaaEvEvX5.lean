/-
  Rules to run the evaluator's code by hand: more of calls.
-/
import Derived.Test.YtepbhoahafopdaaEvEvX4
set_option linter.unusedVariables false
set_option linter.unusedSimpArgs false
set_option linter.unnecessarySimpa false
namespace Go.Ev
set_option linter.unusedVariables false
set_option linter.unusedSimpArgs false
section
variable {Γ : Nat → Option FD} {ρ : Nat → D} {st : Store} {dr : Bool} {R : (Nat → D) → Store → List Fl → Prop} {l : List Op1} {g : Option (Nat × Bool)} {mv : Bool} {k : Nat} {x y : A}
/-- A slice, nothing of which may be appended to, and more. -/
def IsTD {α : Type} (e : α → D) (sz : Nat) (ls : List α) (vs : List D) (r : D) : Prop := ∃ t s, r = .tuple (.slice t s (ls.map e) :: vs) ∧ (s = sz ∨ ls = []) ∧ t.dull = true
theorem W_callTD {α : Type} {e : α → D} {f : A} {as : List A} {fn : Nat} {caps : List D} {sz : Nat} {xs : List α} {vs : List D} (hg : guardV ρ g = some true) (hf : f.ev ρ = .func fn caps) (ha : ((as.map (·.ev ρ) ++ caps).map D.strip).all D.freeA = true) (hr : EvX Γ fn ((as.map (·.ev ρ) ++ caps).map D.strip) (IsTD e sz xs vs))
    (hm : mv = false) (h : ∀ t s, (s = sz ∨ xs = []) → t.dull = true → WS Γ dr l (upd ρ k (.tuple (.slice t s (xs.map e) :: vs))) st (nx .n R)) : WS Γ dr (⟨some k, g, mv, .call f as⟩ :: l) ρ st R := by
  subst hm
  obtain ⟨r, ⟨t, s, rfl, hs, ht⟩, hr⟩ := hr
  have key : ∃ t', absorb false (.tuple (.slice t s (xs.map e) :: vs)) st = (.tuple (.slice t' s (xs.map e) :: vs), st) ∧ t'.dull = true := by
    cases t <;> first | (cases ht; done) | exact ⟨_, rfl, rfl⟩
  obtain ⟨t', e, ht'⟩ := key
  exact WS_callP hg rfl hf ha hr (fun h => ⟨by cases t <;> first | (cases ht; done) | rfl, rfl⟩) e (h t' s hs ht')
theorem finX_TD {α : Type} {e : α → D} {X0 : X} {rs : List Rs} {t : Tok} {sz s : Nat} {xs ys : List α} {vs us : List D} (hx : X0 = .normal ∨ X0 = .ret) (h1 : resAll ρ st rs = some (.tuple (.slice t s (xs.map e) :: vs))) (ht : t.dull = true) (hg : (D.tuple vs).ground = true) (hs : s = sz ∨ xs = []) (he : xs = ys) (hv : vs = us) : (X0 = .normal ∨ X0 = .ret) ∧ ∃ r, (resAll ρ st rs).bind (finP st) = some r ∧ IsTD e sz ys us r := by
  subst he hv
  have hgs : ∀ w ∈ vs, w.ground = true := fun w hw => by
    simp only [D.ground, List.all_eq_true] at hg
    have := hg w hw
    cases w <;> simp_all [D.ground, D.ground1]
  have hf : (D.tuple (.slice t s (xs.map e) :: vs)).free = true := by
    have := ground_free hg
    simp only [D.free, List.all_cons, Bool.and_eq_true] at this ⊢
    exact ⟨rfl, this⟩
  have : ∃ t', finP st (.tuple (.slice t s (xs.map e) :: vs)) = some (.tuple (.slice t' s (xs.map e) :: vs)) ∧ t'.dull = true := by
    simp only [finP, hf, if_true, retD, retFirst]
    rw [show vs.map D.strip = vs from (List.map_congr_left fun x hx => ground_strip (hgs x hx)).trans (List.map_id' _)]
    cases t <;> first | (cases ht; done) | exact ⟨_, rfl, rfl⟩
  obtain ⟨t', e', ht'⟩ := this
  exact ⟨hx, _, by rw [h1]; exact e', t', s, rfl, hs, ht'⟩
theorem W_eqlBc (hg : guardV ρ g = some true) (hm : mv = false) {t u v : Bool} (hx : x.ev ρ = .bool t) (hy : y.ev ρ = .bool u) (hv : (t == u) = v) (h : WS Γ dr l (upd ρ k (.bool v)) st (nx .n R)) : WS Γ dr (⟨some k, g, mv, .eqlB false x y⟩ :: l) ρ st R := by
  subst hv
  exact W_eqlB hg hm hx hy h
end
def isT : Option D → Bool
  | some (.bool true) => true
  | _ => false
theorem isT_eq {o : Option D} (h : isT o = true) : o = some (.bool true) := by
  unfold isT at h
  split at h
  · rfl
  · cases h
end Go.Ev
