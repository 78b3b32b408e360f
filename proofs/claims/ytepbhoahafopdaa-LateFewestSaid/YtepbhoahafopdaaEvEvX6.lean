/-
  Rules to run the evaluator's code by hand: forgetting the slots that are read no more.
-/
import Derived.Test.YtepbhoahafopdaaEvEvX5
set_option linter.unusedVariables false
set_option linter.unusedSimpArgs false
set_option linter.unnecessarySimpa false
namespace Go.Ev
set_option linter.unusedVariables false
set_option linter.unusedSimpArgs false
section
variable {Γ : Nat → Option FD} {c a b : C} {ρ : Nat → D} {st : Store} {Q : X → (Nat → D) → Store → Prop} {g : (Nat → D) → Nat → D}
/-- The code is run on a frame that 'g' doesn't change. -/
def CutG (Γ : Nat → Option FD) (c : C) (ρ : Nat → D) (st : Store) (Q : X → (Nat → D) → Store → Prop) (g : (Nat → D) → Nat → D) : Prop := g ρ = ρ → WC Γ c ρ st Q
theorem cut_start (h : CutG Γ c ρ st Q (fun e => e)) : WC Γ c ρ st Q := h rfl
theorem cut_add {k : Nat} {v : D} (hv : ρ k = v) (h : CutG Γ c ρ st Q (fun e => g (upd e k v))) : CutG Γ c ρ st Q g := fun hg => h (by simp only [upd_self hv]; exact hg)
theorem cut_seq (h : ∀ e, WC Γ a (g e) st (fun x ρ1 st1 => match x with | .normal => WC Γ b ρ1 st1 Q | x => Q x ρ1 st1)) : CutG Γ (.seq a b) ρ st Q g := fun hg => by
  have := WC_seq (b := b) (h ρ)
  rw [hg] at this
  exact this
theorem cut_ops {l : List Op1} (h : ∀ e, WS Γ false l (g e) st (fun ρ1 st1 _ => Q .normal ρ1 st1)) : CutG Γ (.ops false l) ρ st Q g := fun hg => by
  have := WC_opsS (h ρ)
  rw [hg] at this
  exact this
theorem cut_block {id : Nat} (h : ∀ e, WC Γ b (g e) st (fun x ρ1 st1 => match x with | .exit j => Q (if j = id then .normal else .exit j) ρ1 st1 | x => Q x ρ1 st1)) : CutG Γ (.block id b) ρ st Q g := fun hg => by
  have := WC_block (id := id) (h ρ)
  rw [hg] at this
  exact this
theorem cut_draw {bef : List (List Nat)} {l : List Op1} (h : ∀ e, WS Γ true l (g e) st (fun ρ1 st1 fl => okFlags bef fl = true ∧ Q .normal ρ1 st1)) : CutG Γ (.draw bef l) ρ st Q g := fun hg => by
  have := WC_drawS (h ρ)
  rw [hg] at this
  exact this
end
end Go.Ev
