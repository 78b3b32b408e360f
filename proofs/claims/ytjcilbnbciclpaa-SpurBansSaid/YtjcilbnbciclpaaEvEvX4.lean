/-
  More fuel changes nothing.
-/
import Derived.Test.YtjcilbnbciclpaaEvEvX3
set_option linter.unusedVariables false
set_option linter.unusedSimpArgs false
set_option linter.unnecessarySimpa false
namespace Go.Ev
variable {Γ : Nat → Option FD}
theorem RW_noP {n : Nat} {f : Nat} {ds : List D} {st : Store} {x : D × Store} (h : callRW Γ n f ds st = some x) (hall : (ds.map D.strip).all D.freeA = true) (m : Nat) (es : List D) : callP Γ m f es = none := by
  cases n with
  | zero => simp [callRW] at h
  | succ n =>
    cases m with
    | zero => rfl
    | succ m =>
      simp only [callRW] at h
      split at h
      · rename_i cf hf
        split at h
        · first | (rw [if_pos hall] at h; cases h) | cases h
        · rename_i hro
          simp only [callP, hf, hro]; rfl
      · rename_i F hf
        simp only [callP, hf]
      · cases h
theorem RW_noRO {n : Nat} {f : Nat} {ds : List D} {st : Store} {x : D × Store} (h : callRW Γ n f ds st = some x) (m : Nat) (hP : ∀ f ds r, callP Γ (n - 1) f ds = some r → callP Γ (m - 1) f ds = some r) : callRO Γ m f ds st = none := by
  cases n with
  | zero => simp [callRW] at h
  | succ n =>
    cases m with
    | zero => rfl
    | succ m =>
      simp only [callRW] at h
      split at h
      · rename_i cf hf
        split at h
        · split at h
          · cases h
          rename_i hnf
          split at h
          · rename_i hfz
            simp only [Bool.and_eq_true] at hfz
            split at h
            · rename_i r0 hr0
              split at h
              · cases h
              rename_i hap
              simp only [callRO]
              have hP := hP _ _ _ hr0
              simp only [Nat.add_sub_cancel] at hP
              rw [if_neg hnf, if_pos hfz.1.1, if_pos hfz.1.2, hP]
              simp only [hap]
              rfl
            · cases h
          · cases h
        · rename_i hro
          simp only [callRO]
          split
          · cases m with
            | zero => rfl
            | succ m => simp only [callP, hf, hro]; rfl
          split
          · split
            · cases m with
              | zero => rfl
              | succ m => simp only [callP, hf, hro]; rfl
            · rfl
          · simp only [hf, hro]; rfl
      · rename_i F hf
        simp only [callRO]
        split
        · cases m with
          | zero => rfl
          | succ m => simp only [callP, hf]
        split
        · split
          · cases m with
            | zero => rfl
            | succ m => simp only [callP, hf]
          · rfl
        · simp only [hf]
      · cases h
theorem mono (n : Nat) : (∀ f ds r, callP Γ n f ds = some r → callP Γ (n + 1) f ds = some r) ∧ (∀ f ds st r, callRO Γ n f ds st = some r → callRO Γ (n + 1) f ds st = some r) ∧ (∀ f ds st r, callRW Γ n f ds st = some r → callRW Γ (n + 1) f ds st = some r) ∧
    (∀ d l ρ st r, runOps Γ n d l ρ st = some r → runOps Γ (n + 1) d l ρ st = some r) ∧ (∀ l ρ st r, runDr Γ n l ρ st = some r → runDr Γ (n + 1) l ρ st = some r) ∧ (∀ c ρ st r, runC Γ n c ρ st = some r → runC Γ (n + 1) c ρ st = some r) := by
  induction n using Nat.strongRecOn with
  | _ n IH =>
  cases n with
  | zero =>
    refine ⟨fun f ds r h => by simp [callP] at h, fun f ds st r h => by simp [callRO] at h, fun f ds st r h => by simp [callRW] at h, fun d l ρ st r h => ?_, fun l ρ st r h => ?_, fun c ρ st r h => by simp [runC] at h⟩
    · cases l with
      | nil => simpa [runOps] using h
      | cons => simp [runOps] at h
    · cases l with
      | nil => simpa [runDr] using h
      | cons => simp [runDr] at h
  | succ n =>
    obtain ⟨iP, iRO, iRW, iO, iD, iC⟩ := IH n (Nat.lt_succ_self n)
    have iQ : ∀ f ds r, callP Γ (n - 1) f ds = some r → callP Γ (n + 1 - 1) f ds = some r := by
      cases n with
      | zero => intro f ds r h; simp [callP] at h
      | succ k => exact (IH k (by omega)).1
    refine ⟨fun f ds r h => ?_, fun f ds st r h => ?_, fun f ds st r h => ?_, fun d l ρ st r h => ?_, fun l ρ st r h => ?_, fun c ρ st r h => ?_⟩
    · rw [callP] at h ⊢
      split at h
      · rename_i cf hf
        split at h
        · rename_i hro
          rw [if_pos hro]
          cases hr : runC Γ n cf.body (enter ds) Store.empty with
          | none => rw [hr] at h; cases h
          | some y => rw [iC _ _ _ _ hr]; rw [hr] at h; exact h
        · cases h
      · rename_i F hf; exact h
      · cases h
    · rw [callRO] at h ⊢
      split at h
      · rename_i ha
        rw [if_pos ha]
        exact iP _ _ _ h
      · rename_i ha
        rw [if_neg ha]
        split at h
        · rename_i hse
          rw [if_pos hse]
          split at h
          · rename_i hse2
            rw [if_pos hse2]
            cases hp : callP Γ n f (ds.map (seen st)) with
            | none => rw [hp] at h; cases h
            | some y => rw [iP _ _ _ hp]; rw [hp] at h; exact h
          · cases h
        rename_i hse
        rw [if_neg hse]
        split at h
        · rename_i cf hf
          split at h
          · rename_i hro
            rw [if_pos hro]
            cases hr : runC Γ n cf.body (enter (ds.map D.strip)) { st with lim := st.next, tlim := st.ntok } with
            | none => rw [hr] at h; cases h
            | some y => rw [iC _ _ _ _ hr]; rw [hr] at h; exact h
          · cases h
        · exact h
        · cases h
    · rw [callRW] at h ⊢
      split at h
      · rename_i cf hf
        split at h
        · rename_i hro
          rw [if_pos hro]
          split at h
          · cases h
          rename_i hnf
          rw [if_neg hnf]
          split at h
          · rename_i hfz
            rw [if_pos hfz]
            cases hp : callP Γ n f (ds.map (seen st)) with
            | none => rw [hp] at h; cases h
            | some y => rw [iP _ _ _ hp]; rw [hp] at h; exact h
          · cases h
        · rename_i hro
          rw [if_neg hro]
          cases hr : runC Γ n cf.body (enter (ds.map D.strip)) st with
          | none => rw [hr] at h; cases h
          | some y => rw [iC _ _ _ _ hr]; rw [hr] at h; exact h
      · exact h
      · cases h
    · cases l with
      | nil => simpa [runOps] using h
      | cons o l =>
        rw [runOps] at h ⊢
        split at h
        · cases h
        · exact iO _ _ _ _ _ h
        · rename_i hgx
          clear hgx
          obtain ⟨dst, gd, mv, op⟩ := o
          simp only at h ⊢
          cases op
          case call fa args =>
            simp only at h ⊢
            cases hfa : fa.ev ρ with
            | func f caps =>
              rw [hfa] at h
              simp only at h ⊢
              cases hro : callRO Γ n f (args.map (·.ev ρ) ++ caps) st with
              | some r1 =>
                rw [iRO _ _ _ _ hro]
                rw [hro] at h
                simp only at h ⊢
                split at h
                · rename_i d' st' he
                  try rw [he]
                  exact iO _ _ _ _ _ h
                · cases h
              | none =>
                rw [hro] at h
                simp only at h
                cases d with
                | true => simp at h
                | false =>
                  simp only [Bool.false_eq_true, if_false] at h
                  cases hrw : callRW Γ n f (args.map (·.ev ρ) ++ caps) st with
                  | none => rw [hrw] at h; cases h
                  | some y =>
                    rw [RW_noRO hrw (n + 1) iQ]
                    simp only [Bool.false_eq_true, if_false]
                    rw [iRW _ _ _ _ hrw]
                    rw [hrw] at h
                    exact iO _ _ _ _ _ h
            | _ => rw [hfa] at h; cases h
          all_goals
            simp only at h ⊢
            split at h
            · rename_i d' st' he
              try rw [he]
              exact iO _ _ _ _ _ h
            · cases h
    · cases l with
      | nil => simpa [runDr] using h
      | cons o l =>
        rw [runDr] at h ⊢
        have hD : ∀ (ρ' : Nat → D) (st' : Store) (fl : Fl) , (match runDr Γ n l ρ' st' with | some (a, b, c) => some (a, b, fl :: c) | none => none) = some r → (match runDr Γ (n + 1) l ρ' st' with | some (a, b, c) => some (a, b, fl :: c) | none => none) = some r := fun ρ' st' fl h => by
          cases hr : runDr Γ n l ρ' st' with
          | none => rw [hr] at h; cases h
          | some y => rw [iD _ _ _ _ hr]; rw [hr] at h; exact h
        split at h
        · cases h
        · exact hD _ _ _ h
        · rename_i hgx
          clear hgx
          obtain ⟨dst, gd, mv, op⟩ := o
          simp only at h ⊢
          cases op
          case call fa args =>
            simp only at h ⊢
            cases hfa : fa.ev ρ with
            | func f caps =>
              rw [hfa] at h
              simp only at h ⊢
              by_cases ha : ((args.map (·.ev ρ) ++ caps).map D.strip).all D.freeA = true
              · rw [if_pos ha] at h ⊢
                cases hp : callP Γ n f ((args.map (·.ev ρ) ++ caps).map D.strip) with
                | none =>
                  rw [hp] at h
                  simp only at h
                  cases hrw : callRW Γ n f (args.map (·.ev ρ) ++ caps) st with
                  | none => rw [hrw] at h; cases h
                  | some y =>
                    rw [RW_noP hrw ha (n + 1)]
                    simp only
                    rw [iRW _ _ _ _ hrw]
                    rw [hrw] at h
                    exact hD _ _ _ h
                | some r1 =>
                  rw [iP _ _ _ hp]
                  rw [hp] at h
                  simp only at h ⊢
                  by_cases hf : hasFresh r1 = true
                  · rw [if_pos hf] at h ⊢
                    by_cases hw : (mv && (r1.free && !isRow r1)) = true
                    · rw [if_pos hw] at h ⊢
                      exact hD _ _ _ h
                    · rw [if_neg hw] at h; cases h
                  · rw [if_neg hf] at h ⊢
                    by_cases hw : (mv && isRow r1) = true
                    · rw [if_pos hw] at h ⊢
                      exact hD _ _ _ h
                    · rw [if_neg hw] at h ⊢
                      exact hD _ _ _ h
              · rw [if_neg ha] at h ⊢
                by_cases hmv : mv = true
                · rw [if_pos hmv] at h ⊢
                  cases hcut : cutOf (args.map (·.ev ρ) ++ caps) with
                  | none =>
                    rw [hcut] at h
                    simp only at h ⊢
                    cases hcn : cutNo (args.map (·.ev ρ) ++ caps) with
                    | none => rw [hcn] at h; cases h
                    | some y =>
                      obtain ⟨p, ps⟩ := y
                      rw [hcn] at h
                      simp only at h ⊢
                      cases hp : callRW Γ n f (args.map (·.ev ρ) ++ caps) (cutR st p ps) with
                      | none => rw [hp] at h; cases h
                      | some y =>
                        obtain ⟨r1, C1⟩ := y
                        rw [iRW _ _ _ _ hp]
                        rw [hp] at h
                        simp only at h ⊢
                        by_cases hf : okRes0 r1 = true
                        · rw [if_pos hf] at h ⊢
                          exact hD _ _ _ h
                        · rw [if_neg hf] at h; cases h
                  | some y =>
                    obtain ⟨p, ps⟩ := y
                    rw [hcut] at h
                    simp only at h ⊢
                    by_cases hro : roF Γ f = true
                    · rw [if_pos hro] at h
                      rw [if_pos hro]
                      by_cases hc : ((((args.map (·.ev ρ) ++ caps).map (seen st)).all D.freeA && okFrz st (args.map (·.ev ρ) ++ caps)) = true)
                      · rw [if_pos hc] at h ⊢
                        cases hp : callP Γ n f ((args.map (·.ev ρ) ++ caps).map (seen st)) with
                        | none => rw [hp] at h; cases h
                        | some r1 =>
                          rw [iP _ _ _ hp]
                          rw [hp] at h
                          simp only at h ⊢
                          by_cases hf : (r1.free && !isRow r1) = true
                          · rw [if_pos hf] at h ⊢
                            exact hD _ _ _ h
                          · rw [if_neg hf] at h; cases h
                      · rw [if_neg hc] at h; cases h
                    · rw [if_neg hro] at h
                      by_cases hc : okCut st p ps = true
                      · rw [if_pos hc] at h
                        cases hp : callRW Γ n f (args.map (·.ev ρ) ++ caps) (cutS st p ps) with
                        | none => rw [hp] at h; cases h
                        | some y =>
                          obtain ⟨r1, C1⟩ := y
                          rw [if_neg hro, if_pos hc, iRW _ _ _ _ hp]
                          rw [hp] at h
                          simp only at h ⊢
                          by_cases hf : okRes r1 p = true
                          · rw [if_pos hf] at h ⊢
                            exact hD _ _ _ h
                          · rw [if_neg hf] at h; cases h
                      · rw [if_neg hc] at h; cases h
                rw [if_neg hmv] at h ⊢
                cases hro : callRO Γ n f (args.map (·.ev ρ) ++ caps) st with
                | some r1 =>
                  rw [iRO _ _ _ _ hro]
                  rw [hro] at h
                  simp only at h ⊢
                  by_cases hf : hasFresh r1 = true
                  · rw [if_pos hf] at h; cases h
                  · rw [if_neg hf] at h ⊢
                    exact hD _ _ _ h
                | none =>
                  rw [hro] at h
                  simp only at h
                  cases hrw : callRW Γ n f (args.map (·.ev ρ) ++ caps) st with
                  | none => rw [hrw] at h; cases h
                  | some y =>
                    rw [RW_noRO hrw (n + 1) iQ]
                    simp only
                    rw [iRW _ _ _ _ hrw]
                    rw [hrw] at h
                    exact hD _ _ _ h
            | _ => rw [hfa] at h; cases h
          all_goals
            simp only at h ⊢
            split at h
            · rename_i d' st' a b he
              try rw [he]
              exact hD _ _ _ h
            · cases h
    · rw [runC.eq_def] at h ⊢
      simp only at h ⊢
      cases c with
      | skip | exit | ret | goto | bad => exact h
      | ops d l =>
        simp only at h ⊢
        cases hr : runOps Γ n d l ρ st with
        | none => rw [hr] at h; cases h
        | some y => rw [iO _ _ _ _ _ hr]; rw [hr] at h; exact h
      | draw bef l =>
        simp only at h ⊢
        cases hr : runDr Γ n l ρ st with
        | none => rw [hr] at h; cases h
        | some y => rw [iD _ _ _ _ hr]; rw [hr] at h; exact h
      | drawA bef l =>
        simp only at h ⊢
        cases hr : runDr Γ n (hoist st.next l) ρ (st.ahead l) with
        | none => rw [hr] at h; cases h
        | some y => rw [iD _ _ _ _ hr]; rw [hr] at h; exact h
      | seq a b =>
        simp only at h ⊢
        cases hr : runC Γ n a ρ st with
        | none => rw [hr] at h; cases h
        | some y =>
          rw [iC _ _ _ _ hr]
          rw [hr] at h
          obtain ⟨x, ρ1, st1⟩ := y
          cases x with
          | normal => exact iC _ _ _ _ h
          | _ => exact h
      | cond x a b =>
        simp only at h ⊢
        split at h
        · exact iC _ _ _ _ h
        · cases h
      | block id b =>
        simp only at h ⊢
        cases hr : runC Γ n b ρ st with
        | none => rw [hr] at h; cases h
        | some y => rw [iC _ _ _ _ hr]; rw [hr] at h; exact h
      | loop b =>
        simp only at h ⊢
        cases hr : runC Γ n b ρ st with
        | none => rw [hr] at h; cases h
        | some y =>
          rw [iC _ _ _ _ hr]
          rw [hr] at h
          obtain ⟨x, ρ1, st1⟩ := y
          cases x with
          | normal => exact iC _ _ _ _ h
          | _ => exact h
      | scope c l rest =>
        simp only at h ⊢
        cases hr : runC Γ n c ρ st with
        | none => rw [hr] at h; cases h
        | some y =>
          rw [iC _ _ _ _ hr]
          rw [hr] at h
          obtain ⟨x, ρ1, st1⟩ := y
          cases x with
          | goto l' =>
            simp only at h ⊢
            split at h
            · rename_i hl
              rw [if_pos hl]
              exact iC _ _ _ _ h
            · cases h
          | _ => exact h
      | again l rest =>
        simp only at h ⊢
        cases hr : runC Γ n rest ρ st with
        | none => rw [hr] at h; cases h
        | some y =>
          rw [iC _ _ _ _ hr]
          rw [hr] at h
          obtain ⟨x, ρ1, st1⟩ := y
          cases x with
          | goto l' =>
            simp only at h ⊢
            split at h
            · rename_i hl
              rw [if_pos hl]
              exact iC _ _ _ _ h
            · cases h
          | _ => exact h
theorem EvP_of_run {N f : Nat} {ds : List D} {r : D} (h : callP Γ N f ds = some r) : EvP Γ f ds r := by
  refine ⟨N, fun n hn => ?_⟩
  induction n with
  | zero => rw [Nat.le_zero.mp hn] at h; exact h
  | succ n ih =>
    rcases Nat.lt_or_eq_of_le hn with hlt | rfl
    · exact (mono n).1 _ _ _ (ih (by omega))
    · exact h
end Go.Ev
