/-
  Rules for maps of numbers.
-/
import Derived.Test.YtjcilbnbciclpaaEvEvX9
set_option linter.unusedVariables false
set_option linter.unusedSimpArgs false
set_option linter.unnecessarySimpa false
namespace Go.Ev
section
variable {Γ : Nat → Option FD} {ρ : Nat → D} {st : Store} {dr : Bool} {R : (Nat → D) → Store → List Fl → Prop} {l : List Op1} {g : Option (Nat × Bool)} {mv : Bool} {k : Nat} {x y z c a b i : A}
theorem W_mkmap (hg : guardV ρ g = some true) (hm : mv = false) (h : WS Γ dr l (upd ρ k (.map st.next)) { st with boxes := upd st.boxes st.next (some (.map [])), next := st.next + 1 } (nx .f R)) : WS Γ dr (⟨some k, g, mv, .mkmap⟩ :: l) ρ st R := by
  subst hm
  exact WS_op hg rfl rfl h
theorem W_lookup {zero : D} {p : Nat} {kv : List (Int × D)} {n : Int} {r : D} (hg : guardV ρ g = some true) (hx : x.ev ρ = .map p) (hy : y.ev ρ = .int .i64 n) (hb : st.boxes p = some (.map kv)) (hr : (kvGet n kv).getD zero = r) (hm : mv = false)
    (h : WS Γ dr l (upd ρ k r) st (nx (.r p) R)) : WS Γ dr (⟨some k, g, mv, .lookup zero false x y⟩ :: l) ρ st R := by
  subst hm
  refine WS_op (d := r) hg rfl ?_ h (by simp [O.acc, hx])
  simp only [O.runM, O.run, hx, hy, hb]
  cases h1 : kvGet n kv with
  | none => rw [h1] at hr; simpa using hr
  | some d => rw [h1] at hr; simpa using hr
theorem W_lookupT {zero : D} {p : Nat} {kv : List (Int × D)} {n : Int} {v : D} {t : Bool} (hg : guardV ρ g = some true) (hx : x.ev ρ = .map p) (hy : y.ev ρ = .int .i64 n) (hb : st.boxes p = some (.map kv)) (hr : (kvGet n kv).getD zero = v) (ht : (kvGet n kv).isSome = t) (hm : mv = false)
    (h : WS Γ dr l (upd ρ k (.tuple [v, .bool t])) st (nx (.r p) R)) : WS Γ dr (⟨some k, g, mv, .lookup zero true x y⟩ :: l) ρ st R := by
  subst hm
  refine WS_op (d := .tuple [v, .bool t]) hg rfl ?_ h (by simp [O.acc, hx])
  subst hr ht
  simp only [O.runM, O.run, hx, hy, hb]
  cases h1 : kvGet n kv <;> simp
theorem W_mapset {p sz : Nat} {kv : List (Int × D)} {n : Int} {v : D} (hg : guardV ρ g = some true) (hx : x.ev ρ = .map p) (hy : y.ev ρ = .int .i64 n) (hb : st.boxes p = some (.map kv)) (hl : st.lim ≤ p) (hz : (z.ev ρ).strip = v) (hm : mv = false)
    (h : WS Γ dr l ρ { st with boxes := upd st.boxes p (some (.map (kvSet n v kv))) } (nx .f R)) : WS Γ dr (⟨none, g, mv, .mapset sz x y z⟩ :: l) ρ st R := by
  subst hm
  refine WS_op (d := .undef) hg rfl ?_ h
  simp only [O.runM, O.run, hx, hy, Nat.not_lt.mpr hl, if_false, hb, hz]
end
theorem kvGet_set (n m : Int) (v : D) : ∀ kv : List (Int × D), kvGet m (kvSet n v kv) = if m = n then some v else kvGet m kv
  | [] => by
    simp only [kvSet, kvGet]
    by_cases h : m = n
    · rw [if_pos h.symm, if_pos h]
    · rw [if_neg (fun e => h e.symm), if_neg h]
  | (k, d) :: r => by
    simp only [kvSet]
    by_cases hk : k = n
    · rw [if_pos hk]
      simp only [kvGet]
      by_cases h : m = n
      · rw [if_pos h.symm, if_pos h]
      · rw [if_neg (fun e => h e.symm), if_neg h, if_neg (fun e => h (e.symm.trans hk))]
    · rw [if_neg hk]
      simp only [kvGet]
      rw [kvGet_set n m v r]
      by_cases h : k = m
      · rw [if_pos h, if_neg (fun e => hk (h.trans e)), if_pos h]
      · rw [if_neg h, if_neg h]
end Go.Ev
