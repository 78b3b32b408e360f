/-
  Rules to run the evaluator's code by hand: labels.
-/
import Derived.Test.YtklegmbpppegaaaEvEvX8
set_option linter.unusedVariables false
set_option linter.unusedSimpArgs false
set_option linter.unnecessarySimpa false
namespace Go.Ev
set_option linter.unusedVariables false
set_option linter.unusedSimpArgs false
section
variable {Γ : Nat → Option FD} {ρ : Nat → D} {st : Store} {Q : X → (Nat → D) → Store → Prop}
end
theorem appendR_cap {sz bytes : Nat} {st st' : Store} {p off n c : Nat} {y d : D} (h : appendR sz bytes (.rs p off sz n c) y st = some (d, st')) : ∃ p' o' n' c', d = .rs p' o' sz n' c' ∧ n' ≤ c' := by
  simp only [appendR] at h
  obtain ⟨⟨ys, m⟩, h1, h2⟩ := Option.bind_eq_some_iff.1 h
  simp only at h2
  split at h2 <;> try contradiction
  split at h2 <;> try contradiction
  split at h2
  · rename_i hc
    simp only [Option.some.injEq, Prod.mk.injEq] at h2
    exact ⟨_, _, _, _, h2.1.symm, hc.1⟩
  · split at h2 <;> try contradiction
    simp only [Option.some.injEq, Prod.mk.injEq] at h2
    exact ⟨_, _, _, _, h2.1.symm, Nat.le_refl _⟩
/-- What comes of a call that may write. -/
def EvRWX (Γ : Nat → Option FD) (f : Nat) (ds : List D) (st : Store) (P : D → Store → Prop) : Prop := ∃ r st', P r st' ∧ EvRW Γ f ds st r st'
theorem EvRWX_code {Γ : Nat → Option FD} {st : Store} {f : Nat} {cf : CF} {ds : List D} {P : D → Store → Prop} (hf : Γ f = some (.code cf)) (hro : cf.ro = false)
    (h : WC Γ cf.body (enter (ds.map D.strip)) st (fun x ρ1 st1 => (x = .normal ∨ x = .ret) ∧ ∃ r, resAll ρ1 st1 cf.res = some r ∧ P r.strip st1)) : EvRWX Γ f ds st P := by
  obtain ⟨x, ρ1, st1, h1, h2, r, h3, h4⟩ := h
  exact ⟨r.strip, st1, h4, EvRW_code hf hro ⟨x, ρ1, st1, h1, h2, by rw [h3]; rfl⟩⟩
theorem EvRWX.mono {Γ : Nat → Option FD} {st : Store} {f : Nat} {ds : List D} {P P' : D → Store → Prop} (h : EvRWX Γ f ds st P) (hp : ∀ r st', P r st' → P' r st') : EvRWX Γ f ds st P' := by
  obtain ⟨r, st', h1, h2⟩ := h
  exact ⟨r, st', hp _ _ h1, h2⟩
section
variable {Γ : Nat → Option FD} {ρ : Nat → D} {st : Store} {dr : Bool} {R : (Nat → D) → Store → List Fl → Prop} {l : List Op1} {g : Option (Nat × Bool)} {mv : Bool} {k : Nat} {x : A}
theorem W_callRWX {P : D → Store → Prop} {f : A} {as : List A} {fn : Nat} {caps : List D} (hg : guardV ρ g = some true) (hf : f.ev ρ = .func fn caps) (ha : ((as.map (·.ev ρ) ++ caps).map D.strip).all D.freeA = false) (hr : EvRWX Γ fn (as.map (·.ev ρ) ++ caps) st P)
    (h : ∀ r st1, P r st1 → WS Γ dr l (upd ρ k r) st1 (nx .f R)) : WS Γ dr (⟨some k, g, mv, .call f as⟩ :: l) ρ st R := by
  obtain ⟨r, st1, h1, h2⟩ := hr
  exact W_callRW hg hf ha h2 (h r st1 h1)
theorem W_lenS0 {t : Tok} {s : Nat} (hg : guardV ρ g = some true) (hx : x.ev ρ = .slice t s []) (hm : mv = false) (h : WS Γ dr l (upd ρ k (.int .i64 0)) st (nx .n R)) : WS Γ dr (⟨some k, g, mv, .lenS x⟩ :: l) ρ st R := by
  subst hm
  exact WS_op (d := .int .i64 0) hg rfl (by simp [O.runM, O.run, hx]) h
/-- .. that is handed no box. -/
theorem W_callRWX0 {P : D → Store → Prop} {f : A} {as : List A} {fn : Nat} {caps : List D} (hg : guardV ρ g = some true) (hf : f.ev ρ = .func fn caps) (hr : EvRWX Γ fn (as.map (·.ev ρ) ++ caps) st P)
    (h : ∀ r st1, P r st1 → WS Γ dr l (upd ρ k r) st1 (nx .f R)) : WS Γ dr (⟨some k, g, mv, .call f as⟩ :: l) ρ st R := by
  obtain ⟨r, st1, h1, h2⟩ := hr
  exact WS_callRW hg rfl hf h2 (h r st1 h1)
/-- append, upon a row; it has room for what it holds. -/
theorem W_appRow2 {y : A} {p sz n c bytes : Nat} {t : Tok} {s : Nat} {xs ys : List D} (hg : guardV ρ g = some true) (hx : x.ev ρ = .rs p 0 sz n c) (hy : y.ev ρ = .slice t s ys) (hR : RowIs st p sz xs) (hn : n = xs.length) (hs : s = sz ∨ ys = []) (hxs : ∀ d ∈ xs, d.cells.length = sz) (hys : ∀ d ∈ ys, Elem sz d) (hb : (n + ys.length) * bytes ≤ 140737488355328)
    (h : ∀ p' c' st', st'.lim = st.lim → st'.tlim = st.tlim → st'.toks = st.toks → st'.ntok = st.ntok → RowIs st' p' sz (xs ++ ys) → (∀ q, q ≠ p → q < st.next → st'.boxes q = st.boxes q) → st.next ≤ st'.next → (p' = p ∨ st.next ≤ p') → n + ys.length ≤ c' → WS Γ dr l (upd ρ k (.rs p' 0 sz (n + ys.length) c')) st' (nx .f R)) : WS Γ dr (⟨some k, g, mv, .append sz bytes x y⟩ :: l) ρ st R := by
  obtain ⟨p', c', st', h1, h2, h3, h4, h5, h6, h7, h8, h9⟩ := RowIs.app (t := t) (c := c) hR hn hs hxs hys hb
  obtain ⟨_, _, _, _, he, hle⟩ := appendR_cap h1
  cases he
  refine WS_op hg rfl ?_ (h p' c' st' h2 h3 h4 h5 h6 h7 h8 h9 hle) ?_
  · cases mv <;> simp only [O.runM, O.run, hx, hy, appendN, appendD, h1]
  · cases mv <;> simp [O.acc, hx, hy]
theorem W_loadM {cs : List D} {p off sz : Nat} {agg : Bool} {d : D} (hg : guardV ρ g = some true) (hx : x.ev ρ = .ptr p off) (hb : (st.boxes p).bind Box.cs = some cs) (hl : st.lim ≤ p) (hc : cut agg sz off cs = some d) (h : WS Γ dr l (upd ρ k d) st (nx (.r p) R)) : WS Γ dr (⟨some k, g, mv, .load agg sz x⟩ :: l) ρ st R := by
  refine WS_op (d := d) hg rfl ?_ h
  cases mv <;> simp [O.runM, O.run, hx, Store.cellsAt, hb, Nat.not_lt.mpr hl, hc]
end
end Go.Ev
