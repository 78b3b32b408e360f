/-
  A row that is handed over for good, to one that reads it and hands back a row; the first ones of a row, without room.
-/
import Derived.Test.YtklegmbpppegaaaEvEvX10
set_option linter.unusedVariables false
set_option linter.unusedSimpArgs false
set_option linter.unnecessarySimpa false
namespace Go.Ev
set_option linter.unusedVariables false
set_option linter.unusedSimpArgs false
variable {Γ : Nat → Option FD} {ρ : Nat → D} {st : Store} {dr : Bool} {R : (Nat → D) → Store → List Fl → Prop} {l : List Op1} {g : Option (Nat × Bool)} {mv : Bool} {k : Nat} {x y i : A}
theorem EvRW_frz {f : Nat} {cf : CF} {ds : List D} {r : D} (hf : Γ f = some (.code cf)) (hro : cf.ro = true) (ha : (ds.map D.strip).all D.freeA = false) (hs : (ds.map D.strip).all D.seeable = true) (hs2 : (ds.map (seen st)).all D.freeA = true) (ho : okFrz st ds = true) (h : EvP Γ f (ds.map (seen st)) r) (hr : r.apart = false) : EvRW Γ f ds st (absorb true r (frz ds st)).1 (absorb true r (frz ds st)).2 :=
  h.one fun n p => ⟨by simp only [callRO, ha, hs, hs2, Bool.false_eq_true, if_false, if_true, p, hr], by simp only [callRW, hf, hro, ha, hs, hs2, ho, Bool.and_self, Bool.false_eq_true, if_false, if_true, p, hr]⟩
/-- A call that is handed a row for good, and hands back a row. -/
theorem W_callFz {α : Type} {e : α → D} {f : A} {as : List A} {fn sz q n c : Nat} {cf : CF} {caps ds : List D} {xs ys : List α} (hg : guardV ρ g = some true) (hf : f.ev ρ = .func fn caps) (ha : as.map (·.ev ρ) ++ caps = .rs q 0 sz n c :: ds) (hR : RowIs st q sz (xs.map e)) (hn : n = xs.length) (hz : 0 < sz) (he : ∀ a, (e a).cells.length = sz ∧ mkD (e a).cells = e a) (hd : ds.map (seen st) = ds.map D.strip) (hdr : frz ds { st with boxes := upd st.boxes q none } = { st with boxes := upd st.boxes q none }) (hfr : (ds.map D.strip).all D.freeA = true) (hof : okFrz st ds = true) (hΓ : Γ fn = some (.code cf)) (hro : cf.ro = true)
    (hr : EvX Γ fn (.slice .no sz (xs.map e) :: ds.map D.strip) (fun r => r = .slice .row sz (ys.map e))) (hap : (D.slice .row sz (ys.map e)).apart = false) (hl : st.lim ≤ st.next) (hel : ∀ a, Elem sz (e a))
    (h : ∀ st', st'.lim = st.lim → st'.tlim = st.tlim → st'.toks = st.toks → st'.ntok = st.ntok → RowIs st' st.next sz (ys.map e) → (∀ p, p ≠ q → p < st.next → st'.boxes p = st.boxes p) → st'.next = st.next + 1 → WS Γ dr l (upd ρ k (.rs st.next 0 sz ys.length ys.length)) st' (nx .f R)) : WS Γ dr (⟨some k, g, mv, .call f as⟩ :: l) ρ st R := by
  obtain ⟨r, rfl, hr⟩ := hr
  have hs := seen_row (c := c) hR.at hn hz he
  have h0 : ((D.rs q 0 sz n c :: ds).map D.strip).all D.freeA = false := rfl
  have key : EvRW Γ fn (as.map (·.ev ρ) ++ caps) st (.rs st.next 0 sz ys.length ys.length) { st with boxes := upd (upd st.boxes q none) st.next (some (.row ((ys.map e).flatMap D.cells))), next := st.next + 1 } := by
    rw [ha]
    have h1 := EvRW_frz (ds := .rs q 0 sz n c :: ds) (st := st) hΓ hro h0 (by
      simp only [List.map_cons, List.all_cons, Bool.and_eq_true]
      exact ⟨rfl, List.all_eq_true.mpr fun d hd => freeA_seeable (List.all_eq_true.mp hfr d hd)⟩) (by
      rw [List.map_cons, hs, hd, List.all_cons, hfr]
      rfl) (by
      simp only [okFrz, List.all_cons, Bool.and_eq_true]
      exact ⟨decide_eq_true hR.1, hof⟩) (by
      rw [List.map_cons, hs, hd]
      exact hr) hap
    have hab : absorb true (.slice .row sz (ys.map e)) (frz (.rs q 0 sz n c :: ds) st) = (.rs st.next 0 sz ys.length ys.length, { st with boxes := upd (upd st.boxes q none) st.next (some (.row ((ys.map e).flatMap D.cells))), next := st.next + 1 }) := by
      rw [show frz (.rs q 0 sz n c :: ds) st = { st with boxes := upd st.boxes q none } from hdr]
      have e1 : absorb true (.slice .row sz (ys.map e)) { st with boxes := upd st.boxes q none } = (.rs st.next 0 sz (ys.map e).length (ys.map e).length, { st with boxes := upd (upd st.boxes q none) st.next (some (.row ((ys.map e).flatMap D.cells))), next := st.next + 1 }) := rfl
      rw [List.length_map] at e1
      exact e1
    rw [hab] at h1
    exact h1
  have hq := hR.2.1
  refine WS_callRW hg rfl hf key (h _ rfl rfl rfl rfl ?_ (fun p hp hp2 => ?_) rfl)
  · have := rowIs_new (st := { st with boxes := upd st.boxes q none }) (sz := sz) (xs := ys.map e) (fun d hd => by
      obtain ⟨a, _, rfl⟩ := List.mem_map.mp hd
      exact hel a) hl
    exact this
  · show upd (upd st.boxes q none) st.next _ p = _
    rw [upd_ne _ _ (by omega), upd_ne _ _ hp]
/-- What a call hands back that is no row, in a region whose order is drawn. -/
theorem W_callMD0 {f : A} {as : List A} {fn : Nat} {caps : List D} {r : D} (hg : guardV ρ g = some true) (hf : f.ev ρ = .func fn caps) (ha : ((as.map (·.ev ρ) ++ caps).map D.strip).all D.freeA = true) (hr : EvP Γ fn ((as.map (·.ev ρ) ++ caps).map D.strip) r)
    (hs : r.still = true) (hf0 : hasFresh r = false) (hw : isRow r = false) (h : WS Γ true l (upd ρ k r) st (nx .n R)) : WS Γ true (⟨some k, g, mv, .call f as⟩ :: l) ρ st R :=
  WS_callPN hg rfl hf ha hr hf0 hw (absorb_still hs) h
theorem W_sliceRHM {p off sz n c j j2 : Nat} {i2 : A} (hg : guardV ρ g = some true) (hx : x.ev ρ = .rs p off sz n c) (hi : asNat (i.ev ρ) = some j) (hi2 : asNat (i2.ev ρ) = some j2) (hj : j ≤ j2) (hj2 : j2 ≤ c) (hm : mv = false)
    (h : WS Γ dr l (upd ρ k (.rs p off sz j j2)) st (nx .n R)) : WS Γ dr (⟨some k, g, mv, .slice sz x none (some i) (some i2)⟩ :: l) ρ st R :=
  W_q hg rfl (by simp [O.run, hx, sliceD, hi, hi2, hj, hj2]) hm h
theorem RowIs.take {p sz : Nat} {xs : List D} (h : RowIs st p sz xs) (hxs : ∀ d ∈ xs, d.cells.length = sz) (j : Nat) : RowIs st p sz (xs.take j) := by
  obtain ⟨h1, h2, cs, h3, h4, h5, h6⟩ := h
  have hl : (xs.take j).length ≤ xs.length := by rw [List.length_take]; exact Nat.min_le_right _ _
  have hl2 : (xs.take j).length * sz ≤ xs.length * sz := Nat.mul_le_mul_right _ hl
  refine ⟨h1, h2, cs, h3, Nat.le_trans hl2 h4, ?_, h6⟩
  have e1 : cs.take ((xs.take j).length * sz) = (cs.take (xs.length * sz)).take ((xs.take j).length * sz) := by
    rw [List.take_take, Nat.min_eq_left hl2]
  rw [e1, h5]
  have e2 : xs.flatMap D.cells = (xs.take j).flatMap D.cells ++ (xs.drop j).flatMap D.cells := by
    rw [← List.flatMap_append, List.take_append_drop]
  have e3 := flatMap_len (sz := sz) (xs := xs.take j) (fun d hd => hxs d (List.mem_of_mem_take hd))
  rw [e2, ← e3, List.take_left']
  rfl
end Go.Ev
