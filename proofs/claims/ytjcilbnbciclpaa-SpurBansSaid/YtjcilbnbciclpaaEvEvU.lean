/-
  The evaluator is right: operations, regions, code, calls.
-/
import Derived.Test.YtjcilbnbciclpaaEvEvR
import Derived.Deep.Quiet
set_option linter.unusedVariables false
set_option linter.unusedSimpArgs false
set_option linter.unnecessarySimpa false
namespace Go.Ev
open Go.RowKit
section
variable {P : Program} {B : Nat} {w w' w1 : World} {g g' g1 : Ghost} {ρ ρ' : Nat → D} {st st' st1 : Store} {a : Act} {d : D} {o : Oper} {x : O}
theorem bindQ {α : Type} {m : Option α} {f : α → Option O} (h : ∀ a, f a = some x → x.quiet = true) : m.bind f = some x → x.quiet = true := fun e => by
  obtain ⟨a, _, h2⟩ := Option.bind_eq_some_iff.1 e
  exact h a h2
theorem mapQ {α : Type} {m : Option α} {f : α → O} (h : ∀ a, (f a).quiet = true) : m.map f = some x → x.quiet = true := fun e => by
  obtain ⟨a, _, h2⟩ := Option.map_eq_some_iff.1 e
  rw [← h2]
  exact h a
def loud : Op → Bool
  | .alloc _ | .box .. | .buildSlice .. | .store .. | .makeMap .. | .mapUpdate .. | .insert .. | .range .. | .next .. | .entry .. => true
  | .call c => (match c.callee with | .builtin .append | .builtin .clear => true | _ => false)
  | _ => false
theorem compB_quiet {b : Builtin} {args : List Operand} {tys : List TypeId} (h1 : b ≠ .append) (h2 : b ≠ .clear) : compB P b args tys = some x → x.quiet = true := by
  cases b <;> (try (exact absurd rfl h1)) <;> (try (exact absurd rfl h2)) <;> simp only [compB, compLen, compCap, Option.bind_eq_bind] <;>
    repeat' first
      | (intro h; cases h; done)
      | (intro h; cases h; rfl)
      | (apply bindQ; intro _)
      | (apply mapQ; intro _; rfl)
      | split
theorem compOp_quiet {op : Op} (hn : loud op = false) : compOp P op = some x → x.quiet = true := by
  by_cases hb : ∃ c b, op = .call c ∧ c.callee = .builtin b
  · obtain ⟨c, b, rfl, hcb⟩ := hb
    simp only [compOp, hcb]
    refine compB_quiet (fun e => ?_) (fun e => ?_) <;> (subst e; simp [loud, hcb] at hn)
  cases op <;> (try (simp [loud] at hn; done)) <;> simp only [compOp, Option.bind_eq_bind] <;>
    repeat' first
      | (intro h; cases h; done)
      | (intro h; cases h; rfl)
      | (apply bindQ; intro _)
      | (apply mapQ; intro _; rfl)
      | (simp [loud] at hn; done)
      | (exact absurd ⟨_, _, rfl, by assumption⟩ hb)
      | (simp_all [loud]; done)
      | split
theorem good_of_QG {s : Sem Next} (h : QG P w g st s d) (hrel : Rel B w g st) : Good P B w g st s d st := by
  obtain ⟨v, h1, h2⟩ := h
  exact ⟨.value v, v, w, g, h2 w (.refl _ _ _), .inl rfl, h1, .refl hrel⟩
def O.isAppend : O → Bool
  | .append _ _ _ _ => true
  | _ => false
theorem bindM {α : Type} {m : Option α} {f : α → Option O} (h : ∀ a, f a = some x → x.isAppend = false) : m.bind f = some x → x.isAppend = false := fun e => by
  obtain ⟨a, _, h2⟩ := Option.bind_eq_some_iff.1 e
  exact h a h2
theorem mapM_ {α : Type} {m : Option α} {f : α → O} (h : ∀ a, (f a).isAppend = false) : m.map f = some x → x.isAppend = false := fun e => by
  obtain ⟨a, _, h2⟩ := Option.map_eq_some_iff.1 e
  rw [← h2]
  exact h a
def isCallOp : Op → Bool
  | .call _ => true
  | _ => false
theorem compOp_napp {op : Op} (hn : isCallOp op = false) : compOp P op = some x → x.isAppend = false := by
  cases op <;> (try (simp [isCallOp] at hn; done)) <;> simp only [compOp, Option.bind_eq_bind] <;>
    repeat' first
      | (intro h; cases h; done)
      | (intro h; cases h; rfl)
      | (apply bindM; intro _)
      | (apply mapM_; intro _; rfl)
      | (simp_all; done)
      | split
theorem nap {op : Op} (ho : o.op = op) (hc : compOp P o.op = some x) (hn : isCallOp op = false) : ∀ sz by_ y z, x ≠ .append sz by_ y z := fun sz by_ y z e => by
  rw [ho] at hc
  have := compOp_napp hn hc
  subst e
  simp [O.isAppend] at this
theorem op_good {mv : Bool} (hncall : ∀ f as, x ≠ .call f as) (hc : compOp P o.op = some x) (hr : x.runM mv ρ st = some (d, st')) (he : EnvR w g ρ a.tmps) (hrel : Rel B w g st) : Good P B w g st (execOp a.eval o) d st' := by
  have hnm : (∀ sz by_ y z, x ≠ .append sz by_ y z) → x.run ρ st = some (d, st') := fun h => by
    unfold O.runM at hr
    split at hr
    · exact absurd rfl (h _ _ _ _)
    · exact hr
  by_cases hl : loud o.op = false
  · have hq := compOp_quiet hl hc
    have hr := hnm (fun sz by_ y z e => by subst e; simp [O.quiet] at hq)
    obtain ⟨h1, h2⟩ := quiet_ok (compOp_quiet hl hc) hncall hc hr he hrel
    subst h1
    exact good_of_QG h2 hrel
  · cases hop : o.op with
    | alloc t => exact w_alloc hop hc (hnm (nap hop hc rfl)) hrel
    | box t y => exact w_box hop hc (hnm (nap hop hc rfl)) he hrel
    | buildSlice t n ps => exact w_bslice hop hc (hnm (nap hop hc rfl)) he hrel
    | store t y z => exact w_store hop hc (hnm (nap hop hc rfl)) he hrel
    | makeMap t r => exact w_mkmap hop hc (hnm (nap hop hc rfl)) hrel
    | mapUpdate t m k v => exact w_mapset (.inl hop) hc (hnm (nap hop hc rfl)) he hrel
    | insert t m k v => exact w_mapset (.inr hop) hc (hnm (nap hop hc rfl)) he hrel
    | range t y => exfalso; have hr := hnm (nap hop hc rfl); rw [hop] at hc; obtain ⟨_, _, rfl⟩ := comp_range hc; simp [O.run] at hr
    | next y b => exfalso; have hr := hnm (nap hop hc rfl); rw [hop] at hc; obtain ⟨_, _, rfl, _⟩ := comp_next hc; simp [O.run] at hr
    | entry y => exfalso; have hr := hnm (nap hop hc rfl); rw [hop] at hc; obtain ⟨_, _, rfl⟩ := comp_entry hc; simp [O.run] at hr
    | call c =>
      by_cases hcl : c.callee = .builtin .clear
      · exact w_clear hop hcl hc (hnm (fun sz by_ y z e => by
          subst e
          rw [hop] at hc
          simp only [compOp, hcl, compB, compClear, Option.bind_eq_bind] at hc
          split at hc <;> try contradiction
          split at hc <;> try contradiction
          simp only [Option.bind_eq_some_iff, Option.some.injEq] at hc
          obtain ⟨_, _, _, _, h⟩ := hc
          cases h)) he hrel
      · refine w_append hop ?_ hc hr he hrel
        rw [hop] at hl
        simp only [loud] at hl
        split at hl
        · assumption
        · exact absurd (by assumption) hcl
        · simp at hl
    | _ => rw [hop] at hl; simp [loud] at hl
/-! ### Frames -/
theorem EnvR.put (he : EnvR w g ρ a.tmps) {v : Value} (hv : VR w g d v) {dst : Option Nat} {nt : Nat} (hs : nt ≤ a.tmps.size) (hd : dst.any (fun d => decide (nt ≤ d)) = false) : EnvR w g (updO ρ dst d) (a.put dst v).tmps := by
  intro t
  cases dst with
  | none => exact he t
  | some k =>
    simp only [Option.any_some, decide_eq_false_iff_not, Nat.not_le] at hd
    by_cases e : t = k
    · subst e
      simp only [updO, upd_same, Act.put]
      simpa [Array.getD, show t < a.tmps.size by omega] using hv
    · simp only [updO, upd_ne _ _ e, Act.put]
      have : (a.tmps.setIfInBounds k v).getD t Go.undef = a.tmps.getD t Go.undef := by
        simp [Array.getElem?_setIfInBounds, Ne.symm e]
      rw [this]
      exact he t
theorem EnvR.mono (e : Ext B w g w' g') {T : Array Value} (h : EnvR w g ρ T) : EnvR w' g' ρ T := fun t => (h t).mono e
theorem put_size (a : Act) (dst : Option Nat) (v : Value) : (a.put dst v).tmps.size = a.tmps.size := by cases dst <;> simp [Act.put]
theorem put_defers (a : Act) (dst : Option Nat) (v : Value) : (a.put dst v).defers = a.defers := by cases dst <;> rfl
theorem VRs.strip {ds : List D} {vs : List Value} (h : VRs w g ds vs) : VRs w g (ds.map D.strip) vs := ⟨by simpa using h.1, fun j d v p q => by
  simp only [List.getElem?_map, Option.map_eq_some_iff] at p
  obtain ⟨d0, h0, rfl⟩ := p
  exact (h.2 j d0 v h0 q).strip⟩
theorem VRs.append {ds ds' : List D} {vs vs' : List Value} (h : VRs w g ds vs) (h' : VRs w g ds' vs') : VRs w g (ds ++ ds') (vs ++ vs') := ⟨by simp [h.1, h'.1], fun j d v p q => by
  rw [List.getElem?_append] at p q
  rw [← h.1] at q
  split at p
  · rename_i hlt; rw [if_pos hlt] at q; exact h.2 j d v p q
  · rename_i hlt; rw [if_neg hlt] at q; exact h'.2 _ d v p q⟩
theorem EnvR.enter_ {ds : List D} {vs : Array Value} (h : VRs w g ds vs.toList) (k : Nat) : EnvR w g (enter ds) (vs ++ Array.replicate k Go.undef) := by
  intro t
  have hl : ds.length = vs.size := by simpa using h.1
  by_cases ht : t < ds.length
  · have h1 : ds[t]? = some ds[t] := List.getElem?_eq_getElem ht
    have h2 : vs[t]? = some (vs[t]'(by omega)) := Array.getElem?_eq_getElem _
    have := h.2 t _ _ h1 (by rw [Array.getElem?_toList]; exact h2)
    have e : (vs ++ Array.replicate k Go.undef).getD t Go.undef = vs[t]'(by omega) := by
      simp [Array.getD, show t < vs.size + k by omega, Array.getElem_append_left (show t < vs.size by omega)]
    rw [e, enter, List.getD, h1]
    exact this
  · have e : (vs ++ Array.replicate k Go.undef).getD t Go.undef = Go.undef := by
      by_cases h' : t < vs.size + k
      · simp [Array.getD, h', Array.getElem_append_right (show vs.size ≤ t by omega)]
      · simp [Array.getD, h']
    rw [e, enter, List.getD, List.getElem?_eq_none (by omega)]
    exact .undef
/-! ### Guards -/
theorem guard_ok {mu : List Nat} {ops : Array Oper} {nt : Nat} {o1 : Op1} (hc : compOper P mu nt ops o = some o1) (he : EnvR w g ρ a.tmps) {b : Bool} (hg : guardV ρ o1.guard = some b) (hnb : b = true → o1.op ≠ .bad) :
    Region.wanted o (yielded ops a.tmps) = b ∧ (b = true → compOp P o.op = some o1.op) ∧ o1.dst = o.dst ∧ o.dst.any (fun d => decide (nt ≤ d)) = false := by
  unfold compOper at hc
  split at hc
  · cases hc
    simp only [guardV, Option.some.injEq] at hg
    exact absurd rfl (hnb hg.symm)
  rename_i hd
  have hd' : o.dst.any (fun d => decide (nt ≤ d)) = false := by simpa using hd
  have hop : b = true → (compOp P o.op).getD .bad ≠ .bad → compOp P o.op = some ((compOp P o.op).getD .bad) := fun _ h => by
    cases hx : compOp P o.op with
    | none => simp [hx] at h
    | some x => rfl
  cases hgd : o.guard with
  | none =>
    simp only [hgd, Option.some.injEq] at hc
    subst hc
    simp only [guardV, Option.some.injEq] at hg
    subst hg
    exact ⟨by simp [Region.wanted, hgd], fun h => hop h (hnb h), rfl, hd'⟩
  | some q =>
    obtain ⟨j, want⟩ := q
    simp only [hgd] at hc
    split at hc
    case h_2 =>
      cases hc
      simp only [guardV, Option.some.injEq] at hg
      exact absurd rfl (hnb hg.symm)
    rename_i k hk
    simp only [Option.some.injEq] at hc
    subst hc
    refine ⟨?_, fun h => hop h (hnb h), rfl, hd'⟩
    simp only [guardV] at hg
    simp only [Region.wanted, hgd, yielded, hk, Option.bind_some]
    have h1 := he k
    split at hg
    · rename_i b' hb'
      rw [hb'] at h1
      have h2 := h1.bool_inv
      have h3 : a.tmps[k]? = some (.bool b') := by
        by_cases hlt : k < a.tmps.size
        · simp [Array.getD, hlt] at h2; simp [hlt, h2]
        · simp [Array.getD, hlt, Go.undef] at h2
      simp only [h3]
      simpa using hg
    · rename_i hb'
      rw [hb'] at h1
      have h2 := h1.undef_inv
      cases hg
      cases h3 : a.tmps[k]? with
      | none => simp
      | some u =>
        have hlt := (Array.getElem?_eq_some_iff.1 h3).1
        have : u = Go.undef := by
          have h4 := (Array.getElem?_eq_some_iff.1 h3).2
          rw [← h4]
          simpa [Array.getD, hlt] using h2
        subst this
        simp [Go.undef]
    · cases hg
/-! ### What is known of the functions -/
def Enters (P : Program) (f : FuncId) : Prop := ∃ fn, P.funcs[f]? = some fn ∧ (fn.name == "runtime.NumGoroutine") = false ∧ fn.body.isNone = false
def RetW (B : Nat) (w : World) (g : Ghost) (st : Store) (r : D) (st' : Store) : Ending → World → Prop := fun e w' => ∃ v g', e = .returned v ∧ VR w' g' r v ∧ Step B w g st w' g' st'
structure PrimOK (P : Program) (f : FuncId) (F : List D → Option D) : Prop where
  enters : Enters P f
  calls : ∀ (B : Nat) (w : World) (g : Ghost) (st : Store) (ds : List D) (vs : Array Value) (r : D), Rel B w g st → VRs w g ds vs.toList → F ds = some r → Calls P f vs w (RetOK B w g st r)
structure PrimSOK (P : Program) (f : FuncId) (F : List D → Store → Option (D × Store)) : Prop where
  enters : Enters P f
  calls : ∀ (B : Nat) (w : World) (g : Ghost) (st : Store) (ds : List D) (vs : Array Value) (r : D) (st' : Store), Rel B w g st → VRs w g ds vs.toList → F ds st = some (r, st') → Calls P f vs w (RetW B w g st r st')
def FDOK (P : Program) (f : FuncId) : FD → Prop
  | .code cf => compF P f cf.ro cf.mv = some cf
  | .prim F => PrimOK P f F
  | .primS F => PrimSOK P f F
def Known (P : Program) (Γ : Nat → Option FD) : Prop := ∀ f fd, Γ f = some fd → FDOK P f fd
theorem compF_inv {f : FuncId} {ro : Bool} {mu : List Nat} {cf : CF} (h : compF P f ro mu = some cf) : ∃ fn c, P.funcs[f]? = some fn ∧ fn.body = some c ∧ Enters P f ∧ compC P mu fn.ntmps c = some cf.body ∧ fn.results.toList.mapM (compR P) = some cf.res := by
  unfold compF at h
  split at h <;> try contradiction
  rename_i fn hfn
  split at h <;> try contradiction
  rename_i c hc
  split at h <;> try contradiction
  rename_i hn
  split at h <;> try contradiction
  rename_i b rs hb hrs
  cases h
  exact ⟨fn, c, hfn, hc, ⟨fn, hfn, by simpa using hn, by simp [hc]⟩, hb, hrs⟩
theorem run_callFunc {f : FuncId} (h : Enters P f) (args : Array Value) (w : World) : (callFunc f args).run P w = .ok (.enter f args) w := by
  obtain ⟨fn, h1, h2, h3⟩ := h
  have h2' : fn.name ≠ "runtime.NumGoroutine" := by simpa using h2
  have h3' : fn.body ≠ none := by intro e; simp [e] at h3
  simp [callFunc, h1, h2', h3']
theorem run_call {c : Call} (ho : o.op = .call c) {f : Operand} (hf : c.callee = .value f) {k : Nat} {caps : Array Value} (hv : a.eval f = .func (.func k) #[] caps) (h : Enters P k) (w : World) :
    (execOp a.eval o).run P w = .ok (.enter k (c.args.map a.eval ++ caps)) w := by
  simp [execOp, ho, resolve, hf, hv, Deferred.ofValue, invoke, run_callFunc h]
/-! ### One operation of a region -/
theorem runOps_cons {Γ : Nat → Option FD} {n : Nat} {draw : Bool} {o1 : Op1} {l : List Op1} {R : (Nat → D) × Store} (h : runOps Γ (n + 1) draw (o1 :: l) ρ st = some R) :
    (guardV ρ o1.guard = some false ∧ runOps Γ n draw l (updO ρ o1.dst .undef) st = some R) ∨
    (guardV ρ o1.guard = some true ∧ ∃ d st1, runOps Γ n draw l (updO ρ o1.dst d) st1 = some R ∧
      (((∀ f as, o1.op ≠ .call f as) ∧ o1.op.runM o1.mv ρ st = some (d, st1)) ∨
       (∃ f as k caps, o1.op = .call f as ∧ f.ev ρ = .func k caps ∧
        ((∃ r, callRO Γ n k (as.map (·.ev ρ) ++ caps) st = some r ∧ ((draw = true ∧ r.ground = true ∧ d = r ∧ st1 = st) ∨ (draw = false ∧ (d, st1) = absorb o1.mv r st))) ∨
         (draw = false ∧ callRW Γ n k (as.map (·.ev ρ) ++ caps) st = some (d, st1)))))) := by
  have e : runOps Γ (n + 1) draw (o1 :: l) ρ st =
      (match guardV ρ o1.guard with
      | none => none
      | some false => runOps Γ n draw l (updO ρ o1.dst .undef) st
      | some true =>
        match (match o1.op with
          | .call f args => match f.ev ρ with
            | .func f caps => match callRO Γ n f (args.map (·.ev ρ) ++ caps) st with
              | some r => if draw then (if r.ground then some (r, st) else none) else some (absorb o1.mv r st)
              | none => if draw then none else callRW Γ n f (args.map (·.ev ρ) ++ caps) st
            | _ => none
          | op => op.runM o1.mv ρ st) with
        | some (d, st') => runOps Γ n draw l (updO ρ o1.dst d) st'
        | none => none) := by
    obtain ⟨dst, gd, mv, op⟩ := o1
    cases gd <;> cases dst <;> rfl
  rw [e] at h
  split at h
  · cases h
  · rename_i hg
    exact .inl ⟨hg, h⟩
  · rename_i hg
    refine .inr ⟨hg, ?_⟩
    split at h
    · rename_i d st1 hop
      refine ⟨d, st1, h, ?_⟩
      split at hop
      · rename_i f as hcall
        right
        split at hop
        · rename_i k caps hf
          refine ⟨f, as, k, caps, hcall, hf, ?_⟩
          split at hop
          · rename_i r hro
            refine .inl ⟨r, hro, ?_⟩
            cases draw with
            | true =>
              simp only [if_true] at hop
              split at hop
              · rename_i hgr
                cases hop
                exact .inl ⟨rfl, hgr, rfl, rfl⟩
              · cases hop
            | false =>
              simp only [Bool.false_eq_true, if_false, Option.some.injEq] at hop
              exact .inr ⟨rfl, hop.symm⟩
          · cases draw with
            | true => simp at hop
            | false => exact .inr ⟨rfl, by simpa using hop⟩
        · cases hop
      · rename_i op hcall
        exact .inl ⟨fun f as e => hcall f as e, hop⟩
    · cases h
def O.isCall : O → Bool
  | .call _ _ => true
  | _ => false
def callsV : Op → Bool
  | .call c => (match c.callee with | .value _ => true | _ => false)
  | _ => false
theorem bindN {α : Type} {m : Option α} {f : α → Option O} (h : ∀ a, f a = some x → x.isCall = false) : m.bind f = some x → x.isCall = false := fun e => by
  obtain ⟨a, _, h2⟩ := Option.bind_eq_some_iff.1 e
  exact h a h2
theorem mapN {α : Type} {m : Option α} {f : α → O} (h : ∀ a, (f a).isCall = false) : m.map f = some x → x.isCall = false := fun e => by
  obtain ⟨a, _, h2⟩ := Option.map_eq_some_iff.1 e
  rw [← h2]
  exact h a
theorem compB_ncall {b : Builtin} {args : List Operand} {tys : List TypeId} : compB P b args tys = some x → x.isCall = false := by
  cases b <;> simp only [compB, compLen, compCap, compClear, compAppend, Option.bind_eq_bind] <;>
    repeat' first
      | (intro h; cases h; done)
      | (intro h; cases h; rfl)
      | (apply bindN; intro _)
      | (apply mapN; intro _; rfl)
      | split
theorem compOp_ncall {op : Op} (hn : callsV op = false) : compOp P op = some x → x.isCall = false := by
  by_cases hb : ∃ c b, op = .call c ∧ c.callee = .builtin b
  · obtain ⟨c, b, rfl, hcb⟩ := hb
    simp only [compOp, hcb]
    exact compB_ncall
  cases op <;> simp only [compOp, Option.bind_eq_bind] <;>
    repeat' first
      | (intro h; cases h; done)
      | (intro h; cases h; rfl)
      | (apply bindN; intro _)
      | (apply mapN; intro _; rfl)
      | (simp [callsV] at hn; done)
      | (exact absurd ⟨_, _, rfl, by assumption⟩ hb)
      | (simp_all [callsV]; done)
      | split
theorem call_inv {f : A} {as : List A} (hc : compOp P o.op = some (.call f as)) : ∃ c fo, o.op = .call c ∧ c.callee = .value fo ∧ compA fo = some f ∧ compAs c.args.toList = some as := by
  by_cases h : ∃ c fo, o.op = .call c ∧ c.callee = .value fo
  · obtain ⟨c, fo, h1, h2⟩ := h
    rw [h1] at hc
    simp only [compOp, h2, Option.bind_eq_bind, Option.bind_eq_some_iff, Option.some.injEq] at hc
    obtain ⟨f', h3, as', h4, h5⟩ := hc
    cases h5
    exact ⟨c, fo, h1, h2, h3, h4⟩
  · exfalso
    by_cases hv : callsV o.op = false
    · have := compOp_ncall hv hc
      simp [O.isCall] at this
    · cases hop : o.op with
      | call c =>
        rw [hop] at hv
        simp only [callsV] at hv
        split at hv
        · rename_i fo hfo
          exact h ⟨c, fo, hop, hfo⟩
        · simp at hv
      | _ => rw [hop] at hv; simp [callsV] at hv
theorem func_inv {f : Nat} {cs : List D} {v : Value} (h : VR w g (.func f cs) v) : ∃ vs : Array Value, v = .func (.func f) #[] vs ∧ VRs w g cs vs.toList := by
  cases h with
  | func f cs vs hl hv => exact ⟨vs, rfl, by simpa using hl, fun j d v p q => hv j d v p (by simpa using q)⟩
theorem call_ok {f : A} {as : List A} {k : Nat} {caps : List D} (hc : compOp P o.op = some (.call f as)) (he : EnvR w g ρ a.tmps) (hf : f.ev ρ = .func k caps) :
    ∃ vs : Array Value, VRs w g (as.map (·.ev ρ) ++ caps) vs.toList ∧ (Enters P k → ∀ w', (execOp a.eval o).run P w' = .ok (.enter k vs) w') := by
  obtain ⟨c, fo, h1, h2, h3, h4⟩ := call_inv hc
  have h5 := A_ok he h3
  rw [hf] at h5
  obtain ⟨cv, h6, h7⟩ := func_inv h5
  refine ⟨c.args.map a.eval ++ cv, ?_, fun hE w' => run_call h1 h2 h6 hE w'⟩
  rw [Array.toList_append, Array.toList_map]
  exact (As_ok he h4).append h7
end
end Go.Ev
