/-
  Regions that draw their order: any order comes to the same data, if those that clash are forced into theirs.
-/
import Derived.Test.YtjcilbnbciclpaaEvEvU
set_option linter.unusedVariables false
set_option linter.unusedSimpArgs false
set_option linter.unnecessarySimpa false
namespace Go.Ev
open Go.RowKit
section
variable {P : Program} {ops : Array Oper}
def Down (ops : Array Oper) (S : Nat → Bool) : Prop := ∀ i o, S i = true → ops[i]? = some o → ∀ e ∈ o.after, Region.binds .any e = true → S e.on = true
theorem count_set {l : List Bool} {i : Nat} (h : l[i]? = some false) : (l.set i true).count false + 1 = l.count false := by
  induction l generalizing i with
  | nil => simp at h
  | cons b l ih =>
    cases i with
    | zero => simp at h; subst h; simp
    | succ i =>
      simp only [List.getElem?_cons_succ] at h
      have := ih h
      simp only [List.set_cons_succ, List.count_cons]
      omega
theorem any_of_inv (I : (Nat → Bool) → Act → World → Prop) {Q : Exit → Act → World → Prop}
    (hafter : ∀ i o, ops[i]? = some o → ∀ e ∈ o.after, Region.binds .any e = true → e.on < i)
    (hstep : ∀ (S : Nat → Bool) (i : Nat) (o : Oper) (a : Act) (w : World) (K : Act → World → Prop), I S a w → Down ops S → S i = false → ops[i]? = some o → (∀ e ∈ o.after, Region.binds .any e = true → S e.on = true) →
      (∀ a' w', I (fun j => S j || j == i) a' w' → K a' w') → wpOp P ops Q i K a w)
    (hfin : ∀ (S : Nat → Bool) a w, I S a w → (∀ j, j < ops.size → S j = true) → (∀ j, ops.size ≤ j → S j = false) → Q .normal a w) :
    ∀ (fuel : Nat) (listed : Array Bool) (a : Act) (w : World), listed.size = ops.size → listed.toList.count false = fuel → Down ops (fun j => listed.getD j false) → I (fun j => listed.getD j false) a w → wpAny P .any ops Q fuel listed a w := by
  have final : ∀ (listed : Array Bool) (a : Act) (w : World), listed.size = ops.size → I (fun j => listed.getD j false) a w → Region.ready .any ops listed = [] → Q .normal a w := by
    intro listed a w hs hI hr
    refine hfin _ a w hI (fun j hj => ?_) (fun j hj => by simp [Array.getD, show ¬ j < listed.size by omega])
    -- the least one that has not come up could come up
    have key : ∀ j, j < ops.size → listed.getD j false = true := by
      intro j
      induction j using Nat.strongRecOn with
      | _ j ih =>
        intro hj
        cases hb : listed.getD j false with
        | true => rfl
        | false =>
          exfalso
          have : j ∈ Region.ready .any ops listed := mem_ready.2 ⟨by
            have hlt : j < listed.size := by omega
            simp only [Array.getD, hlt, dite_true] at hb ⊢
            exact hb, ops[j], Array.getElem?_eq_getElem hj, fun e he hbd => by
            have hlt := hafter j _ (Array.getElem?_eq_getElem hj) e he hbd
            exact ih e.on hlt (by omega)⟩
          rw [hr] at this
          cases this
    exact key j hj
  intro fuel
  induction fuel with
  | zero =>
    intro listed a w hs hc hd hI
    have hall : ∀ j, listed.getD j true = true := fun j => by
      by_cases hlt : j < listed.size
      · simp only [Array.getD, hlt, dite_true]
        cases hb : listed[j] with
        | true => simpa using hb
        | false =>
          exfalso
          have hmem : false ∈ listed.toList := by
            rw [← hb]
            exact Array.getElem_mem_toList hlt
          have := List.count_pos_iff.2 hmem
          omega
      · simp [Array.getD, hlt]
    have hr : Region.ready .any ops listed = [] := by
      apply List.eq_nil_iff_forall_not_mem.2
      intro j hj
      have := (mem_ready.1 hj).1
      rw [hall] at this
      cases this
    exact ⟨hr, final listed a w hs hI hr⟩
  | succ fuel ih =>
    intro listed a w hs hc hd hI
    refine ⟨final listed a w hs hI, fun i hi => ?_⟩
    obtain ⟨h0, o, ho, hall⟩ := mem_ready.1 hi
    have hlt : i < listed.size := by
      have := (Array.getElem?_eq_some_iff.1 ho).1
      omega
    have h0' : listed[i] = false := by simpa [Array.getD, hlt] using h0
    have hset : (fun j => (listed.setIfInBounds i true).getD j false) = fun j => listed.getD j false || j == i := by
      funext j
      by_cases e : j = i
      · subst e
        simp [Array.getD, hlt]
      · by_cases hj : j < listed.size
        · simp [Array.getD, hj, Array.getElem_setIfInBounds, Ne.symm e, e]
        · simp [Array.getD, hj, e]
    refine hstep _ i o a w _ hI hd (by simp [Array.getD, hlt, h0']) ho hall (fun a' w' hI' => ?_)
    refine ih _ a' w' (by simpa using hs) ?_ ?_ (by rw [hset]; exact hI')
    · have := count_set (l := listed.toList) (i := i) (by simp [hlt, h0'])
      rw [Array.toList_setIfInBounds]
      omega
    · rw [hset]
      intro k ok hk hok e he hbd
      simp only [Bool.or_eq_true, beq_iff_eq] at hk ⊢
      rcases hk with hk | rfl
      · exact .inl (hd k ok hk hok e he hbd)
      · rw [ho] at hok
        cases hok
        exact .inl (hall e he hbd)
/-! ### What an operation leaves behind -/
def Fl.eff (k : Fl) (s st : Store) : Store := match k with
  | .w p => { st with boxes := upd st.boxes p (s.boxes p) }
  | .t => { st with toks := s.toks, ntok := s.ntok }
  | .a p => { st with boxes := upd st.boxes p (s.boxes p), next := s.next }
  | .v p _ => { st with boxes := upd st.boxes p (s.boxes p) }
  | .f => s
  | _ => st
def Fl.Agree (k : Fl) (st st2 : Store) : Prop := match k with
  | .n => True
  | .r p | .w p => st2.boxes p = st.boxes p ∧ st2.lim = st.lim
  | .t => st2.toks = st.toks ∧ st2.ntok = st.ntok ∧ st2.tlim = st.tlim
  | .a _ => st2.next = st.next
  | .v p ps => st2.boxes p = st.boxes p ∧ (∀ q ∈ ps, st2.boxes q = st.boxes q) ∧ st2.lim = st.lim ∧ st2.next = st.next ∧ st2.ntok = st.ntok
  | _ => st2 = st
theorem Fl.clash_symm (a b : Fl) : a.clash b = b.clash a := by
  have h : ∀ p q : Nat, (p == q) = (q == p) := fun p q => by
    by_cases e : p = q
    · rw [e]
    · rw [beq_eq_false_iff_ne.2 e, beq_eq_false_iff_ne.2 (Ne.symm e)]
  cases a <;> cases b <;> first | rfl | exact h _ _ | (simp only [Fl.clash]; rw [h])
theorem upd_comm {α : Type} (f : Nat → α) {p q : Nat} (h : p ≠ q) (a b : α) : upd (upd f p a) q b = upd (upd f q b) p a := by
  funext i
  by_cases h1 : i = p
  · subst h1; rw [upd_ne _ _ h, upd_same, upd_same]
  · by_cases h2 : i = q
    · subst h2; rw [upd_same, upd_ne _ _ h1, upd_same]
    · rw [upd_ne _ _ h2, upd_ne _ _ h1, upd_ne _ _ h1, upd_ne _ _ h2]
theorem Fl.eff_comm {k k' : Fl} (h : k.clash k' = false) (s s' st : Store) : k.eff s (k'.eff s' st) = k'.eff s' (k.eff s st) := by
  cases k <;> cases k' <;> simp only [Fl.clash] at h <;> first | contradiction | rfl | skip
  case w.v p q ps =>
    have h' : p ≠ q := by
      simp only [Bool.or_eq_false_iff, beq_eq_false_iff_ne] at h
      exact h.1
    simp only [Fl.eff]
    rw [upd_comm _ h']
  case v.w p ps q =>
    have h' : p ≠ q := by
      simp only [Bool.or_eq_false_iff, beq_eq_false_iff_ne] at h
      exact h.1
    simp only [Fl.eff]
    rw [upd_comm _ h']
  all_goals
    rename_i p q
    have h' : p ≠ q := by simpa using h
    simp only [Fl.eff]
    rw [upd_comm _ h']
/-! ### Frames and stores over a set of operations -/
section
variable {α : Type} (ρ0 : Nat → D) (dst : Nat → Option Nat) (dv : Nat → D) (st0 : Store) (sv : Nat → Store) (kf : Nat → Fl)
def envS (S : Nat → Bool) : Nat → (Nat → D)
  | 0 => ρ0
  | n + 1 => if S n then updO (envS S n) (dst n) (dv n) else envS S n
def stS (S : Nat → Bool) : Nat → Store
  | 0 => st0
  | n + 1 => if S n then (kf n).eff (sv n) (stS S n) else stS S n
theorem updO_ne {ρ : Nat → D} {d : Option Nat} {x : D} {t : Nat} (h : d ≠ some t) : updO ρ d x t = ρ t := by
  cases d with
  | none => rfl
  | some k => exact upd_ne _ _ (fun e => h (by rw [e]))
theorem updO_at {ρ : Nat → D} {x : D} {t : Nat} : updO ρ (some t) x t = x := upd_same _ _ _
theorem envS_same {S S' : Nat → Bool} {t : Nat} : ∀ n, (∀ j, j < n → dst j = some t → S j = S' j) → envS ρ0 dst dv S n t = envS ρ0 dst dv S' n t
  | 0, _ => rfl
  | n + 1, h => by
    have ih := envS_same n (fun j hj => h j (by omega))
    unfold envS
    by_cases hd : dst n = some t
    · rw [h n (by omega) hd]
      split
      · rw [hd, updO_at, updO_at]
      · exact ih
    · have e : ∀ (b : Bool) (ρ : Nat → D), (if b = true then updO ρ (dst n) (dv n) else ρ) t = ρ t := fun b ρ => by
        split
        · exact updO_ne hd
        · rfl
      rw [e, e]
      exact ih
theorem envS_lt (i : Nat) : ∀ n, i ≤ n → envS ρ0 dst dv (fun j => decide (j < i)) n = envS ρ0 dst dv (fun _ => true) i := by
  intro n
  induction n with
  | zero => intro h; have : i = 0 := by omega
            subst this; rfl
  | succ n ih =>
    intro h
    by_cases e : i = n + 1
    · subst e
      clear ih h
      have : ∀ m, m ≤ n + 1 → envS ρ0 dst dv (fun j => decide (j < n + 1)) m = envS ρ0 dst dv (fun _ => true) m := by
        intro m
        induction m with
        | zero => intro _; rfl
        | succ m ihm =>
          intro hm
          unfold envS
          rw [ihm (by omega)]
          simp [show m < n + 1 by omega]
      exact this _ (Nat.le_refl _)
    · conv => lhs; unfold envS
      simp only [show ¬ n < i by omega, decide_false, Bool.false_eq_true, if_false]
      exact ih (by omega)
theorem envS_last {S : Nat → Bool} {t i : Nat} (hi : dst i = some t) (hS : S i = true) : ∀ n, i < n → (∀ j, i < j → j < n → S j = true → dst j ≠ some t) → envS ρ0 dst dv S n t = dv i
  | 0, h, _ => by omega
  | n + 1, h, hl => by
    unfold envS
    by_cases e : i = n
    · subst e
      rw [hS, if_pos rfl, hi, updO_at]
    · have ih := envS_last hi hS n (by omega) (fun j h1 h2 => hl j h1 (by omega))
      split
      · rename_i hSn
        rw [updO_ne (hl n (by omega) (by omega) hSn)]
        exact ih
      · exact ih
theorem stS_lt (i : Nat) : ∀ n, i ≤ n → stS st0 sv kf (fun j => decide (j < i)) n = stS st0 sv kf (fun _ => true) i := by
  intro n
  induction n with
  | zero => intro h; have : i = 0 := by omega
            subst this; rfl
  | succ n ih =>
    intro h
    by_cases e : i = n + 1
    · subst e
      clear ih h
      have : ∀ m, m ≤ n + 1 → stS st0 sv kf (fun j => decide (j < n + 1)) m = stS st0 sv kf (fun _ => true) m := by
        intro m
        induction m with
        | zero => intro _; rfl
        | succ m ihm =>
          intro hm
          unfold stS
          rw [ihm (by omega)]
          simp [show m < n + 1 by omega]
      exact this _ (Nat.le_refl _)
    · conv => lhs; unfold stS
      simp only [show ¬ n < i by omega, decide_false, Bool.false_eq_true, if_false]
      exact ih (by omega)
theorem stS_box {S S' : Nat → Bool} {p : Nat} : ∀ n, (∀ j, j < n → kf j = .w p ∨ kf j = .f ∨ kf j = .a p ∨ (∃ ps, kf j = .v p ps) → S j = S' j) → (stS st0 sv kf S n).boxes p = (stS st0 sv kf S' n).boxes p
  | 0, _ => rfl
  | n + 1, h => by
    have ih := stS_box n (fun j hj => h j (by omega))
    have hn := h n (by omega)
    have key : ∀ (b : Bool) (X : Store), (∀ q, kf n = .w q → q ≠ p) → kf n ≠ .f → (∀ q, kf n = .a q → q ≠ p) → (∀ q ps, kf n = .v q ps → q ≠ p) → (if b = true then (kf n).eff (sv n) X else X).boxes p = X.boxes p := fun b X h1 h2 h3 h4 => by
      split
      · cases hk : kf n with
        | w q => simp only [Fl.eff]; exact upd_ne _ _ (fun e => h1 q hk e.symm)
        | a q => simp only [Fl.eff]; exact upd_ne _ _ (fun e => h3 q hk e.symm)
        | v q ps => simp only [Fl.eff]; exact upd_ne _ _ (fun e => h4 q ps hk e.symm)
        | f => exact absurd hk h2
        | _ => rfl
      · rfl
    unfold stS
    by_cases hw : kf n = .w p ∨ kf n = .f ∨ kf n = .a p ∨ (∃ ps, kf n = .v p ps)
    · rw [hn hw]
      split
      · rcases hw with hw | hw | hw | ⟨ps, hw⟩
        · rw [hw]; simp only [Fl.eff, upd_same]
        · rw [hw]; rfl
        · rw [hw]; simp only [Fl.eff, upd_same]
        · rw [hw]; simp only [Fl.eff, upd_same]
      · exact ih
    · have h1 : ∀ q, kf n = .w q → q ≠ p := fun q hq e => hw (.inl (by rw [hq, e]))
      have h2 : kf n ≠ .f := fun e => hw (.inr (.inl e))
      have h3 : ∀ q, kf n = .a q → q ≠ p := fun q hq e => hw (.inr (.inr (.inl (by rw [hq, e]))))
      have h4 : ∀ q ps, kf n = .v q ps → q ≠ p := fun q ps hq e => hw (.inr (.inr (.inr ⟨ps, by rw [hq, e]⟩)))
      rw [key _ _ h1 h2 h3 h4, key _ _ h1 h2 h3 h4]
      exact ih
theorem stS_tok {S S' : Nat → Bool} : ∀ n, (∀ j, j < n → kf j = .t ∨ kf j = .f → S j = S' j) → (stS st0 sv kf S n).toks = (stS st0 sv kf S' n).toks ∧ (stS st0 sv kf S n).ntok = (stS st0 sv kf S' n).ntok
  | 0, _ => ⟨rfl, rfl⟩
  | n + 1, h => by
    have ih := stS_tok n (fun j hj => h j (by omega))
    have hn := h n (by omega)
    have key : ∀ (b : Bool) (X : Store), kf n ≠ .t → kf n ≠ .f → (if b = true then (kf n).eff (sv n) X else X).toks = X.toks ∧ (if b = true then (kf n).eff (sv n) X else X).ntok = X.ntok := fun b X h1 h2 => by
      split
      · cases hk : kf n with
        | t => exact absurd hk h1
        | f => exact absurd hk h2
        | _ => exact ⟨rfl, rfl⟩
      · exact ⟨rfl, rfl⟩
    unfold stS
    by_cases hw : kf n = .t ∨ kf n = .f
    · rw [hn hw]
      split
      · rcases hw with hw | hw <;> rw [hw] <;> exact ⟨rfl, rfl⟩
      · exact ih
    · have h1 : kf n ≠ .t := fun e => hw (.inl e)
      have h2 : kf n ≠ .f := fun e => hw (.inr e)
      rw [(key _ _ h1 h2).1, (key _ _ h1 h2).1, (key _ _ h1 h2).2, (key _ _ h1 h2).2]
      exact ih
theorem stS_lim {S S' : Nat → Bool} : ∀ n, (∀ j, j < n → kf j = .f → S j = S' j) → (stS st0 sv kf S n).lim = (stS st0 sv kf S' n).lim ∧ (stS st0 sv kf S n).tlim = (stS st0 sv kf S' n).tlim
  | 0, _ => ⟨rfl, rfl⟩
  | n + 1, h => by
    have ih := stS_lim n (fun j hj => h j (by omega))
    have hn := h n (by omega)
    have key : ∀ (b : Bool) (X : Store), kf n ≠ .f → (if b = true then (kf n).eff (sv n) X else X).lim = X.lim ∧ (if b = true then (kf n).eff (sv n) X else X).tlim = X.tlim := fun b X h2 => by
      split
      · cases hk : kf n with
        | f => exact absurd hk h2
        | _ => exact ⟨rfl, rfl⟩
      · exact ⟨rfl, rfl⟩
    unfold stS
    by_cases hw : kf n = .f
    · rw [hn hw]
      split
      · rw [hw]; exact ⟨rfl, rfl⟩
      · exact ih
    · rw [(key _ _ hw).1, (key _ _ hw).1, (key _ _ hw).2, (key _ _ hw).2]
      exact ih
theorem stS_next {S S' : Nat → Bool} : ∀ n, (∀ j, j < n → kf j = .f ∨ (∃ p, kf j = .a p) → S j = S' j) → (stS st0 sv kf S n).next = (stS st0 sv kf S' n).next
  | 0, _ => rfl
  | n + 1, h => by
    have ih := stS_next n (fun j hj => h j (by omega))
    have hn := h n (by omega)
    have key : ∀ (b : Bool) (X : Store), kf n ≠ .f → (∀ p, kf n ≠ .a p) → (if b = true then (kf n).eff (sv n) X else X).next = X.next := fun b X h2 h3 => by
      split
      · cases hk : kf n with
        | f => exact absurd hk h2
        | a p => exact absurd hk (h3 p)
        | _ => rfl
      · rfl
    unfold stS
    by_cases hw : kf n = .f ∨ ∃ p, kf n = .a p
    · rw [hn hw]
      split
      · rcases hw with hw | ⟨p, hw⟩ <;> rw [hw] <;> rfl
      · exact ih
    · have h2 : kf n ≠ .f := fun e => hw (.inl e)
      have h3 : ∀ p, kf n ≠ .a p := fun p e => hw (.inr ⟨p, e⟩)
      rw [key _ _ h2 h3, key _ _ h2 h3]
      exact ih
theorem stS_same {S S' : Nat → Bool} (n : Nat) (h : ∀ j, j < n → (∀ s X, (kf j).eff s X = X) ∨ S j = S' j) : stS st0 sv kf S n = stS st0 sv kf S' n := by
  induction n with
  | zero => rfl
  | succ n ih =>
    have ih := ih (fun j hj => h j (by omega))
    unfold stS
    rcases h n (by omega) with h1 | h1
    · simp only [h1, ite_self]; exact ih
    · rw [h1, ih]
theorem stS_agree {S S' : Nat → Bool} (k : Fl) (n : Nat) (h : ∀ j, j < n → (kf j).clash k = true → S j = S' j) : k.Agree (stS st0 sv kf S n) (stS st0 sv kf S' n) := by
  have full : (∀ j, j < n → (∀ s X, (kf j).eff s X = X) ∨ (kf j).clash k = true) → stS st0 sv kf S' n = stS st0 sv kf S n := fun hk => (stS_same st0 sv kf n (fun j hj => by
    rcases hk j hj with h1 | h1
    · exact .inl h1
    · exact .inr (h j hj h1))).symm
  cases k with
  | n => trivial
  | r p => exact ⟨(stS_box st0 sv kf n (fun j hj hk => h j hj (by rcases hk with hk | hk | hk | ⟨_, hk⟩ <;> rw [hk] <;> simp [Fl.clash]))).symm, (stS_lim st0 sv kf n (fun j hj hk => h j hj (by rw [hk]; rfl))).1.symm⟩
  | w p => exact ⟨(stS_box st0 sv kf n (fun j hj hk => h j hj (by rcases hk with hk | hk | hk | ⟨_, hk⟩ <;> rw [hk] <;> simp [Fl.clash]))).symm, (stS_lim st0 sv kf n (fun j hj hk => h j hj (by rw [hk]; rfl))).1.symm⟩
  | t =>
    have h1 := stS_tok st0 sv kf n (fun j hj hk => h j hj (by rcases hk with hk | hk <;> rw [hk] <;> rfl))
    exact ⟨h1.1.symm, h1.2.symm, (stS_lim st0 sv kf n (fun j hj hk => h j hj (by rw [hk]; rfl))).2.symm⟩
  | a p => exact (stS_next st0 sv kf n (fun j hj hk => h j hj (by rcases hk with hk | ⟨q, hk⟩ <;> rw [hk] <;> rfl))).symm
  | v p ps =>
    refine ⟨(stS_box st0 sv kf n (fun j hj hk => h j hj (by rcases hk with hk | hk | hk | ⟨_, hk⟩ <;> rw [hk] <;> simp [Fl.clash]))).symm, fun q hq => (stS_box st0 sv kf n (fun j hj hk => h j hj (by
      rcases hk with hk | hk | hk | ⟨_, hk⟩ <;> rw [hk] <;> simp [Fl.clash]
      exact .inr hq))).symm, (stS_lim st0 sv kf n (fun j hj hk => h j hj (by rw [hk]; rfl))).1.symm, (stS_next st0 sv kf n (fun j hj hk => h j hj (by rcases hk with hk | ⟨q, hk⟩ <;> rw [hk] <;> rfl))).symm, (stS_tok st0 sv kf n (fun j hj hk => h j hj (by rcases hk with hk | hk <;> rw [hk] <;> rfl))).2.symm⟩
  | c => exact full fun j hj => by cases hk : kf j <;> first | exact .inl fun _ _ => rfl | exact .inr rfl
  | f => exact full fun j hj => by cases hk : kf j <;> first | exact .inl fun _ _ => rfl | exact .inr rfl
theorem stS_add {S : Nat → Bool} {i : Nat} (hi : S i = false) : ∀ n, i < n → (∀ j, i < j → j < n → S j = true → (kf i).clash (kf j) = false) → stS st0 sv kf (fun j => S j || j == i) n = (kf i).eff (sv i) (stS st0 sv kf S n)
  | 0, h, _ => by omega
  | n + 1, h, hc => by
    by_cases e : i = n
    · subst e
      have : stS st0 sv kf (fun j => S j || j == i) i = stS st0 sv kf S i := by
        have : ∀ m, m ≤ i → stS st0 sv kf (fun j => S j || j == i) m = stS st0 sv kf S m := by
          intro m
          induction m with
          | zero => intro _; rfl
          | succ m ih =>
            intro hm
            unfold stS
            rw [ih (by omega)]
            simp [show m ≠ i by omega]
        exact this i (Nat.le_refl _)
      conv => lhs; unfold stS
      conv => rhs; unfold stS
      simp only [hi, beq_self_eq_true, Bool.or_true, if_true, Bool.false_eq_true, if_false]
      rw [this]
    · have ih := stS_add hi n (by omega) (fun j h1 h2 => hc j h1 (by omega))
      conv => lhs; unfold stS
      conv => rhs; unfold stS
      have hn : (n == i) = false := by simp; omega
      simp only [hn, Bool.or_false, ih]
      cases hS : S n with
      | false => rfl
      | true =>
        simp only [if_true]
        exact Fl.eff_comm (by rw [Fl.clash_symm]; exact hc n (by omega) (by omega) hS) _ _ _
end
end
end Go.Ev
