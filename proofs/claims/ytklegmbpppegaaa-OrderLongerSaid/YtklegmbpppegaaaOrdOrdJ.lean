/-
  slices' insertion sort, on a part of a row of routes; the stable sort of few.
-/
import Derived.Test.YtklegmbpppegaaaOrdOrdD
import Derived.Test.YtklegmbpppegaaaEvEvX9
import Derived.Test.YtklegmbpppegaaaEvEvX10
import Derived.Test.YtklegmbpppegaaaEvEvX8
set_option linter.unusedVariables false
set_option linter.unusedSimpArgs false
set_option linter.unnecessarySimpa false

namespace Go.Ord
open Go.Ev
set_option linter.unusedVariables false
set_option linter.unusedSimpArgs false
theorem foldl_len : ∀ (l S : List Rt), (l.foldl insL S).length = S.length + l.length
  | [], S => rfl
  | x :: l, S => by rw [List.foldl_cons, foldl_len l, insL_len, List.length_cons]; omega
theorem ssort_len (l : List Rt) : (ssort l).length = l.length := by rw [ssort, foldl_len]; simp
theorem insRev_mem (x r : Rt) : ∀ S : List Rt, r ∈ insRev x S ↔ r = x ∨ r ∈ S
  | [] => by simp [insRev]
  | y :: S => by
    rw [insRev]
    split
    · simp only [List.mem_cons, insRev_mem x r S]
      constructor
      · rintro (h | h | h) <;> simp [h]
      · rintro (h | h | h) <;> simp [h]
    · simp
theorem insL_mem (x r : Rt) (S : List Rt) : r ∈ insL S x ↔ r = x ∨ r ∈ S := by simp [insL, insRev_mem]
theorem foldl_mem (r : Rt) : ∀ l S : List Rt, r ∈ l.foldl insL S ↔ r ∈ S ∨ r ∈ l
  | [], S => by simp
  | x :: l, S => by
    rw [List.foldl_cons, foldl_mem r l, insL_mem, List.mem_cons]
    constructor
    · rintro ((h | h) | h) <;> simp [h]
    · rintro (h | h | h) <;> simp [h]
theorem ssort_mem (r : Rt) (l : List Rt) : r ∈ ssort l ↔ r ∈ l := by rw [ssort, foldl_mem]; simp
theorem short_perm {A B : List Rt} (h : Short A) (hm : ∀ r, r ∈ B → r ∈ A) : Short B := fun r hr => h r (hm r hr)
set_option maxHeartbeats 8000000 in
theorem l_out (p n c : Nat) (P R : List Rt) (b : Nat) (hnl : n ≤ 1000000) : ∀ (T D0 : List Rt), n = (P ++ D0 ++ T ++ R).length → b = (P ++ D0 ++ T).length → Short (P ++ D0 ++ T ++ R) → ∀ (ρ : Nat → D) (st : Store), RowIs st p 2 ((P ++ D0 ++ T ++ R).map Rt.e) →
    ρ 0 = .rs p 0 2 n c → ρ 1 = .int .i64 P.length → ρ 2 = .int .i64 b → ρ 3 = .func 21 [] → ρ 8 = .int .i64 ((P ++ D0).length : Nat) → ∀ (Q : X → (Nat → D) → Store → Prop),
    (∀ ρ' st', FrR st st' p → RowIs st' p 2 ((P ++ T.foldl insL D0 ++ R).map Rt.e) → Q (.exit 0) ρ' st') → WC Γ (.loop c_slices_insertionSortCmpFunc_Route_l1) ρ st Q := by
  intro T
  induction T with
  | nil =>
    intro D0 hn hb hsh ρ st hR h0 h1 h2 h3 h8 Q hQ
    rw [← upd_self h0, ← upd_self h1, ← upd_self h2, ← upd_self h3, ← upd_self h8]
    rw [List.append_nil] at hb
    refine WC_loop ?_
    repeat' (first
 | (refine I_WS ?_; first
 | (refine I_mov ?_; first
 | refine W_mov (v := .int _ _) rfl rfl rfl ?_)
 | (refine I_bin ?_; first
 | refine W_lssF rfl rfl rfl rfl (by omega) ?_)
 | refine WS_nil ?_)
 | refine WC_seq ?_
 | refine WC_opsS ?_
 | refine WC_condF rfl ?_
 | refine WC_exit ?_)
    exact hQ _ _ (FrR.refl _ _) (by simpa using hR)
  | cons x T ih =>
    intro D0 hn hb hsh ρ st hR h0 h1 h2 h3 h8 Q hQ
    have e1 : P ++ D0 ++ (x :: T) ++ R = P ++ D0 ++ x :: (T ++ R) := by simp
    rw [e1] at hn hR hsh
    have hnx := ih (insL D0 x)
    have hin := l_inn p n c P D0.length D0 rfl x (T ++ R) hn hnl hsh
    have hlt : (((P ++ D0).length : Nat) : Int) < b := by rw [hb]; simp; omega
    have hb1 : (P ++ D0).length < 1000000 := by
      have : (P ++ D0).length < n := by rw [hn]; simp
      omega
    have hadd : IntKind.i64.wrap ((((P ++ D0).length : Nat) : Int) + 1) = (((P ++ insL D0 x).length : Nat) : Int) := by
      rw [w64 (by omega), List.length_append, List.length_append, insL_len]; omega
    have e2 : P ++ insL D0 x ++ T ++ R = P ++ insL D0 x ++ (T ++ R) := by simp
    have hn' : n = (P ++ insL D0 x ++ T ++ R).length := by rw [hn]; simp [insL_len]; omega
    have hb' : b = (P ++ insL D0 x ++ T).length := by rw [hb]; simp [insL_len]; omega
    have hsh' : Short (P ++ insL D0 x ++ T ++ R) := short_perm hsh (fun r hr => by
      simp only [List.mem_append, insL_mem, List.mem_cons] at hr ⊢
      rcases hr with ((h | h | h) | h) | h <;> simp [h])
    clear ih
    rw [List.foldl_cons] at hQ
    generalize hm : ((P ++ D0).length : Nat) = m at *
    rw [← upd_self h0, ← upd_self h1, ← upd_self h2, ← upd_self h3, ← upd_self h8]
    refine WC_loop ?_
    repeat' (first
 | (refine I_WS ?_; first
 | (refine I_mov ?_; first
 | refine W_mov (v := .int _ _) rfl rfl rfl ?_)
 | (refine I_bin ?_; first
 | refine W_lssT rfl rfl rfl rfl (by omega) ?_)
 | refine WS_nil ?_)
 | (refine hin _ _ (b : Int) (m : Int) hR ?_ ?_ ?_ ?_ ?_ ?_ _ ?_ <;> first | rfl | (intro ρ2 st2 hF hR2 k0 k1 k2 k3 k8))
 | refine WC_seq ?_
 | refine WC_opsS ?_
 | refine WC_skip ?_
 | refine WC_condT rfl ?_
 | refine WC_block ?_)
    rw [← upd_self k0, ← upd_self k1, ← upd_self k2, ← upd_self k3, ← upd_self k8]
    repeat' (first
 | (refine I_WS ?_; first
 | refine W_add (s := (((P ++ insL D0 x).length : Nat) : Int)) rfl rfl rfl rfl hadd ?_
 | (refine I_mov ?_; first
 | refine W_mov (v := .int _ _) rfl rfl rfl ?_)
 | refine WS_nil ?_))
    rw [← e2] at hR2
    refine hnx hn' hb' hsh' _ _ hR2 ?_ ?_ ?_ ?_ ?_ Q (fun ρ' st' hF' hR' => hQ ρ' st' (hF.trans hF') hR') <;> rfl
theorem s_insSort (p n c : Nat) (P S R : List Rt) (st : Store) (hnl : n ≤ 1000000) (hn : n = (P ++ S ++ R).length) (hsh : Short (P ++ S ++ R)) (hR : RowIs st p 2 ((P ++ S ++ R).map Rt.e)) (a b : Int) (ha : a = P.length) (hb : b = ((P ++ S).length : Nat)) :
    EvRWX Γ 71 [.rs p 0 2 n c, .int .i64 a, .int .i64 b, .func 21 []] st (fun r st' => r = .tuple [] ∧ FrR st st' p ∧ RowIs st' p 2 ((P ++ ssort S ++ R).map Rt.e)) := by
  subst ha hb
  refine EvRWX_code rfl rfl ?_
  have hPn : P.length ≤ n := by rw [hn]; simp
  have hadd : IntKind.i64.wrap ((P.length : Int) + 1) = P.length + 1 := w64 (by omega)
  cases S with
  | nil =>
    have hge : ((P ++ ([] : List Rt)).length : Int) ≤ (P.length : Int) + 1 := by simp; omega
    generalize hm : ((P ++ ([] : List Rt)).length : Nat) = m at *
    repeat' (first
 | (refine I_WS ?_; first
 | refine W_add (s := (P.length : Int) + 1) rfl rfl rfl rfl hadd ?_
 | (refine I_mov ?_; first
 | refine W_mov (v := .int _ _) rfl rfl rfl ?_)
 | refine WS_nil ?_)
 | refine WC_seq ?_
 | refine WC_opsS ?_
 | refine WC_block ?_)
    refine WC_loop ?_
    repeat' (first
 | (refine I_WS ?_; first
 | refine W_lssF rfl rfl rfl rfl hge ?_
 | (refine I_mov ?_; first
 | refine W_mov (v := .int _ _) rfl rfl rfl ?_)
 | refine WS_nil ?_)
 | refine WC_seq ?_
 | refine WC_opsS ?_
 | refine WC_condF rfl ?_
 | refine WC_exit ?_)
    exact ⟨.inl rfl, _, rfl, rfl, FrR.refl _ _, by simpa [ssort] using hR⟩
  | cons x T =>
    have e1 : P ++ x :: T ++ R = P ++ [x] ++ T ++ R := by simp
    rw [e1] at hn hsh hR
    have hlo := l_out p n c P R (P ++ x :: T).length hnl T [x] hn (by simp) hsh
    have hadd' : IntKind.i64.wrap ((P.length : Int) + 1) = ((P ++ [x]).length : Nat) := by rw [hadd]; simp
    generalize hm : ((P ++ x :: T).length : Nat) = m at *
    repeat' (first
 | (refine I_WS ?_; first
 | refine W_add (s := (((P ++ [x]).length : Nat) : Int)) rfl rfl rfl rfl hadd' ?_
 | (refine I_mov ?_; first
 | refine W_mov (v := .int _ _) rfl rfl rfl ?_)
 | refine WS_nil ?_)
 | (refine hlo _ _ hR ?_ ?_ ?_ ?_ ?_ _ ?_ <;> first | rfl | (intro ρ2 st2 hF hR2))
 | refine WC_seq ?_
 | refine WC_opsS ?_
 | refine WC_block ?_)
    exact ⟨.inl rfl, _, rfl, rfl, hF, hR2⟩
end Go.Ord

/-
  Routes in memory of their own; leaving out such as are there already.
-/
namespace Go.Ev
theorem row_cut1 {cs : List D} {sz i o : Nat} {xs ys : List D} {d : D} (hlen : xs.length * sz ≤ cs.length) (hc : cs.take (xs.length * sz) = xs.flatMap D.cells) (hxs : ∀ d ∈ xs, d.cells.length = sz) (hx : xs[i]? = some (.agg ys)) (ho : ys[o]? = some d) : i * sz + o < cs.length ∧ cs[i * sz + o]? = some d := by
  have hi : i < xs.length := (List.getElem?_eq_some_iff.mp hx).1
  have h1 := take_drop_row hc hxs hx
  have h2 : i * sz + sz ≤ xs.length * sz := by rw [← Nat.succ_mul]; exact Nat.mul_le_mul_right _ hi
  have h3 : ys.length = sz := hxs _ (List.mem_of_getElem? hx)
  have h4 : o < sz := by rw [← h3]; exact (List.getElem?_eq_some_iff.mp ho).1
  have h5 : ((cs.drop (i * sz)).take sz)[o]? = some d := by rw [h1]; exact ho
  rw [List.getElem?_take_of_lt h4, List.getElem?_drop] at h5
  exact ⟨by omega, h5⟩
section
variable {Γ : Nat → Option FD} {ρ : Nat → D} {st : Store} {dr : Bool} {R : (Nat → D) → Store → List Fl → Prop} {l : List Op1} {g : Option (Nat × Bool)} {mv : Bool} {k : Nat} {x y : A}
theorem W_loadRow1 {p off sz j o : Nat} {xs ys : List D} {d : D} (hg : guardV ρ g = some true) (hx : x.ev ρ = .ptr p off) (hR : RowIs st p sz xs) (ho : off = j * sz + o) (hxs : ∀ d ∈ xs, d.cells.length = sz) (hj : xs[j]? = some (.agg ys)) (hd : ys[o]? = some d) (hm : mv = false)
    (h : WS Γ dr l (upd ρ k d) st (nx (.r p) R)) : WS Γ dr (⟨some k, g, mv, .load false 1 x⟩ :: l) ρ st R := by
  obtain ⟨hl, _, cs, h1, h2, h3, _⟩ := hR
  subst ho
  obtain ⟨q1, q2⟩ := row_cut1 h2 h3 hxs hj hd
  refine W_loadM hg hx (by rw [h1]; rfl) hl ?_ h
  unfold cut
  rw [if_pos (by omega)]
  simpa using q2
/-- A store of what is there already. -/
theorem W_storeSame {p off sz j o : Nat} {xs ys : List D} {d : D} (hg : guardV ρ g = some true) (hx : x.ev ρ = .ptr p off) (hv : y.ev ρ = d) (hR : RowIs st p sz xs) (ho : off = j * sz + o) (hxs : ∀ d ∈ xs, d.cells.length = sz) (hj : xs[j]? = some (.agg ys)) (hd : ys[o]? = some d) (h1 : d.cells = [d]) (h2 : d.one = true) (hm : mv = false)
    (h : WS Γ dr l ρ st (nx (.w p) R)) : WS Γ dr (⟨none, g, mv, .store 1 x y⟩ :: l) ρ st R := by
  obtain ⟨hl, _, cs, hb, e2, e3, _⟩ := hR
  subst ho
  obtain ⟨q1, q2⟩ := row_cut1 e2 e3 hxs hj hd
  have hst : { st with boxes := upd st.boxes p (some (.row cs)) } = st := by
    have : upd st.boxes p (some (.row cs)) = st.boxes := by
      funext q
      by_cases hq : q = p
      · subst hq; rw [upd_same, hb]
      · rw [upd_ne _ _ hq]
    rw [this]
  refine W_store (cs' := cs) hg hx hb rfl hl hv ?_ hm ?_
  · simp only [fillD]
    rw [if_pos ⟨by rw [h1]; rfl, by omega, by rw [h1]; simp [h2]⟩, h1]
    congr 1
    obtain ⟨hh, e⟩ := List.getElem?_eq_some_iff.mp q2
    rw [← e, List.append_assoc, List.singleton_append, List.getElem_cons_drop, List.take_append_drop]
  · show WS Γ dr l ρ { st with boxes := upd st.boxes p (some (.row cs)) } _
    rw [hst]
    exact h
/-- A copy, to be read. -/
theorem W_callCl {f : A} {as : List A} {fn : Nat} {caps : List D} {sz : Nat} {xs : List D} (hg : guardV ρ g = some true) (hf : f.ev ρ = .func fn caps) (ha : ((as.map (·.ev ρ) ++ caps).map D.strip).all D.freeA = true) (hr : EvX Γ fn ((as.map (·.ev ρ) ++ caps).map D.strip) (fun r => r = .slice .row sz xs ∨ r = .slice .no sz xs))
    (hm : mv = false) (h : WS Γ dr l (upd ρ k (.slice .no sz xs)) st (nx .n R)) : WS Γ dr (⟨some k, g, mv, .call f as⟩ :: l) ρ st R := by
  subst hm
  obtain ⟨r, hr0, hr⟩ := hr
  have key : absorb false r st = (.slice .no sz xs, st) ∧ hasFresh r = false := by rcases hr0 with rfl | rfl <;> exact ⟨rfl, rfl⟩
  exact WS_callP hg rfl hf ha hr (fun _ => ⟨key.2, rfl⟩) key.1 h
end
end Go.Ev
namespace Go.Ord
open Go.Ev
set_option linter.unusedVariables false
set_option linter.unusedSimpArgs false
theorem hp_el2 (a : Hp) : Elem 3 a.e ∧ (match a.e.cells with | [c] => (match a.e with | .agg _ => false | _ => true) | _ => (match a.e with | .agg _ => true | _ => false)) = true := ⟨⟨rfl, rfl⟩, rfl⟩
theorem s_clH (hs : List Hp) (hl : hs.length ≤ 1000000) (t : Tok) (s : Nat) (h3 : s = 3 ∨ hs = []) : EvX Γ 65 [.slice t s (hs.map Hp.e)] (fun r => r = .slice .row 3 (hs.map Hp.e) ∨ r = .slice .no 3 (hs.map Hp.e)) := by
  by_cases h : hs = []
  · subst h
    exact ⟨_, .inr rfl, EvP_prim rfl (by simp [cloneF])⟩
  · obtain ⟨r, hr, h2⟩ := clone_R (Γ := Γ) (f := 65) (bytes := 24) rfl hs (t := t) h3 (by omega) hp_el2
    rcases hr with ⟨h', _⟩ | rfl
    · exact absurd h' h
    · exact ⟨_, .inl rfl, h2⟩
theorem rt_ele (r : Rt) : Elem 2 r.e ∧ (match r.e.cells with | [c] => (match r.e with | .agg _ => false | _ => true) | _ => (match r.e with | .agg _ => true | _ => false)) = true := ⟨⟨rfl, rfl⟩, rfl⟩
theorem rt_mk (r : Rt) : r.e.cells.length = 2 ∧ mkD r.e.cells = r.e := ⟨rfl, rfl⟩
set_option maxHeartbeats 4000000 in
theorem l_cop (q c : Nat) (L : List Rt) (hsh : Short L) (hLl : L.length ≤ 1000000) : ∀ (T A0 : List Rt), L = A0 ++ T → ∀ (ρ : Nat → D) (st : Store), RowIs st q 2 (L.map Rt.e) →
    ρ 0 = .rs q 0 2 L.length c → ρ 7 = .int .i64 L.length → ρ 8 = .int .i64 A0.length → ∀ (Q : X → (Nat → D) → Store → Prop),
    (∀ ρ', ρ' 0 = .rs q 0 2 L.length c → Q (.exit 0) ρ' st) → WC Γ (.loop c_order_copied_l0) ρ st Q := by
  intro T
  induction T with
  | nil =>
    intro A0 hL ρ st hR h0 h7 h8 Q hQ
    have hA : A0.length = L.length := by rw [hL]; simp
    rw [hA] at h8
    rw [← upd_self h0, ← upd_self h7, ← upd_self h8]
    refine WC_loop ?_
    repeat' (first
 | (refine I_WS ?_; first
 | (refine I_bin ?_; first
 | refine W_lssF rfl rfl rfl rfl (by omega) ?_)
 | refine WS_nil ?_)
 | refine WC_seq ?_
 | refine WC_opsS ?_
 | refine WC_condF rfl ?_
 | refine WC_exit ?_)
    exact hQ _ rfl
  | cons x T ih =>
    intro A0 hL ρ st hR h0 h7 h8 Q hQ
    have hnx := ih (A0 ++ [x]) (by rw [hL]; simp)
    have hx : L[A0.length]? = some x := by rw [hL]; simp
    have hlt : A0.length < L.length := by rw [hL]; simp
    have hlt' : (A0.length : Int) < L.length := by omega
    have hx' := rt_at hx
    have hcl := fun t => s_clH x.hs (hsh x (by rw [hL]; simp)) t 3 (.inl rfl)
    have hadd : IntKind.i64.wrap ((A0.length : Int) + 1) = ((A0 ++ [x]).length : Nat) := by rw [w64 (by omega)]; simp
    have hne : (decide ((A0.length : Int) < L.length)) = true := decide_eq_true hlt'
    have hz : 0 + A0.length * 2 + 0 = A0.length * 2 + 0 := by omega
    rw [← upd_self h0, ← upd_self h7, ← upd_self h8]
    refine WC_loop ?_
    repeat' (first
 | (refine I_WS ?_; first
 | refine W_iaddrR (j := A0.length) rfl rfl rfl rfl hlt ?_
 | refine W_add (s := (((A0 ++ [x]).length : Nat) : Int)) rfl rfl rfl rfl hadd ?_
 | refine W_storeSame (j := A0.length) (o := 0) rfl rfl rfl hR hz rt_cells hx' rfl rfl rfl rfl ?_
 | (refine I_mov ?_; first
 | refine W_mov (v := .int _ _) rfl rfl rfl ?_
 | refine W_mov (v := .rs _ _ _ _ _) rfl rfl rfl ?_)
 | (refine I_bin ?_; first
 | refine W_lssT rfl rfl rfl rfl (by omega) ?_)
 | (refine I_load ?_; first
 | refine W_loadRow1 (j := A0.length) (o := 0) rfl rfl hR hz rt_cells hx' rfl rfl ?_)
 | (refine I_call ?_; first
 | refine W_callCl rfl rfl rfl (hcl _) rfl ?_)
 | refine W_faddr rfl rfl rfl ?_
 | refine WS_nil ?_)
 | refine WC_seq ?_
 | refine WC_opsS ?_
 | refine WC_skip ?_
 | refine WC_condT rfl ?_
 | refine WC_block ?_)
    refine hnx _ _ hR ?_ ?_ ?_ Q hQ <;> rfl
theorem s_copied (L : List Rt) (hsh : Short L) (hLl : L.length ≤ 1000000) (hne : L ≠ []) (t : Tok) (s : Nat) (hs : s = 2 ∨ L = []) : EvX Γ 37 [.slice t s (L.map Rt.e)] (IsR Rt.e 2 L) := by
  refine EvX_code rfl rfl ?_
  have hcl := fun t => clone_R (Γ := Γ) (f := 64) (bytes := 32) rfl L (t := t) hs (by omega) rt_ele
  have he := fun r => (rt_ele r).1
  have hel : Store.empty.lim ≤ Store.empty.next := Nat.le_refl _
  repeat' (first
 | (refine I_WS ?_; first
 | (refine I_mov ?_; first
 | refine W_mov (v := .slice _ _ _) rfl rfl rfl ?_)
 | (refine I_call ?_; first
 | refine W_callR rfl rfl rfl (hcl _) rfl rfl he hel ?_)
 | refine WS_nil ?_)
 | refine WC_seq ?_
 | refine WC_opsS ?_)
  intro st1 d1 k1 k2 k3 k4 hP k5 k6
  rcases hP with ⟨h, _⟩ | ⟨q, n, c, rfl, rfl, hR⟩
  · exact absurd h hne
  · repeat' (first
 | (refine I_WS ?_; first
 | (refine I_mov ?_; first
 | refine W_mov (v := .int _ _) rfl rfl rfl ?_
 | refine W_mov (v := .rs _ _ _ _ _) rfl rfl rfl ?_)
 | refine W_lenR rfl rfl rfl ?_
 | refine WS_nil ?_)
 | (refine l_cop q c L hsh hLl L [] rfl _ _ hR ?_ ?_ ?_ _ ?_ <;> first | rfl | (intro ρ2 m0))
 | refine WC_seq ?_
 | refine WC_opsS ?_
 | refine WC_block ?_)
    rw [← upd_self m0]
    repeat' (first
 | (refine I_WS ?_; first
 | (refine I_mov ?_; first
 | refine W_mov (v := .rs _ _ _ _ _) rfl rfl rfl ?_)
 | refine WS_nil ?_)
 | refine WC_ret ?_)
    exact finX_R (.inr rfl) rfl (.inr ⟨q, _, c, rfl, rfl, hR⟩) (by decide) rt_mk rfl
end Go.Ord

/-
  Sorting: the stable sort of few, then one of each.
-/
namespace Go.Ord
open Go.Ev
set_option linter.unusedVariables false
set_option linter.unusedSimpArgs false
/-- The stable sort in place of a row of so many. -/
def StabOK (N : Nat) : Prop := ∀ (L : List Rt) (p c n : Nat) (st : Store), L.length ≤ N → Short L → RowIs st p 2 (L.map Rt.e) → n = L.length → L ≠ [] →
  EvRWX Γ 66 [.rs p 0 2 n c, .int .i64 n, .func 21 []] st (fun r st' => r = .tuple [] ∧ FrR st st' p ∧ RowIs st' p 2 ((ssort L).map Rt.e))
set_option maxHeartbeats 4000000 in
theorem s_stabFew : StabOK 19 := by
  intro L p c n st hL hsh hR hn hne
  refine EvRWX_code rfl rfl ?_
  have hin := s_insSort p n c [] L [] st (by omega) (by simpa using hn) (by simpa using hsh) (by simpa using hR) 0 n rfl (by rw [hn]; rfl)
  have h1 : (n : Int) < 20 := by omega
  have h2 : (n : Int) ≤ 20 := by omega
  repeat' (first
 | (refine I_WS ?_; first
 | refine W_leqF rfl rfl rfl rfl h1 ?_
 | refine W_lssF rfl rfl rfl rfl h2 ?_
 | (refine I_mov ?_; first
 | refine W_mov (v := .int _ _) rfl rfl rfl ?_
 | refine W_mov (v := .func _ _) rfl rfl rfl ?_
 | refine W_mov (v := .rs _ _ _ _ _) rfl rfl rfl ?_)
 | (refine I_call ?_; first
 | (refine W_callRWX rfl rfl rfl hin ?_ <;> intro r1 st1 hp1))
 | refine WS_nil ?_)
 | refine WC_loop ?_
 | refine WC_seq ?_
 | refine WC_opsS ?_
 | refine WC_condF rfl ?_
 | refine WC_block ?_
 | refine WC_exit ?_)
  obtain ⟨rfl, hF, hR1⟩ := hp1
  skip
  exact ⟨.inl rfl, _, rfl, rfl, hF, by simpa using hR1⟩
theorem s_sortStable {N : Nat} (hN : StabOK N) (L : List Rt) (p c n : Nat) (st : Store) (hL : L.length ≤ N) (hsh : Short L) (hR : RowIs st p 2 (L.map Rt.e)) (hn : n = L.length) (hne : L ≠ []) :
    EvRWX Γ 38 [.rs p 0 2 n c, .func 21 []] st (fun r st' => r = .tuple [] ∧ FrR st st' p ∧ RowIs st' p 2 ((ssort L).map Rt.e)) := by
  refine EvRWX_code rfl rfl ?_
  have hin := hN L p c n st hL hsh hR hn hne
  repeat' (first
 | (refine I_WS ?_; first
 | (refine I_mov ?_; first
 | refine W_mov (v := .func _ _) rfl rfl rfl ?_
 | refine W_mov (v := .rs _ _ _ _ _) rfl rfl rfl ?_)
 | (refine I_call ?_; first
 | (refine W_callRWX rfl rfl rfl hin ?_ <;> intro r1 st1 hp1))
 | refine W_lenR rfl rfl rfl ?_
 | refine WS_nil ?_)
 | refine WC_opsS ?_)
  obtain ⟨rfl, hF, hR1⟩ := hp1
  skip
  exact ⟨.inl rfl, _, rfl, rfl, hF, hR1⟩
/-! ### One of each -/
def eqR (x y : Rt) : Bool := decide (cmpR x.hs x.ar y.hs y.ar = 0)
theorem s_eqR (x y : Rt) (hx : x.hs.length ≤ 1000000) (hy : y.hs.length ≤ 1000000) : EvP Γ 40 [.agg [.slice .no 3 (x.hs.map Hp.e), .int .i64 x.ar], .agg [.slice .no 3 (y.hs.map Hp.e), .int .i64 y.ar]] (.bool (eqR x y)) := by
  refine EvP_code rfl rfl ?_
  have hC := fun t t' => s_CompareR x.hs x.ar y.hs y.ar hx hy t t' 3 3 (.inl rfl) (.inl rfl)
  unfold eqR
  generalize cmpR x.hs x.ar y.hs y.ar = cc at *
  by_cases h : cc = 0
  · subst h
    repeat' (first
 | (refine I_WS ?_; first
 | (refine I_mov ?_; first
 | refine W_mov (v := .bool _) rfl rfl rfl ?_)
 | (refine I_bin ?_; first
 | refine W_eqlT rfl rfl rfl rfl (by omega) ?_)
 | (refine I_load ?_; first
 | refine W_load (agg := true) (d := .agg [_, _]) rfl rfl rfl rfl (by first | exact Nat.zero_le _ | omega) rfl ?_)
 | (refine I_call ?_; first
 | refine W_call rfl rfl rfl (hC _ _) rfl rfl ?_)
 | (refine I_box ?_; first
 | refine W_boxA rfl rfl rfl rfl rfl ?_)
 | refine WS_nil ?_)
 | refine WC_seq ?_
 | refine WC_opsS ?_
 | refine WC_ret ?_)
    all_goals first | exact fin_bool (.inr rfl) rfl rfl | (exfalso; omega)
  · rw [decide_eq_false h]
    repeat' (first
 | (refine I_WS ?_; first
 | (refine I_mov ?_; first
 | refine W_mov (v := .bool _) rfl rfl rfl ?_)
 | (refine I_bin ?_; first
 | refine W_eqlF rfl rfl rfl rfl (by omega) ?_)
 | (refine I_load ?_; first
 | refine W_load (agg := true) (d := .agg [_, _]) rfl rfl rfl rfl (by first | exact Nat.zero_le _ | omega) rfl ?_)
 | (refine I_call ?_; first
 | refine W_call rfl rfl rfl (hC _ _) rfl rfl ?_)
 | (refine I_box ?_; first
 | refine W_boxA rfl rfl rfl rfl rfl ?_)
 | refine WS_nil ?_)
 | refine WC_seq ?_
 | refine WC_opsS ?_
 | refine WC_ret ?_)
    all_goals first | exact fin_bool (.inr rfl) rfl rfl | (exfalso; omega)
def dd (z : Rt) : List Rt → List Rt
  | [] => []
  | x :: p => if eqR x z then dd x p else x :: dd x p
def cpt : List Rt → List Rt
  | [] => []
  | y :: r => y :: dd y r
theorem set_at {W J post : List Rt} {x j : Rt} : ((W ++ j :: J).map Rt.e).set W.length x.e = (W ++ x :: J).map Rt.e := by
  induction W with
  | nil => rfl
  | cons z A ih => simpa using ih
theorem jz {α : Type} (J : List α) (z : α) : ∃ j0 J', J ++ [z] = j0 :: J' ∧ J'.length = J.length := by
  cases J with
  | nil => exact ⟨z, [], rfl, rfl⟩
  | cons a J => exact ⟨a, J ++ [z], rfl, by simp⟩
set_option maxHeartbeats 8000000 in
theorem l_cpi (p n c k0 : Nat) (hnl : n ≤ 1000000) : ∀ (T W J : List Rt) (z : Rt) (km : Nat), n = (W ++ J ++ z :: T).length → k0 + km = (W ++ J).length → Short (W ++ J ++ z :: T) → ∀ (ρ : Nat → D) (st : Store), RowIs st p 2 ((W ++ J ++ z :: T).map Rt.e) →
    ρ 0 = .rs p 0 2 n c → ρ 1 = .func 40 [] → ρ 5 = .int .i64 W.length → ρ 6 = .rs p (0 + k0 * 2) 2 (n - k0) (c - k0) → ρ 7 = .int .i64 ((km + 1 : Nat) : Int) → ∀ (Q : X → (Nat → D) → Store → Prop),
    (∀ ρ' st' J', FrR st st' p → RowIs st' p 2 ((W ++ dd z T ++ J').map Rt.e) → n = (W ++ dd z T ++ J').length → ρ' 0 = .rs p 0 2 n c → ρ' 5 = .int .i64 ((W ++ dd z T).length : Nat) → Q (.exit 2) ρ' st') → WC Γ (.loop c_slices_CompactFunc_Route_l0) ρ st Q := by
  intro T
  induction T with
  | nil =>
    intro W J z km hn hk hsh ρ st hR h0 h1 h5 h6 h7 Q hQ
    have hge : ((n - k0 : Nat) : Int) ≤ ((km + 1 : Nat) : Int) := by
      have : n = k0 + km + 1 := by rw [hn, hk]; simp; omega
      omega
    rw [← upd_self h0, ← upd_self h1, ← upd_self h5, ← upd_self h6, ← upd_self h7]
    refine WC_loop ?_
    repeat' (first
 | (refine I_WS ?_; first
 | refine W_lssF rfl rfl rfl rfl hge ?_
 | (refine I_mov ?_; first
 | refine W_mov (v := .int _ _) rfl rfl rfl ?_
 | refine W_mov (v := .rs _ _ _ _ _) rfl rfl rfl ?_)
 | refine W_lenR rfl rfl rfl ?_
 | refine WS_nil ?_)
 | refine WC_seq ?_
 | refine WC_opsS ?_
 | refine WC_condF rfl ?_
 | refine WC_exit ?_)
    refine hQ _ _ (J ++ [z]) (FrR.refl _ _) (by simpa [dd] using hR) (by rw [hn]; simp [dd]) ?_ ?_
    · rfl
    · rw [dd, List.append_nil]; rfl
  | cons x T ih =>
    intro W J z km hn hk hsh ρ st hR h0 h1 h5 h6 h7 Q hQ
    have hlen : n = k0 + km + 1 + (x :: T).length := by rw [hn, hk]; simp; omega
    have hTl : (x :: T).length = T.length + 1 := rfl
    have hlt : ((km + 1 : Nat) : Int) < ((n - k0 : Nat) : Int) := by omega
    have hj1 : km + 1 < n - k0 := by omega
    have hj0 : km < n - k0 := by omega
    have hsub : IntKind.i64.wrap (((km + 1 : Nat) : Int) - 1) = ((km : Nat) : Int) := by rw [w64 (by omega)]; omega
    have hadd : IntKind.i64.wrap (((km + 1 : Nat) : Int) + 1) = ((km + 1 + 1 : Nat) : Int) := by rw [w64 (by omega)]; omega
    have hWn : W.length < n := by rw [hn]; simp; omega
    have hz1 : 0 + k0 * 2 + (km + 1) * 2 = ((W ++ J).length + 1) * 2 := by omega
    have hz0 : 0 + k0 * 2 + km * 2 = (W ++ J).length * 2 := by omega
    have hx : (W ++ J ++ z :: x :: T)[(W ++ J).length + 1]? = some x := by
      rw [List.getElem?_append_right (by omega)]; simp
    have hz : (W ++ J ++ z :: x :: T)[(W ++ J).length]? = some z := by
      rw [List.getElem?_append_right (by omega)]; simp
    have hx' := rt_at hx
    have hzz := rt_at hz
    have hxl := hsh x (by simp)
    have hzl := hsh z (by simp)
    have hC := s_eqR x z hxl hzl
    by_cases he : eqR x z = true
    · rw [he] at hC
      have e1 : W ++ J ++ z :: x :: T = W ++ (J ++ [z]) ++ x :: T := by simp
      rw [dd, if_pos he] at hQ
      have hnx := ih W (J ++ [z]) x (km + 1) (by rw [hn, e1]) (by rw [← Nat.add_assoc, hk]; simp; omega) (by rw [← e1]; exact hsh)
      clear ih
      rw [← upd_self h0, ← upd_self h1, ← upd_self h5, ← upd_self h6, ← upd_self h7]
      refine WC_loop ?_
      repeat' (first
 | (refine I_WS ?_; first
 | refine W_lssT rfl rfl rfl rfl hlt ?_
 | refine W_sub (s := ((km : Nat) : Int)) rfl rfl rfl rfl hsub ?_
 | refine W_add (s := ((km + 1 + 1 : Nat) : Int)) rfl rfl rfl rfl hadd ?_
 | refine W_iaddrR (j := km + 1) rfl rfl rfl rfl hj1 ?_
 | refine W_iaddrR (j := km) rfl rfl rfl rfl hj0 ?_
 | (refine I_mov ?_; first
 | refine W_mov (v := .int _ _) rfl rfl rfl ?_
 | refine W_mov (v := .func _ _) rfl rfl rfl ?_
 | refine W_mov (v := .rs _ _ _ _ _) rfl rfl rfl ?_)
 | (refine I_load ?_; first
 | refine W_loadRow (j := (W ++ J).length + 1) rfl rfl hR.at hz1 rt_cells hx' rfl ?_
 | refine W_loadRow (j := (W ++ J).length) rfl rfl hR.at hz0 rt_cells hzz rfl ?_)
 | (refine I_call ?_; first
 | refine W_call rfl rfl rfl hC rfl rfl ?_)
 | refine W_not rfl rfl rfl ?_
 | refine W_lenR rfl rfl rfl ?_
 | refine WS_nil ?_)
 | refine okF_intro (okFlags_onlyR rfl) ?_
 | refine WC_seq ?_
 | refine WC_opsS ?_
 | refine WC_drawS ?_
 | refine WC_skip ?_
 | refine WC_condT rfl ?_
 | refine WC_condF rfl ?_
 | refine WC_block ?_)
      rw [e1] at hR
      refine hnx _ _ hR ?_ ?_ ?_ ?_ ?_ Q hQ <;> rfl
    · rw [Bool.not_eq_true] at he
      rw [he] at hC
      rw [dd, if_neg (by rw [he]; decide)] at hQ
      obtain ⟨j0, J', hJ, hJl⟩ := jz J z
      have e1 : W ++ J ++ z :: x :: T = W ++ j0 :: (J' ++ x :: T) := by
        rw [List.append_assoc, show J ++ z :: x :: T = (J ++ [z]) ++ x :: T from by simp, hJ]; rfl
      have e2 : W ++ x :: (J' ++ x :: T) = W ++ [x] ++ J' ++ x :: T := by simp
      have hnx := ih (W ++ [x]) J' x (km + 1) (by rw [hn, e1, ← e2]; simp) (by rw [← Nat.add_assoc, hk]; simp; omega) (short_perm hsh (fun r hr => by
        rw [e1]
        rw [← e2] at hr
        simp only [List.mem_append, List.mem_cons] at hr ⊢
        rcases hr with h | h | h | h | h <;> simp [h]))
      clear ih
      have hst := @set_at W (J' ++ x :: T) [] x j0
      have hW1 : W.length < ((W ++ J ++ z :: x :: T).map Rt.e).length := by rw [List.length_map, ← hn]; exact hWn
      have hadd5 : IntKind.i64.wrap ((W.length : Int) + 1) = ((W ++ [x]).length : Nat) := by rw [w64 (by omega)]; simp
      have hzw : 0 + W.length * 2 = W.length * 2 := by omega
      rw [← upd_self h0, ← upd_self h1, ← upd_self h5, ← upd_self h6, ← upd_self h7]
      refine WC_loop ?_
      repeat' (first
 | (refine I_WS ?_; first
 | refine W_lssT rfl rfl rfl rfl hlt ?_
 | refine W_sub (s := ((km : Nat) : Int)) rfl rfl rfl rfl hsub ?_
 | refine W_iaddrR (j := km + 1) rfl rfl rfl rfl hj1 ?_
 | refine W_iaddrR (j := km) rfl rfl rfl rfl hj0 ?_
 | refine W_iaddrR (j := W.length) rfl rfl rfl rfl hWn ?_
 | refine W_add (s := (((W ++ [x]).length : Nat) : Int)) rfl rfl rfl rfl hadd5 ?_
 | (refine I_mov ?_; first
 | refine W_mov (v := .int _ _) rfl rfl rfl ?_
 | refine W_mov (v := .func _ _) rfl rfl rfl ?_
 | refine W_mov (v := .rs _ _ _ _ _) rfl rfl rfl ?_)
 | (refine I_bin ?_; first
 | refine W_add rfl rfl rfl rfl (by first | exact w64 (by omega) | rfl) ?_)
 | (refine I_load ?_; first
 | refine W_loadRow (j := (W ++ J).length + 1) rfl rfl hR.at hz1 rt_cells hx' rfl ?_
 | refine W_loadRow (j := (W ++ J).length) rfl rfl hR.at hz0 rt_cells hzz rfl ?_)
 | (refine I_call ?_; first
 | refine W_call rfl rfl rfl hC rfl rfl ?_)
 | (refine I_store ?_; first
 | (refine W_storeRow (j := W.length) rfl rfl rfl hR hzw rt_cells hW1 rfl rfl rfl ?_ <;> intro st1 f1 f2 f3 f4 f5 hR1 hb2))
 | refine W_not rfl rfl rfl ?_
 | refine W_lenR rfl rfl rfl ?_
 | refine WS_nil ?_)
 | refine okF_intro (okFlags_onlyR rfl) ?_
 | refine WC_seq ?_
 | refine WC_opsS ?_
 | refine WC_drawS ?_
 | refine WC_skip ?_
 | refine WC_condT rfl ?_
 | refine WC_block ?_)
      skip
      have hR3 : RowIs st1 p 2 ((W ++ [x] ++ J' ++ x :: T).map Rt.e) := by
        rw [← e2, ← hst, ← e1]; exact hR1
      refine hnx _ _ hR3 ?_ ?_ ?_ ?_ ?_ Q (fun ρ' st' J2 hF hR' hn' k0' k5' => hQ ρ' st' J2 (FrR.trans ⟨f1, f2, f3, f4, f5, hb2⟩ hF) (by simpa using hR') (by simpa using hn') k0' (by rw [k5']; simp)) <;> rfl
end Go.Ord

/-
  Sort.
-/
namespace Go.Ord
open Go.Ev
set_option linter.unusedVariables false
set_option linter.unusedSimpArgs false
theorem map_at {M J : List Rt} : (M ++ J).map Rt.e = M.map Rt.e ++ J.map Rt.e := List.map_append
set_option maxHeartbeats 8000000 in
theorem l_cpo (p n c : Nat) (hnl : n ≤ 1000000) (hc : n ≤ c) : ∀ (T A0 : List Rt) (y : Rt), n = (A0 ++ y :: T).length → Short (A0 ++ y :: T) → ∀ (ρ : Nat → D) (st : Store), RowIs st p 2 ((A0 ++ y :: T).map Rt.e) →
    ρ 0 = .rs p 0 2 n c → ρ 1 = .func 40 [] → ρ 5 = .int .i64 ((A0.length + 1 : Nat) : Int) → ∀ (Q : X → (Nat → D) → Store → Prop),
    (∀ ρ', dd y T = T → ρ' 0 = .rs p 0 2 n c → Q (.exit 0) ρ' st) →
    (∀ ρ' st', FrR st st' p → RowIs st' p 2 ((A0 ++ y :: dd y T).map Rt.e) → ρ' 4 = .rs p 0 2 (A0 ++ y :: dd y T).length c → Q .ret ρ' st') → WC Γ (.loop c_slices_CompactFunc_Route_l1) ρ st Q := by
  intro T
  induction T with
  | nil =>
    intro A0 y hn hsh ρ st hR h0 h1 h5 Q hQ hQ'
    have hge : (n : Int) ≤ ((A0.length + 1 : Nat) : Int) := by rw [hn]; simp
    rw [← upd_self h0, ← upd_self h1, ← upd_self h5]
    refine WC_loop ?_
    repeat' (first
 | (refine I_WS ?_; first
 | refine W_lssF rfl rfl rfl rfl hge ?_
 | (refine I_mov ?_; first
 | refine W_mov (v := .int _ _) rfl rfl rfl ?_
 | refine W_mov (v := .rs _ _ _ _ _) rfl rfl rfl ?_)
 | refine W_lenR rfl rfl rfl ?_
 | refine WS_nil ?_)
 | refine WC_seq ?_
 | refine WC_opsS ?_
 | refine WC_condF rfl ?_
 | refine WC_exit ?_)
    exact hQ _ rfl rfl
  | cons x T ih =>
    intro A0 y hn hsh ρ st hR h0 h1 h5 Q hQ hQ'
    have hln : A0.length + 1 < n := by rw [hn]; simp
    have hlt : ((A0.length + 1 : Nat) : Int) < (n : Int) := by omega
    have hA0 : A0.length < n := by omega
    have hsub : IntKind.i64.wrap (((A0.length + 1 : Nat) : Int) - 1) = ((A0.length : Nat) : Int) := by rw [w64 (by omega)]; omega
    have hadd : IntKind.i64.wrap (((A0.length + 1 : Nat) : Int) + 1) = (((A0 ++ [y]).length + 1 : Nat) : Int) := by rw [w64 (by omega)]; simp
    have hx : (A0 ++ y :: x :: T)[A0.length + 1]? = some x := by
      rw [List.getElem?_append_right (by omega)]; simp
    have hy : (A0 ++ y :: x :: T)[A0.length]? = some y := by
      rw [List.getElem?_append_right (by omega)]; simp
    have hx' := rt_at hx
    have hy' := rt_at hy
    have hxl := hsh x (by simp)
    have hyl := hsh y (by simp)
    have hC := s_eqR x y hxl hyl
    have hz1 : 0 + (A0.length + 1) * 2 = (A0.length + 1) * 2 := by omega
    have hz0 : 0 + A0.length * 2 = A0.length * 2 := by omega
    by_cases he : eqR x y = true
    · rw [he] at hC
      have e1 : A0 ++ y :: x :: T = (A0 ++ [y]) ++ [] ++ x :: T := by simp
      have hin := l_cpi p n c (A0.length + 1) hnl T (A0 ++ [y]) [] x 0 (by rw [hn, e1]) (by simp) (by rw [← e1]; exact hsh)
      rw [dd, if_pos he] at hQ'
      have hle : A0.length + 1 ≤ n := by omega
      have hW5 : D.int .i64 ((A0.length + 1 : Nat) : Int) = D.int .i64 ((A0 ++ [y]).length : Nat) := by simp
      clear ih
      rw [← upd_self h0, ← upd_self h1, ← upd_self h5]
      refine WC_loop ?_
      rw [e1] at hR
      have hx2 := hx'
      have hy2 := hy'
      rw [e1] at hx2 hy2
      repeat' (first
 | (refine I_WS ?_; first
 | refine W_lssT rfl rfl rfl rfl hlt ?_
 | refine W_sub (s := ((A0.length : Nat) : Int)) rfl rfl rfl rfl hsub ?_
 | refine W_iaddrR (j := A0.length + 1) rfl rfl rfl rfl hln ?_
 | refine W_iaddrR (j := A0.length) rfl rfl rfl rfl hA0 ?_
 | refine W_sliceRLo (j := A0.length + 1) rfl rfl rfl hle hc rfl ?_
 | (refine I_mov ?_; first
 | refine W_mov (v := .int _ _) rfl rfl rfl ?_
 | refine W_mov (v := .func _ _) rfl rfl rfl ?_
 | refine W_mov (v := .rs _ _ _ _ _) rfl rfl rfl ?_)
 | (refine I_load ?_; first
 | refine W_loadRow (j := A0.length + 1) rfl rfl hR.at hz1 rt_cells hx2 rfl ?_
 | refine W_loadRow (j := A0.length) rfl rfl hR.at hz0 rt_cells hy2 rfl ?_)
 | (refine I_call ?_; first
 | refine W_call rfl rfl rfl hC rfl rfl ?_)
 | refine W_lenR rfl rfl rfl ?_
 | refine WS_nil ?_)
 | refine okF_intro (okFlags_onlyR rfl) ?_
 | (refine hin _ _ hR ?_ ?_ ?_ ?_ ?_ _ ?_ <;> first | rfl | exact hW5 | (intro ρ2 st2 J2 hF hR2 hn2 k0 k5))
 | refine WC_seq ?_
 | refine WC_opsS ?_
 | refine WC_drawS ?_
 | refine WC_skip ?_
 | refine WC_condT rfl ?_
 | refine WC_block ?_)
      rw [← upd_self k0, ← upd_self k5]
      have hspl : n = ((A0 ++ [y]) ++ dd x T).length + J2.length := by rw [hn2]; exact List.length_append
      have hM : ((A0 ++ [y]) ++ dd x T).length ≤ n := by rw [hspl]; exact Nat.le_add_right _ _
      have hMc : ((A0 ++ [y]) ++ dd x T).length ≤ c := Nat.le_trans hM hc
      have hMz : 0 + ((A0 ++ [y]) ++ dd x T).length * 2 = (((A0 ++ [y]) ++ dd x T).map Rt.e).length * 2 := by rw [List.length_map]; omega
      have hMn : n - ((A0 ++ [y]) ++ dd x T).length = (J2.map Rt.e).length := by rw [List.length_map]; omega
      rw [map_at] at hR2
      have e3 : A0 ++ [y] ++ dd x T = A0 ++ y :: dd x T := by simp
      generalize hMM : A0 ++ [y] ++ dd x T = M at *
      rw [← e3] at hQ'
      generalize hml : M.length = m at *
      have hasm : asNat (D.int .i64 (m : Int)) = some m := by simp [asNat]
      repeat' (first
 | (refine I_WS ?_; first
 | refine W_sliceRLo (j := m) rfl rfl hasm hM hc rfl ?_
 | refine W_sliceRHi (j := m) rfl rfl hasm hMc rfl ?_
 | (refine W_clearRow rfl rfl hR2 hMz rfl hMn rt_cells rfl rfl rfl ?_ <;> intro st3 f1 f2 f3 f4 f5 hR3 hb2)
 | (refine I_mov ?_; first
 | refine W_mov (v := .int _ _) rfl rfl rfl ?_
 | refine W_mov (v := .rs _ _ _ _ _) rfl rfl rfl ?_)
 | refine WS_nil ?_)
 | refine WC_seq ?_
 | refine WC_opsS ?_
 | refine WC_ret ?_)
      skip
      refine hQ' _ _ (hF.trans ⟨f1, f2, f3, f4, f5, hb2⟩) hR3 ?_
      rfl
    · rw [Bool.not_eq_true] at he
      rw [he] at hC
      have e1 : A0 ++ y :: x :: T = (A0 ++ [y]) ++ x :: T := by simp
      rw [dd, if_neg (by rw [he]; decide)] at hQ hQ'
      have hnx := ih (A0 ++ [y]) x (by rw [hn, e1]) (by rw [← e1]; exact hsh)
      clear ih
      rw [← upd_self h0, ← upd_self h1, ← upd_self h5]
      refine WC_loop ?_
      repeat' (first
 | (refine I_WS ?_; first
 | refine W_lssT rfl rfl rfl rfl hlt ?_
 | refine W_sub (s := ((A0.length : Nat) : Int)) rfl rfl rfl rfl hsub ?_
 | refine W_add (s := (((A0 ++ [y]).length + 1 : Nat) : Int)) rfl rfl rfl rfl hadd ?_
 | refine W_iaddrR (j := A0.length + 1) rfl rfl rfl rfl hln ?_
 | refine W_iaddrR (j := A0.length) rfl rfl rfl rfl hA0 ?_
 | (refine I_mov ?_; first
 | refine W_mov (v := .int _ _) rfl rfl rfl ?_
 | refine W_mov (v := .func _ _) rfl rfl rfl ?_
 | refine W_mov (v := .rs _ _ _ _ _) rfl rfl rfl ?_)
 | (refine I_load ?_; first
 | refine W_loadRow (j := A0.length + 1) rfl rfl hR.at hz1 rt_cells hx' rfl ?_
 | refine W_loadRow (j := A0.length) rfl rfl hR.at hz0 rt_cells hy' rfl ?_)
 | (refine I_call ?_; first
 | refine W_call rfl rfl rfl hC rfl rfl ?_)
 | refine W_lenR rfl rfl rfl ?_
 | refine WS_nil ?_)
 | refine okF_intro (okFlags_onlyR rfl) ?_
 | refine WC_seq ?_
 | refine WC_opsS ?_
 | refine WC_drawS ?_
 | refine WC_skip ?_
 | refine WC_condT rfl ?_
 | refine WC_condF rfl ?_
 | refine WC_block ?_)
      rw [e1] at hR
      refine hnx _ _ hR ?_ ?_ ?_ Q (fun ρ' h k0 => hQ ρ' (by rw [h]) k0) (fun ρ' st' hF hR' k4 => hQ' ρ' st' hF (by simpa using hR') (by rw [k4]; simp)) <;> rfl
theorem s_cpt (L : List Rt) (p n c : Nat) (st : Store) (hnl : n ≤ 1000000) (hc : n ≤ c) (hn : n = L.length) (hne : L ≠ []) (hsh : Short L) (hR : RowIs st p 2 (L.map Rt.e)) :
    EvRWX Γ 39 [.rs p 0 2 n c, .func 40 []] st (fun r st' => r = .rs p 0 2 (cpt L).length c ∧ FrR st st' p ∧ RowIs st' p 2 ((cpt L).map Rt.e)) := by
  refine EvRWX_code rfl rfl ?_
  cases L with
  | nil => exact absurd rfl hne
  | cons y T =>
    have hlo := l_cpo p n c hnl hc T [] y hn hsh
    by_cases h2 : n < 2
    · have hT : T = [] := by
        cases T with
        | nil => rfl
        | cons a b => simp at hn; omega
      subst hT
      have hn1 : n = 1 := hn
      subst hn1
      repeat' (first
 | (refine I_WS ?_; first
 | (refine I_mov ?_; first
 | refine W_mov (v := .slice _ _ _) rfl rfl rfl ?_
 | refine W_mov (v := .rs _ _ _ _ _) rfl rfl rfl ?_)
 | (refine I_bin ?_; first
 | refine W_lssT rfl rfl rfl rfl (by omega) ?_)
 | refine W_lenR rfl rfl rfl ?_
 | refine WS_nil ?_)
 | refine WC_seq ?_
 | refine WC_opsS ?_
 | refine WC_condT rfl ?_
 | refine WC_ret ?_)
      exact ⟨.inr rfl, _, rfl, rfl, FrR.refl _ _, hR⟩
    · have hge : (2 : Int) ≤ (n : Int) := by omega
      repeat' (first
 | (refine I_WS ?_; first
 | refine W_lssF rfl rfl rfl rfl hge ?_
 | (refine I_mov ?_; first
 | refine W_mov (v := .int _ _) rfl rfl rfl ?_
 | refine W_mov (v := .slice _ _ _) rfl rfl rfl ?_
 | refine W_mov (v := .rs _ _ _ _ _) rfl rfl rfl ?_)
 | refine W_lenR rfl rfl rfl ?_
 | refine WS_nil ?_)
 | (refine hlo _ _ hR ?_ ?_ ?_ _ ?_ ?_ <;> first | rfl | (intro ρ2 st2 hF hR2 k4) | (intro ρ2 hd k0))
 | refine WC_seq ?_
 | refine WC_opsS ?_
 | refine WC_skip ?_
 | refine WC_condF rfl ?_
 | refine WC_block ?_)
      · rw [← upd_self k0]
        repeat' (first
 | (refine I_WS ?_; first
 | (refine I_mov ?_; first
 | refine W_mov (v := .rs _ _ _ _ _) rfl rfl rfl ?_)
 | refine WS_nil ?_)
 | refine WC_ret ?_)
        refine ⟨.inr rfl, _, rfl, ?_, FrR.refl _ _, ?_⟩
        · rw [cpt, hd, ← hn]; rfl
        · rw [cpt, hd]; exact hR
      · exact ⟨.inr rfl, _, congrArg some k4, rfl, hF, hR2⟩
end Go.Ord

/-
  Sort, of so many as the stable sort is known for.
-/
namespace Go.Ord
open Go.Ev
set_option linter.unusedVariables false
set_option linter.unusedSimpArgs false
def sortM (L : List Rt) : List Rt := cpt (ssort L)
theorem ssort_ne {L : List Rt} (h : L ≠ []) : ssort L ≠ [] := fun h' => h (by
  have := ssort_len L
  rw [h'] at this
  exact List.length_eq_zero_iff.1 this.symm)
theorem short_ssort {L : List Rt} (h : Short L) : Short (ssort L) := short_perm h (fun r hr => (ssort_mem r L).1 hr)
theorem s_copied' (L : List Rt) (hsh : Short L) (hLl : L.length ≤ 1000000) (hne : L ≠ []) (t : Tok) (s : Nat) (hs : s = 2 ∨ L = []) : EvP Γ 37 [.slice t s (L.map Rt.e)] (.slice .row 2 (L.map Rt.e)) := by
  obtain ⟨r, hr, h⟩ := s_copied L hsh hLl hne t s hs
  rcases hr with ⟨h', _⟩ | rfl
  · exact absurd h' hne
  · exact h
theorem rt_elem {L : List Rt} : ∀ d ∈ L.map Rt.e, Elem 2 d := fun d hd => by
  obtain ⟨r, _, rfl⟩ := List.mem_map.1 hd
  exact (rt_ele r).1
set_option maxHeartbeats 4000000 in
theorem s_Sort {N : Nat} (hN : StabOK N) (L : List Rt) (hL : L.length ≤ N) (hNl : N ≤ 1000000) (hsh : Short L) (hne : L ≠ []) (t : Tok) (s : Nat) (hs : s = 2 ∨ L = []) :
    EvX Γ 15 [.slice t s (L.map Rt.e)] (IsR Rt.e 2 (sortM L)) := by
  refine EvX_code rfl rfl ?_
  have hcl := fun t => s_copied' L hsh (by omega) hne t s hs
  have hel : Store.empty.lim ≤ Store.empty.next := Nat.le_refl _
  have hlen : (L.map Rt.e).length = L.length := List.length_map _
  repeat' (first
 | (refine I_WS ?_; first
 | (refine I_mov ?_; first
 | refine W_mov (v := .slice _ _ _) rfl rfl rfl ?_
 | refine W_mov (v := .rs _ _ _ _ _) rfl rfl rfl ?_)
 | (refine I_call ?_; first
 | (refine W_callRowM rfl rfl rfl (hcl _) rfl rfl rt_elem hel ?_ <;> intro st1 k1 k2 k3 k4 hR1 k5 k6))
 | refine WS_nil ?_)
 | refine WC_seq ?_
 | refine WC_opsS ?_)
  rw [hlen]
  generalize Store.empty.next = p at *
  have h2 := s_sortStable hN L p L.length L.length st1 hL hsh hR1 rfl hne
  repeat' (first
 | (refine I_WS ?_; first
 | (refine I_mov ?_; first
 | refine W_mov (v := .rs _ _ _ _ _) rfl rfl rfl ?_)
 | (refine I_call ?_; first
 | (refine W_callRWX rfl rfl rfl h2 ?_ <;> intro r2 st2 hp2))
 | refine WS_nil ?_)
 | refine WC_seq ?_
 | refine WC_opsS ?_)
  obtain ⟨rfl, hF2, hR2⟩ := hp2
  have h3 := s_cpt (ssort L) p L.length L.length st2 (by omega) (Nat.le_refl _) (ssort_len L).symm (ssort_ne hne) (short_ssort hsh) hR2
  repeat' (first
 | (refine I_WS ?_; first
 | (refine I_call ?_; first
 | (refine W_callRWX rfl rfl rfl h3 ?_ <;> intro r3 st3 hp3))))
  obtain ⟨rfl, hF3, hR3⟩ := hp3
  repeat' (first
 | (refine I_WS ?_; first
 | (refine I_mov ?_; first
 | refine W_mov (v := .rs _ _ _ _ _) rfl rfl rfl ?_)
 | refine WS_nil ?_)
 | refine WC_ret ?_)
  exact finX_R (.inr rfl) rfl (.inr ⟨p, _, _, rfl, rfl, hR3⟩) (by decide) rt_mk rfl
/-! ### Two routes -/
theorem ltR_iff {x y : Rt} : ltR x y = true ↔ cmpR x.hs x.ar y.hs y.ar < 0 := by unfold ltR; exact decide_eq_true_iff
theorem eqR_iff {x y : Rt} : eqR x y = true ↔ cmpR x.hs x.ar y.hs y.ar = 0 := by unfold eqR; exact decide_eq_true_iff
theorem sortM2 (a b : Rt) : sortM [a, b] = if cmpR b.hs b.ar a.hs a.ar < 0 then [b, a] else if cmpR b.hs b.ar a.hs a.ar = 0 then [a] else [a, b] := by
  have h := cmpR_anti a.hs a.ar b.hs b.ar
  have e0 : ssort [a, b] = if ltR b a then [b, a] else [a, b] := by
    simp only [ssort, List.foldl_cons, List.foldl_nil, insL_nil]
    rw [show [a] = ([] : List Rt) ++ [a] from rfl, insL_snoc]
    rfl
  unfold sortM
  rw [e0]
  by_cases h1 : cmpR b.hs b.ar a.hs a.ar < 0
  · rw [if_pos (ltR_iff.2 h1), if_pos h1, cpt, dd, if_neg (by rw [eqR_iff]; omega)]
    rfl
  · rw [if_neg (by rw [ltR_iff]; exact h1), if_neg h1, cpt, dd]
    by_cases h2 : cmpR b.hs b.ar a.hs a.ar = 0
    · rw [if_pos (eqR_iff.2 h2), if_pos h2]
      rfl
    · rw [if_neg (by rw [eqR_iff]; exact h2), if_neg h2]
      rfl
end Go.Ord

/-
  Who is there by more hops, or later, is behind.
-/
namespace Go.Ord
open Go.Ev
set_option linter.unusedVariables false
set_option linter.unusedSimpArgs false
theorem longer_cmp (h m : List Hp) (a d : Int) (hd : 0 ≤ d) : cmpR h a (h ++ m) (a + d) = if d = 0 ∧ m = [] then 0 else -1 := by
  by_cases h1 : d = 0
  · subst h1
    rw [Int.add_zero]
    by_cases h2 : m = []
    · subst h2
      rw [List.append_nil, if_pos ⟨rfl, rfl⟩]
      exact cmpR_self h a
    · rw [if_neg (fun e => h2 e.2)]
      refine cmpR_n ?_
      rw [List.length_append]
      have := List.length_pos_iff.2 h2
      omega
  · rw [if_neg (fun e => h1 e.1)]
    exact cmpR_a (by omega)
theorem s_SortN {N : Nat} (hN : StabOK N) (L : List Rt) (hL : L.length ≤ N) (hNl : N ≤ 1000000) (hsh : Short L) (hne : L ≠ []) (t : Tok) :
    EvX Γ 15 [.slice t 2 (L.map Rt.e)] (IsN Rt.e 2 (sortM L)) := (s_Sort hN L hL hNl hsh hne t 2 (.inl rfl)).mono fun r h => h.n
set_option maxHeartbeats 4000000 in
theorem run_Longer (r : Rt) (m : List Hp) (d : Int) (hr : -9223372036854775808 ≤ r.ar) (t3 : Tok) (s3 : Nat) (hs3 : s3 = 3 ∨ m = []) : EvP Γ 7 [r.e, .slice t3 s3 (m.map Hp.e), .int .i64 d] (.bool true) := by
  refine EvP_code rfl rfl ?_
  obtain ⟨hs, ar⟩ := r
  simp only [Rt.e]
  simp only at hr
  by_cases hf : hs.length ≤ 50 ∧ m.length ≤ 50 ∧ 0 ≤ d ∧ ar ≤ 1152921504606846976 ∧ d ≤ 1152921504606846976
  · obtain ⟨f1, f2, f3, f4, f5⟩ := hf
    have hml : (hs ++ m).length ≤ 1000000 := by rw [List.length_append]; omega
    have hc1 := longer_cmp hs m ar d f3
    have hc2 := cmpR_anti (hs ++ m) (ar + d) hs ar
    have e1 := fun t t' => s_LessR hs ar (hs ++ m) (ar + d) (by omega) hml t t' 3 3 (.inl rfl) (.inl rfl)
    have e2 := fun t t' => s_LessR (hs ++ m) (ar + d) hs ar hml (by omega) t t' 3 3 (.inl rfl) (.inl rfl)
    have hsh1 : Short [⟨hs ++ m, ar + d⟩, ⟨hs, ar⟩] := fun r hr => by
      simp only [List.mem_cons, List.not_mem_nil, or_false] at hr
      rcases hr with rfl | rfl
      · exact hml
      · show hs.length ≤ _; omega
    have hsh2 : Short [⟨hs, ar⟩, ⟨hs ++ m, ar + d⟩] := fun r hr => by
      simp only [List.mem_cons, List.not_mem_nil, or_false] at hr
      rcases hr with rfl | rfl
      · show hs.length ≤ _; omega
      · exact hml
    have e3 : ∀ t, EvX Γ 15 [.slice t 2 [.agg [.slice .no 3 ((hs ++ m).map Hp.e), .int .i64 (ar + d)], .agg [.slice .no 3 (hs.map Hp.e), .int .i64 ar]]] (IsN Rt.e 2 (sortM [⟨hs ++ m, ar + d⟩, ⟨hs, ar⟩])) := fun t => s_SortN s_stabFew [⟨hs ++ m, ar + d⟩, ⟨hs, ar⟩] (Nat.le_of_ble_eq_true rfl) (by decide) hsh1 (by simp) t
    have e4 : ∀ t, EvX Γ 15 [.slice t 2 [.agg [.slice .no 3 (hs.map Hp.e), .int .i64 ar], .agg [.slice .no 3 ((hs ++ m).map Hp.e), .int .i64 (ar + d)]]] (IsN Rt.e 2 (sortM [⟨hs, ar⟩, ⟨hs ++ m, ar + d⟩])) := fun t => s_SortN s_stabFew [⟨hs, ar⟩, ⟨hs ++ m, ar + d⟩] (Nat.le_of_ble_eq_true rfl) (by decide) hsh2 (by simp) t
    have hl3 : (sortM [⟨hs ++ m, ar + d⟩, ⟨hs, ar⟩]).length = if d = 0 ∧ m = [] then 1 else 2 := by
      rw [sortM2]
      simp only [hc1]
      split
      · rfl
      · rfl
    have hl4 : (sortM [⟨hs, ar⟩, ⟨hs ++ m, ar + d⟩]).length = if d = 0 ∧ m = [] then 1 else 2 := by
      rw [sortM2]
      simp only [hc2, hc1]
      split
      · rfl
      · rfl
    rw [hc1] at e1
    rw [hc2, hc1] at e2
    generalize sortM [⟨hs ++ m, ar + d⟩, ⟨hs, ar⟩] = X1 at *
    generalize sortM [⟨hs, ar⟩, ⟨hs ++ m, ar + d⟩] = X2 at *
    have hadd : IntKind.i64.wrap (ar + d) = ar + d := w64 (by omega)
    rw [List.map_append] at e1 e2 e3 e4
    have hO1 : AppOK { Store.empty with boxes := upd Store.empty.boxes 0 (some (.cells [.slice .no 3 (hs.map Hp.e), .int .i64 ar])), next := 1 } 3 .exact 3 [] := .inl ⟨.inr rfl, .inl rfl⟩
    have hb1 : (([] : List D).length + (hs.map Hp.e).length) * 24 ≤ 140737488355328 := by simp; omega
    have hb2 : (([] ++ hs.map Hp.e).length + (m.map Hp.e).length) * 24 ≤ 140737488355328 := by simp; omega
    have hs3' : s3 = 3 ∨ m.map Hp.e = [] := by rcases hs3 with h | h; exact .inl h; exact .inr (by rw [h]; rfl)
    by_cases hsame : d = 0 ∧ m = []
    · rw [if_pos hsame] at hl3 hl4 e1 e2
      have hm0 : m.length = 0 := by rw [hsame.2]; rfl
      have hd0 := hsame.1
      clear hsame
      have e1 : ∀ t t', EvP Γ 23 [.agg [.slice t 3 (hs.map Hp.e), .int .i64 ar], .agg [.slice t' 3 (hs.map Hp.e ++ m.map Hp.e), .int .i64 (ar + d)]] (.bool false) := e1
      have e2 : ∀ t t', EvP Γ 23 [.agg [.slice t 3 (hs.map Hp.e ++ m.map Hp.e), .int .i64 (ar + d)], .agg [.slice t' 3 (hs.map Hp.e), .int .i64 ar]] (.bool false) := e2
      repeat' (first
 | (refine I_WS ?_; first
 | refine W_lenM rfl rfl rfl ?_
 | (refine I_mov ?_; first
 | refine W_mov (v := .int _ _) rfl rfl rfl ?_
 | refine W_mov (v := .bool _) rfl rfl rfl ?_
 | refine W_mov (v := .slice _ _ _) rfl rfl rfl ?_)
 | (refine I_bin ?_; first
 | refine W_lssF rfl rfl rfl rfl (by omega) ?_
 | refine W_gtrF rfl rfl rfl rfl (by omega) ?_)
 | (refine I_load ?_; first
 | refine W_load (agg := false) (d := .slice _ _ _) rfl rfl rfl rfl (Nat.zero_le _) rfl ?_
 | refine W_load (agg := false) (d := .int _ _) rfl rfl rfl rfl (Nat.zero_le _) rfl ?_)
 | (refine I_call ?_; first
 | refine W_call rfl rfl rfl s_small rfl rfl ?_)
 | (refine I_pick ?_; first
 | refine W_pick (v := .bool _) rfl rfl rfl rfl ?_)
 | (refine I_box ?_; first
 | refine W_boxA rfl rfl rfl rfl rfl ?_)
 | refine W_faddr rfl rfl rfl ?_
 | refine WS_nil ?_)
 | refine WC_seq ?_
 | refine WC_opsS ?_
 | refine WC_skip ?_
 | refine WC_condF rfl ?_)
      all_goals first | (exfalso; omega) | skip
      refine WC_drawAS ?_
      simp only [hoist, hoist1, Store.ahead, withB, withB1, Nat.add_assoc, Nat.reduceAdd, List.length_cons, List.length_nil]
      repeat' (first
 | (refine I_WS ?_; first
 | (refine W_app rfl rfl rfl (.inl ⟨.inr rfl, .inl rfl⟩) (.inl rfl) hb1 (Nat.le_refl _) rfl ?_ <;> intro k1 st1 c1 c2 c3 c4 c5 c6 c7)
 | (refine W_app rfl rfl rfl (.inr ⟨k1, rfl, c6, c7, rfl⟩) hs3' hb2 c5 rfl ?_ <;> intro k2 st2 d1 d2 d3 d4 d5 d6 d7)
 | (refine I_mov ?_; first
 | refine W_mov (v := .slice _ _ _) rfl rfl rfl ?_)
 | (refine I_load ?_; first
 | refine W_load (agg := false) (d := .slice _ _ _) rfl rfl rfl rfl (Nat.zero_le _) rfl ?_)
 | refine W_faddr rfl rfl rfl ?_
 | refine W_bslice (ys := []) rfl rfl rfl (by decide) rfl ?_))
      all_goals first | (exfalso; omega) | skip
      have hbx0 : (st2.boxes Store.empty.next).bind Box.cs = some [.slice .no 3 (hs.map Hp.e), .int .i64 ar] := by rw [d1, c1]; rfl
      have hbx12 : st2.boxes (Store.empty.next + 12) = some (.cells [.slice .isnil 0 [], .int .i64 0]) := by rw [d1, c1]; rfl
      have hl2 : st2.lim ≤ 0 := by rw [d3, c3]; exact Nat.le_refl _
      have hl12 : st2.lim ≤ Store.empty.next + 12 := Nat.le_trans hl2 (Nat.zero_le _)
      have hl0 : st2.lim ≤ Store.empty.next := hl2
      repeat' (first
 | (refine I_WS ?_; first
 | refine W_add (s := ar + d) rfl rfl rfl rfl hadd ?_
 | refine W_store (cs' := [_, _]) rfl rfl hbx12 rfl hl12 rfl rfl rfl ?_
 | (refine I_mov ?_; first
 | refine W_mov (v := .int _ _) rfl rfl rfl ?_
 | refine W_mov (v := .ptr _ _) rfl rfl rfl ?_)
 | (refine I_load ?_; first
 | refine W_load (agg := false) (d := .int _ _) rfl rfl rfl hbx0 hl0 rfl ?_)
 | (refine I_build ?_; first
 | refine W_build (cs := [_, _]) rfl rfl rfl ?_)
 | refine WS_nil ?_))
      refine ⟨?_, ?_⟩
      · simp [okFlags, okTouch, List.range, List.range.loop, Fl.clash]
      repeat' (first
 | (refine I_WS ?_; first
 | refine W_lenM rfl rfl rfl ?_
 | (refine I_mov ?_; first
 | refine W_mov (v := .int _ _) rfl rfl rfl ?_
 | refine W_mov (v := .bool _) rfl rfl rfl ?_
 | refine W_mov (v := .slice _ _ _) rfl rfl rfl ?_)
 | (refine I_bin ?_; first
 | refine W_eqlT rfl rfl rfl rfl (by omega) ?_)
 | (refine I_load ?_; first
 | refine W_load (agg := true) (d := .agg [_, _]) rfl rfl rfl hbx0 hl0 rfl ?_
 | refine W_load (agg := true) (d := .agg [_, _]) rfl rfl rfl rfl (by first | exact Nat.zero_le _ | omega) rfl ?_)
 | (refine I_call ?_; first
 | refine W_call rfl rfl rfl (e1 _ _) rfl rfl ?_
 | refine W_call rfl rfl rfl (e2 _ _) rfl rfl ?_
 | (refine W_callN rfl rfl rfl (e3 _) rfl ?_ <;> intro t5 s5 hs5 ht5)
 | (refine W_callN rfl rfl rfl (e4 _) rfl ?_ <;> intro t5 s5 hs5 ht5))
 | (refine I_pick ?_; first
 | refine W_pick (v := .bool _) rfl rfl rfl rfl ?_)
 | refine W_not rfl rfl rfl ?_
 | (refine W_eqlB rfl rfl rfl rfl ?_)
 | refine W_bslice (ys := [_, _]) rfl rfl rfl (by decide) rfl ?_
 | refine WS_nil ?_)
 | refine WC_seq ?_
 | refine WC_opsS ?_
 | refine WC_drawS ?_
 | refine WC_ret ?_
 | refine okF_intro rfl ?_)
      all_goals first | exact fin_bool (.inr rfl) rfl rfl | (exfalso; omega)
    · rw [if_neg hsame] at hl3 hl4 e1 e2
      have hns : ¬ (d = 0 ∧ m.length = 0) := fun h => hsame ⟨h.1, List.length_eq_zero_iff.1 h.2⟩
      clear hsame
      have e1 : ∀ t t', EvP Γ 23 [.agg [.slice t 3 (hs.map Hp.e), .int .i64 ar], .agg [.slice t' 3 (hs.map Hp.e ++ m.map Hp.e), .int .i64 (ar + d)]] (.bool true) := e1
      have e2 : ∀ t t', EvP Γ 23 [.agg [.slice t 3 (hs.map Hp.e ++ m.map Hp.e), .int .i64 (ar + d)], .agg [.slice t' 3 (hs.map Hp.e), .int .i64 ar]] (.bool false) := e2
      repeat' (first
 | (refine I_WS ?_; first
 | refine W_lenM rfl rfl rfl ?_
 | (refine I_mov ?_; first
 | refine W_mov (v := .int _ _) rfl rfl rfl ?_
 | refine W_mov (v := .bool _) rfl rfl rfl ?_
 | refine W_mov (v := .slice _ _ _) rfl rfl rfl ?_)
 | (refine I_bin ?_; first
 | refine W_lssF rfl rfl rfl rfl (by omega) ?_
 | refine W_gtrF rfl rfl rfl rfl (by omega) ?_)
 | (refine I_load ?_; first
 | refine W_load (agg := false) (d := .slice _ _ _) rfl rfl rfl rfl (Nat.zero_le _) rfl ?_
 | refine W_load (agg := false) (d := .int _ _) rfl rfl rfl rfl (Nat.zero_le _) rfl ?_)
 | (refine I_call ?_; first
 | refine W_call rfl rfl rfl s_small rfl rfl ?_)
 | (refine I_pick ?_; first
 | refine W_pick (v := .bool _) rfl rfl rfl rfl ?_)
 | (refine I_box ?_; first
 | refine W_boxA rfl rfl rfl rfl rfl ?_)
 | refine W_faddr rfl rfl rfl ?_
 | refine WS_nil ?_)
 | refine WC_seq ?_
 | refine WC_opsS ?_
 | refine WC_skip ?_
 | refine WC_condF rfl ?_)
      all_goals first | (exfalso; omega) | skip
      refine WC_drawAS ?_
      simp only [hoist, hoist1, Store.ahead, withB, withB1, Nat.add_assoc, Nat.reduceAdd, List.length_cons, List.length_nil]
      repeat' (first
 | (refine I_WS ?_; first
 | (refine W_app rfl rfl rfl (.inl ⟨.inr rfl, .inl rfl⟩) (.inl rfl) hb1 (Nat.le_refl _) rfl ?_ <;> intro k1 st1 c1 c2 c3 c4 c5 c6 c7)
 | (refine W_app rfl rfl rfl (.inr ⟨k1, rfl, c6, c7, rfl⟩) hs3' hb2 c5 rfl ?_ <;> intro k2 st2 d1 d2 d3 d4 d5 d6 d7)
 | (refine I_mov ?_; first
 | refine W_mov (v := .slice _ _ _) rfl rfl rfl ?_)
 | (refine I_load ?_; first
 | refine W_load (agg := false) (d := .slice _ _ _) rfl rfl rfl rfl (Nat.zero_le _) rfl ?_)
 | refine W_faddr rfl rfl rfl ?_
 | refine W_bslice (ys := []) rfl rfl rfl (by decide) rfl ?_))
      all_goals first | (exfalso; omega) | skip
      have hbx0 : (st2.boxes Store.empty.next).bind Box.cs = some [.slice .no 3 (hs.map Hp.e), .int .i64 ar] := by rw [d1, c1]; rfl
      have hbx12 : st2.boxes (Store.empty.next + 12) = some (.cells [.slice .isnil 0 [], .int .i64 0]) := by rw [d1, c1]; rfl
      have hl2 : st2.lim ≤ 0 := by rw [d3, c3]; exact Nat.le_refl _
      have hl12 : st2.lim ≤ Store.empty.next + 12 := Nat.le_trans hl2 (Nat.zero_le _)
      have hl0 : st2.lim ≤ Store.empty.next := hl2
      repeat' (first
 | (refine I_WS ?_; first
 | refine W_add (s := ar + d) rfl rfl rfl rfl hadd ?_
 | refine W_store (cs' := [_, _]) rfl rfl hbx12 rfl hl12 rfl rfl rfl ?_
 | (refine I_mov ?_; first
 | refine W_mov (v := .int _ _) rfl rfl rfl ?_
 | refine W_mov (v := .ptr _ _) rfl rfl rfl ?_)
 | (refine I_load ?_; first
 | refine W_load (agg := false) (d := .int _ _) rfl rfl rfl hbx0 hl0 rfl ?_)
 | (refine I_build ?_; first
 | refine W_build (cs := [_, _]) rfl rfl rfl ?_)
 | refine WS_nil ?_))
      refine ⟨?_, ?_⟩
      · simp [okFlags, okTouch, List.range, List.range.loop, Fl.clash]
      repeat' (first
 | (refine I_WS ?_; first
 | refine W_lenM rfl rfl rfl ?_
 | (refine I_mov ?_; first
 | refine W_skip rfl ?_
 | refine W_mov (v := .int _ _) rfl rfl rfl ?_
 | refine W_mov (v := .bool _) rfl rfl rfl ?_
 | refine W_mov (v := .slice _ _ _) rfl rfl rfl ?_)
 | (refine I_bin ?_; first
 | refine W_skip rfl ?_
 | refine W_eqlT rfl rfl rfl rfl (by omega) ?_
 | refine W_eqlF rfl rfl rfl rfl (by omega) ?_
 | (refine W_eql rfl rfl rfl rfl ?_ ?_ <;> intro _))
 | (refine I_load ?_; first
 | refine W_load (agg := true) (d := .agg [_, _]) rfl rfl rfl hbx0 hl0 rfl ?_
 | refine W_load (agg := true) (d := .agg [_, _]) rfl rfl rfl rfl (by first | exact Nat.zero_le _ | omega) rfl ?_)
 | (refine I_call ?_; first
 | refine W_call rfl rfl rfl (e1 _ _) rfl rfl ?_
 | refine W_call rfl rfl rfl (e2 _ _) rfl rfl ?_
 | (refine W_callN rfl rfl rfl (e3 _) rfl ?_ <;> intro t5 s5 hs5 ht5)
 | (refine W_callN rfl rfl rfl (e4 _) rfl ?_ <;> intro t5 s5 hs5 ht5))
 | (refine I_pick ?_; first
 | refine W_pick (v := .bool _) rfl rfl rfl rfl ?_)
 | refine W_not rfl rfl rfl ?_
 | (refine W_eqlB rfl rfl rfl rfl ?_)
 | refine W_bslice (ys := [_, _]) rfl rfl rfl (by decide) rfl ?_
 | refine W_skip rfl ?_
 | refine WS_nil ?_)
 | refine WC_seq ?_
 | refine WC_opsS ?_
 | refine WC_drawS ?_
 | refine WC_ret ?_
 | refine okF_intro rfl ?_)
      all_goals first | exact fin_bool (.inr rfl) rfl rfl | (exfalso; omega)
  · repeat' (first
 | (refine I_WS ?_; first
 | refine W_lenM rfl rfl rfl ?_
 | (refine I_mov ?_; first
 | refine W_skip rfl ?_
 | refine W_mov (v := .int _ _) rfl rfl rfl ?_
 | refine W_mov (v := .bool _) rfl rfl rfl ?_
 | refine W_mov (v := .slice _ _ _) rfl rfl rfl ?_)
 | (refine I_bin ?_; first
 | refine W_skip rfl ?_
 | (refine W_lss rfl rfl rfl rfl ?_ ?_ <;> intro _)
 | refine W_gtrT rfl rfl rfl rfl (by omega) ?_
 | (refine W_gtr rfl rfl rfl rfl ?_ ?_ <;> intro _))
 | (refine I_load ?_; first
 | refine W_skip rfl ?_
 | refine W_load (agg := false) (d := .slice _ _ _) rfl rfl rfl rfl (Nat.zero_le _) rfl ?_
 | refine W_load (agg := false) (d := .int _ _) rfl rfl rfl rfl (Nat.zero_le _) rfl ?_)
 | (refine I_call ?_; first
 | refine W_call rfl rfl rfl s_small rfl rfl ?_)
 | (refine I_pick ?_; first
 | refine W_pick (v := .bool _) rfl rfl rfl rfl ?_)
 | (refine I_box ?_; first
 | refine W_boxA rfl rfl rfl rfl rfl ?_)
 | refine W_faddr rfl rfl rfl ?_
 | refine W_skip rfl ?_
 | refine WS_nil ?_)
 | refine WC_seq ?_
 | refine WC_opsS ?_
 | refine WC_condT rfl ?_
 | refine WC_ret ?_)
    all_goals first | exact fin_bool (.inr rfl) rfl rfl | (exfalso; omega)
end Go.Ord
