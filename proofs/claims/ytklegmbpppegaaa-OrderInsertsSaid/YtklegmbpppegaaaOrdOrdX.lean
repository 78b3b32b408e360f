/-
  slices' insertion sort, on a part of a row of routes; the stable sort of few.
-/
import Derived.Test.YtklegmbpppegaaaOrdOrdD
import Derived.Test.YtklegmbpppegaaaEvEvX9
import Derived.Test.YtklegmbpppegaaaEvEvX10
set_option linter.unusedVariables false
set_option linter.unusedSimpArgs false
set_option linter.unnecessarySimpa false

namespace Go.Ord
open Go.Ev
set_option linter.unusedVariables false
set_option linter.unusedSimpArgs false
theorem foldl_len : ∀ (l S : List Rt), (l.foldl insL S).length = S.length + l.length
  | [], S => rfl
  | x :: l, S => by rw [List.foldl_cons, foldl_len l, insL_len, List.length_cons]; omega
theorem ssort_len (l : List Rt) : (ssort l).length = l.length := by rw [ssort, foldl_len]; simp
theorem insRev_mem (x r : Rt) : ∀ S : List Rt, r ∈ insRev x S ↔ r = x ∨ r ∈ S
  | [] => by simp [insRev]
  | y :: S => by
    rw [insRev]
    split
    · simp only [List.mem_cons, insRev_mem x r S]
      constructor
      · rintro (h | h | h) <;> simp [h]
      · rintro (h | h | h) <;> simp [h]
    · simp
theorem insL_mem (x r : Rt) (S : List Rt) : r ∈ insL S x ↔ r = x ∨ r ∈ S := by simp [insL, insRev_mem]
theorem foldl_mem (r : Rt) : ∀ l S : List Rt, r ∈ l.foldl insL S ↔ r ∈ S ∨ r ∈ l
  | [], S => by simp
  | x :: l, S => by
    rw [List.foldl_cons, foldl_mem r l, insL_mem, List.mem_cons]
    constructor
    · rintro ((h | h) | h) <;> simp [h]
    · rintro (h | h | h) <;> simp [h]
theorem ssort_mem (r : Rt) (l : List Rt) : r ∈ ssort l ↔ r ∈ l := by rw [ssort, foldl_mem]; simp
theorem short_perm {A B : List Rt} (h : Short A) (hm : ∀ r, r ∈ B → r ∈ A) : Short B := fun r hr => h r (hm r hr)
set_option maxHeartbeats 8000000 in
theorem l_out (p n c : Nat) (P R : List Rt) (b : Nat) (hnl : n ≤ 1000000) : ∀ (T D0 : List Rt), n = (P ++ D0 ++ T ++ R).length → b = (P ++ D0 ++ T).length → Short (P ++ D0 ++ T ++ R) → ∀ (ρ : Nat → D) (st : Store), RowIs st p 2 ((P ++ D0 ++ T ++ R).map Rt.e) →
    ρ 0 = .rs p 0 2 n c → ρ 1 = .int .i64 P.length → ρ 2 = .int .i64 b → ρ 3 = .func 21 [] → ρ 8 = .int .i64 ((P ++ D0).length : Nat) → ∀ (Q : X → (Nat → D) → Store → Prop),
    (∀ ρ' st', FrR st st' p → RowIs st' p 2 ((P ++ T.foldl insL D0 ++ R).map Rt.e) → Q (.exit 0) ρ' st') → WC Γ (.loop c_slices_insertionSortCmpFunc_Route_l1) ρ st Q := by
  intro T
  induction T with
  | nil =>
    intro D0 hn hb hsh ρ st hR h0 h1 h2 h3 h8 Q hQ
    rw [← upd_self h0, ← upd_self h1, ← upd_self h2, ← upd_self h3, ← upd_self h8]
    rw [List.append_nil] at hb
    refine WC_loop ?_
    repeat' (first
 | (refine I_WS ?_; first
 | (refine I_mov ?_; first
 | refine W_mov (v := .int _ _) rfl rfl rfl ?_)
 | (refine I_bin ?_; first
 | refine W_lssF rfl rfl rfl rfl (by omega) ?_)
 | refine WS_nil ?_)
 | refine WC_seq ?_
 | refine WC_opsS ?_
 | refine WC_condF rfl ?_
 | refine WC_exit ?_)
    exact hQ _ _ (FrR.refl _ _) (by simpa using hR)
  | cons x T ih =>
    intro D0 hn hb hsh ρ st hR h0 h1 h2 h3 h8 Q hQ
    have e1 : P ++ D0 ++ (x :: T) ++ R = P ++ D0 ++ x :: (T ++ R) := by simp
    rw [e1] at hn hR hsh
    have hnx := ih (insL D0 x)
    have hin := l_inn p n c P D0.length D0 rfl x (T ++ R) hn hnl hsh
    have hlt : (((P ++ D0).length : Nat) : Int) < b := by rw [hb]; simp; omega
    have hb1 : (P ++ D0).length < 1000000 := by
      have : (P ++ D0).length < n := by rw [hn]; simp
      omega
    have hadd : IntKind.i64.wrap ((((P ++ D0).length : Nat) : Int) + 1) = (((P ++ insL D0 x).length : Nat) : Int) := by
      rw [w64 (by omega), List.length_append, List.length_append, insL_len]; omega
    have e2 : P ++ insL D0 x ++ T ++ R = P ++ insL D0 x ++ (T ++ R) := by simp
    have hn' : n = (P ++ insL D0 x ++ T ++ R).length := by rw [hn]; simp [insL_len]; omega
    have hb' : b = (P ++ insL D0 x ++ T).length := by rw [hb]; simp [insL_len]; omega
    have hsh' : Short (P ++ insL D0 x ++ T ++ R) := short_perm hsh (fun r hr => by
      simp only [List.mem_append, insL_mem, List.mem_cons] at hr ⊢
      rcases hr with ((h | h | h) | h) | h <;> simp [h])
    clear ih
    rw [List.foldl_cons] at hQ
    generalize hm : ((P ++ D0).length : Nat) = m at *
    rw [← upd_self h0, ← upd_self h1, ← upd_self h2, ← upd_self h3, ← upd_self h8]
    refine WC_loop ?_
    repeat' (first
 | (refine I_WS ?_; first
 | (refine I_mov ?_; first
 | refine W_mov (v := .int _ _) rfl rfl rfl ?_)
 | (refine I_bin ?_; first
 | refine W_lssT rfl rfl rfl rfl (by omega) ?_)
 | refine WS_nil ?_)
 | (refine hin _ _ (b : Int) (m : Int) hR ?_ ?_ ?_ ?_ ?_ ?_ _ ?_ <;> first | rfl | (intro ρ2 st2 hF hR2 k0 k1 k2 k3 k8))
 | refine WC_seq ?_
 | refine WC_opsS ?_
 | refine WC_skip ?_
 | refine WC_condT rfl ?_
 | refine WC_block ?_)
    rw [← upd_self k0, ← upd_self k1, ← upd_self k2, ← upd_self k3, ← upd_self k8]
    repeat' (first
 | (refine I_WS ?_; first
 | refine W_add (s := (((P ++ insL D0 x).length : Nat) : Int)) rfl rfl rfl rfl hadd ?_
 | (refine I_mov ?_; first
 | refine W_mov (v := .int _ _) rfl rfl rfl ?_)
 | refine WS_nil ?_))
    rw [← e2] at hR2
    refine hnx hn' hb' hsh' _ _ hR2 ?_ ?_ ?_ ?_ ?_ Q (fun ρ' st' hF' hR' => hQ ρ' st' (hF.trans hF') hR') <;> rfl
theorem s_insSort (p n c : Nat) (P S R : List Rt) (st : Store) (hnl : n ≤ 1000000) (hn : n = (P ++ S ++ R).length) (hsh : Short (P ++ S ++ R)) (hR : RowIs st p 2 ((P ++ S ++ R).map Rt.e)) (a b : Int) (ha : a = P.length) (hb : b = ((P ++ S).length : Nat)) :
    EvRWX Γ 71 [.rs p 0 2 n c, .int .i64 a, .int .i64 b, .func 21 []] st (fun r st' => r = .tuple [] ∧ FrR st st' p ∧ RowIs st' p 2 ((P ++ ssort S ++ R).map Rt.e)) := by
  subst ha hb
  refine EvRWX_code rfl rfl ?_
  have hPn : P.length ≤ n := by rw [hn]; simp
  have hadd : IntKind.i64.wrap ((P.length : Int) + 1) = P.length + 1 := w64 (by omega)
  cases S with
  | nil =>
    have hge : ((P ++ ([] : List Rt)).length : Int) ≤ (P.length : Int) + 1 := by simp; omega
    generalize hm : ((P ++ ([] : List Rt)).length : Nat) = m at *
    repeat' (first
 | (refine I_WS ?_; first
 | refine W_add (s := (P.length : Int) + 1) rfl rfl rfl rfl hadd ?_
 | (refine I_mov ?_; first
 | refine W_mov (v := .int _ _) rfl rfl rfl ?_)
 | refine WS_nil ?_)
 | refine WC_seq ?_
 | refine WC_opsS ?_
 | refine WC_block ?_)
    refine WC_loop ?_
    repeat' (first
 | (refine I_WS ?_; first
 | refine W_lssF rfl rfl rfl rfl hge ?_
 | (refine I_mov ?_; first
 | refine W_mov (v := .int _ _) rfl rfl rfl ?_)
 | refine WS_nil ?_)
 | refine WC_seq ?_
 | refine WC_opsS ?_
 | refine WC_condF rfl ?_
 | refine WC_exit ?_)
    exact ⟨.inl rfl, _, rfl, rfl, FrR.refl _ _, by simpa [ssort] using hR⟩
  | cons x T =>
    have e1 : P ++ x :: T ++ R = P ++ [x] ++ T ++ R := by simp
    rw [e1] at hn hsh hR
    have hlo := l_out p n c P R (P ++ x :: T).length hnl T [x] hn (by simp) hsh
    have hadd' : IntKind.i64.wrap ((P.length : Int) + 1) = ((P ++ [x]).length : Nat) := by rw [hadd]; simp
    generalize hm : ((P ++ x :: T).length : Nat) = m at *
    repeat' (first
 | (refine I_WS ?_; first
 | refine W_add (s := (((P ++ [x]).length : Nat) : Int)) rfl rfl rfl rfl hadd' ?_
 | (refine I_mov ?_; first
 | refine W_mov (v := .int _ _) rfl rfl rfl ?_)
 | refine WS_nil ?_)
 | (refine hlo _ _ hR ?_ ?_ ?_ ?_ ?_ _ ?_ <;> first | rfl | (intro ρ2 st2 hF hR2))
 | refine WC_seq ?_
 | refine WC_opsS ?_
 | refine WC_block ?_)
    exact ⟨.inl rfl, _, rfl, rfl, hF, hR2⟩
end Go.Ord

/-
  Routes in memory of their own; leaving out such as are there already.
-/
namespace Go.Ev
theorem row_cut1 {cs : List D} {sz i o : Nat} {xs ys : List D} {d : D} (hlen : xs.length * sz ≤ cs.length) (hc : cs.take (xs.length * sz) = xs.flatMap D.cells) (hxs : ∀ d ∈ xs, d.cells.length = sz) (hx : xs[i]? = some (.agg ys)) (ho : ys[o]? = some d) : i * sz + o < cs.length ∧ cs[i * sz + o]? = some d := by
  have hi : i < xs.length := (List.getElem?_eq_some_iff.mp hx).1
  have h1 := take_drop_row hc hxs hx
  have h2 : i * sz + sz ≤ xs.length * sz := by rw [← Nat.succ_mul]; exact Nat.mul_le_mul_right _ hi
  have h3 : ys.length = sz := hxs _ (List.mem_of_getElem? hx)
  have h4 : o < sz := by rw [← h3]; exact (List.getElem?_eq_some_iff.mp ho).1
  have h5 : ((cs.drop (i * sz)).take sz)[o]? = some d := by rw [h1]; exact ho
  rw [List.getElem?_take_of_lt h4, List.getElem?_drop] at h5
  exact ⟨by omega, h5⟩
section
variable {Γ : Nat → Option FD} {ρ : Nat → D} {st : Store} {dr : Bool} {R : (Nat → D) → Store → List Fl → Prop} {l : List Op1} {g : Option (Nat × Bool)} {mv : Bool} {k : Nat} {x y : A}
theorem W_loadRow1 {p off sz j o : Nat} {xs ys : List D} {d : D} (hg : guardV ρ g = some true) (hx : x.ev ρ = .ptr p off) (hR : RowIs st p sz xs) (ho : off = j * sz + o) (hxs : ∀ d ∈ xs, d.cells.length = sz) (hj : xs[j]? = some (.agg ys)) (hd : ys[o]? = some d) (hm : mv = false)
    (h : WS Γ dr l (upd ρ k d) st (nx (.r p) R)) : WS Γ dr (⟨some k, g, mv, .load false 1 x⟩ :: l) ρ st R := by
  obtain ⟨hl, _, cs, h1, h2, h3, _⟩ := hR
  subst ho
  obtain ⟨q1, q2⟩ := row_cut1 h2 h3 hxs hj hd
  refine W_loadM hg hx (by rw [h1]; rfl) hl ?_ h
  unfold cut
  rw [if_pos (by omega)]
  simpa using q2
/-- A store of what is there already. -/
theorem W_storeSame {p off sz j o : Nat} {xs ys : List D} {d : D} (hg : guardV ρ g = some true) (hx : x.ev ρ = .ptr p off) (hv : y.ev ρ = d) (hR : RowIs st p sz xs) (ho : off = j * sz + o) (hxs : ∀ d ∈ xs, d.cells.length = sz) (hj : xs[j]? = some (.agg ys)) (hd : ys[o]? = some d) (h1 : d.cells = [d]) (h2 : d.one = true) (hm : mv = false)
    (h : WS Γ dr l ρ st (nx (.w p) R)) : WS Γ dr (⟨none, g, mv, .store 1 x y⟩ :: l) ρ st R := by
  obtain ⟨hl, _, cs, hb, e2, e3, _⟩ := hR
  subst ho
  obtain ⟨q1, q2⟩ := row_cut1 e2 e3 hxs hj hd
  have hst : { st with boxes := upd st.boxes p (some (.row cs)) } = st := by
    have : upd st.boxes p (some (.row cs)) = st.boxes := by
      funext q
      by_cases hq : q = p
      · subst hq; rw [upd_same, hb]
      · rw [upd_ne _ _ hq]
    rw [this]
  refine W_store (cs' := cs) hg hx hb rfl hl hv ?_ hm ?_
  · simp only [fillD]
    rw [if_pos ⟨by rw [h1]; rfl, by omega, by rw [h1]; simp [h2]⟩, h1]
    congr 1
    obtain ⟨hh, e⟩ := List.getElem?_eq_some_iff.mp q2
    rw [← e, List.append_assoc, List.singleton_append, List.getElem_cons_drop, List.take_append_drop]
  · show WS Γ dr l ρ { st with boxes := upd st.boxes p (some (.row cs)) } _
    rw [hst]
    exact h
/-- A copy, to be read. -/
theorem W_callCl {f : A} {as : List A} {fn : Nat} {caps : List D} {sz : Nat} {xs : List D} (hg : guardV ρ g = some true) (hf : f.ev ρ = .func fn caps) (ha : ((as.map (·.ev ρ) ++ caps).map D.strip).all D.freeA = true) (hr : EvX Γ fn ((as.map (·.ev ρ) ++ caps).map D.strip) (fun r => r = .slice .row sz xs ∨ r = .slice .no sz xs))
    (hm : mv = false) (h : WS Γ dr l (upd ρ k (.slice .no sz xs)) st (nx .n R)) : WS Γ dr (⟨some k, g, mv, .call f as⟩ :: l) ρ st R := by
  subst hm
  obtain ⟨r, hr0, hr⟩ := hr
  have key : absorb false r st = (.slice .no sz xs, st) ∧ hasFresh r = false := by rcases hr0 with rfl | rfl <;> exact ⟨rfl, rfl⟩
  exact WS_callP hg rfl hf ha hr (fun _ => ⟨key.2, rfl⟩) key.1 h
end
end Go.Ev
namespace Go.Ord
open Go.Ev
set_option linter.unusedVariables false
set_option linter.unusedSimpArgs false
theorem hp_el2 (a : Hp) : Elem 3 a.e ∧ (match a.e.cells with | [c] => (match a.e with | .agg _ => false | _ => true) | _ => (match a.e with | .agg _ => true | _ => false)) = true := ⟨⟨rfl, rfl⟩, rfl⟩
theorem s_clH (hs : List Hp) (hl : hs.length ≤ 1000000) (t : Tok) (s : Nat) (h3 : s = 3 ∨ hs = []) : EvX Γ 65 [.slice t s (hs.map Hp.e)] (fun r => r = .slice .row 3 (hs.map Hp.e) ∨ r = .slice .no 3 (hs.map Hp.e)) := by
  by_cases h : hs = []
  · subst h
    exact ⟨_, .inr rfl, EvP_prim rfl (by simp [cloneF])⟩
  · obtain ⟨r, hr, h2⟩ := clone_R (Γ := Γ) (f := 65) (bytes := 24) rfl hs (t := t) h3 (by omega) hp_el2
    rcases hr with ⟨h', _⟩ | rfl
    · exact absurd h' h
    · exact ⟨_, .inl rfl, h2⟩
theorem rt_ele (r : Rt) : Elem 2 r.e ∧ (match r.e.cells with | [c] => (match r.e with | .agg _ => false | _ => true) | _ => (match r.e with | .agg _ => true | _ => false)) = true := ⟨⟨rfl, rfl⟩, rfl⟩
theorem rt_mk (r : Rt) : r.e.cells.length = 2 ∧ mkD r.e.cells = r.e := ⟨rfl, rfl⟩
set_option maxHeartbeats 4000000 in
theorem l_cop (q c : Nat) (L : List Rt) (hsh : Short L) (hLl : L.length ≤ 1000000) : ∀ (T A0 : List Rt), L = A0 ++ T → ∀ (ρ : Nat → D) (st : Store), RowIs st q 2 (L.map Rt.e) →
    ρ 0 = .rs q 0 2 L.length c → ρ 7 = .int .i64 L.length → ρ 8 = .int .i64 A0.length → ∀ (Q : X → (Nat → D) → Store → Prop),
    (∀ ρ', ρ' 0 = .rs q 0 2 L.length c → Q (.exit 0) ρ' st) → WC Γ (.loop c_order_copied_l0) ρ st Q := by
  intro T
  induction T with
  | nil =>
    intro A0 hL ρ st hR h0 h7 h8 Q hQ
    have hA : A0.length = L.length := by rw [hL]; simp
    rw [hA] at h8
    rw [← upd_self h0, ← upd_self h7, ← upd_self h8]
    refine WC_loop ?_
    repeat' (first
 | (refine I_WS ?_; first
 | (refine I_bin ?_; first
 | refine W_lssF rfl rfl rfl rfl (by omega) ?_)
 | refine WS_nil ?_)
 | refine WC_seq ?_
 | refine WC_opsS ?_
 | refine WC_condF rfl ?_
 | refine WC_exit ?_)
    exact hQ _ rfl
  | cons x T ih =>
    intro A0 hL ρ st hR h0 h7 h8 Q hQ
    have hnx := ih (A0 ++ [x]) (by rw [hL]; simp)
    have hx : L[A0.length]? = some x := by rw [hL]; simp
    have hlt : A0.length < L.length := by rw [hL]; simp
    have hlt' : (A0.length : Int) < L.length := by omega
    have hx' := rt_at hx
    have hcl := fun t => s_clH x.hs (hsh x (by rw [hL]; simp)) t 3 (.inl rfl)
    have hadd : IntKind.i64.wrap ((A0.length : Int) + 1) = ((A0 ++ [x]).length : Nat) := by rw [w64 (by omega)]; simp
    have hne : (decide ((A0.length : Int) < L.length)) = true := decide_eq_true hlt'
    have hz : 0 + A0.length * 2 + 0 = A0.length * 2 + 0 := by omega
    rw [← upd_self h0, ← upd_self h7, ← upd_self h8]
    refine WC_loop ?_
    repeat' (first
 | (refine I_WS ?_; first
 | refine W_iaddrR (j := A0.length) rfl rfl rfl rfl hlt ?_
 | refine W_add (s := (((A0 ++ [x]).length : Nat) : Int)) rfl rfl rfl rfl hadd ?_
 | refine W_storeSame (j := A0.length) (o := 0) rfl rfl rfl hR hz rt_cells hx' rfl rfl rfl rfl ?_
 | (refine I_mov ?_; first
 | refine W_mov (v := .int _ _) rfl rfl rfl ?_
 | refine W_mov (v := .rs _ _ _ _ _) rfl rfl rfl ?_)
 | (refine I_bin ?_; first
 | refine W_lssT rfl rfl rfl rfl (by omega) ?_)
 | (refine I_load ?_; first
 | refine W_loadRow1 (j := A0.length) (o := 0) rfl rfl hR hz rt_cells hx' rfl rfl ?_)
 | (refine I_call ?_; first
 | refine W_callCl rfl rfl rfl (hcl _) rfl ?_)
 | refine W_faddr rfl rfl rfl ?_
 | refine WS_nil ?_)
 | refine WC_seq ?_
 | refine WC_opsS ?_
 | refine WC_skip ?_
 | refine WC_condT rfl ?_
 | refine WC_block ?_)
    refine hnx _ _ hR ?_ ?_ ?_ Q hQ <;> rfl
theorem s_copied (L : List Rt) (hsh : Short L) (hLl : L.length ≤ 1000000) (hne : L ≠ []) (t : Tok) (s : Nat) (hs : s = 2 ∨ L = []) : EvX Γ 37 [.slice t s (L.map Rt.e)] (IsR Rt.e 2 L) := by
  refine EvX_code rfl rfl ?_
  have hcl := fun t => (clone_E (Γ := Γ) (f := 64) (bytes := 32) rfl L (t := t) hs (by omega) rt_ele).mono (fun _ h => h.r)
  have he := fun r => (rt_ele r).1
  have hel : Store.empty.lim ≤ Store.empty.next := Nat.le_refl _
  repeat' (first
 | (refine I_WS ?_; first
 | (refine I_mov ?_; first
 | refine W_mov (v := .slice _ _ _) rfl rfl rfl ?_)
 | (refine I_call ?_; first
 | refine W_callR rfl rfl rfl (hcl _) rfl rfl he hel ?_)
 | refine WS_nil ?_)
 | refine WC_seq ?_
 | refine WC_opsS ?_)
  intro st1 d1 k1 k2 k3 k4 hP k5 k6
  rcases hP with ⟨h, _⟩ | ⟨q, n, c, rfl, rfl, hR⟩
  · exact absurd h hne
  · repeat' (first
 | (refine I_WS ?_; first
 | (refine I_mov ?_; first
 | refine W_mov (v := .int _ _) rfl rfl rfl ?_
 | refine W_mov (v := .rs _ _ _ _ _) rfl rfl rfl ?_)
 | refine W_lenR rfl rfl rfl ?_
 | refine WS_nil ?_)
 | (refine l_cop q c L hsh hLl L [] rfl _ _ hR ?_ ?_ ?_ _ ?_ <;> first | rfl | (intro ρ2 m0))
 | refine WC_seq ?_
 | refine WC_opsS ?_
 | refine WC_block ?_)
    rw [← upd_self m0]
    repeat' (first
 | (refine I_WS ?_; first
 | (refine I_mov ?_; first
 | refine W_mov (v := .rs _ _ _ _ _) rfl rfl rfl ?_)
 | refine WS_nil ?_)
 | refine WC_ret ?_)
    exact finX_R (.inr rfl) rfl (.inr ⟨q, _, c, rfl, rfl, hR⟩) (by decide) rt_mk rfl
/-- A copy of nothing. -/
theorem s_copied0 (t : Tok) (s : Nat) : EvP Γ 37 [.slice t s []] (.slice .exact 2 []) := by
  refine EvP_code rfl rfl ?_
  have hcl : ∀ t, EvP Γ 64 [.slice t s []] (.slice .exact 2 []) := fun t => EvP_prim (F := cloneE 2 32) rfl rfl
  have h0 : ([] : List D).length = 0 := rfl
  repeat' (first
 | (refine I_WS ?_; first
 | (refine I_mov ?_; first
 | refine W_mov (v := .int _ _) rfl rfl rfl ?_
 | refine W_mov (v := .slice _ _ _) rfl rfl rfl ?_)
 | (refine I_bin ?_; first
 | refine W_lssF rfl rfl rfl rfl (by omega) ?_)
 | (refine I_call ?_; first
 | refine W_callM0 rfl rfl rfl (hcl _) rfl ?_)
 | refine W_lenS0 rfl rfl rfl ?_
 | refine WS_nil ?_)
 | refine WC_loop ?_
 | refine WC_seq ?_
 | refine WC_opsS ?_
 | refine WC_condF rfl ?_
 | refine WC_block ?_
 | refine WC_exit ?_
 | refine WC_ret ?_)
  exact ⟨.inr rfl, rfl⟩
end Go.Ord

/-
  Sorting: the stable sort of few, then one of each.
-/
namespace Go.Ord
open Go.Ev
set_option linter.unusedVariables false
set_option linter.unusedSimpArgs false
/-- The stable sort in place of a row of so many. -/
def StabOK (N : Nat) : Prop := ∀ (L : List Rt) (p c n : Nat) (st : Store), L.length ≤ N → Short L → RowIs st p 2 (L.map Rt.e) → n = L.length → L ≠ [] →
  EvRWX Γ 66 [.rs p 0 2 n c, .int .i64 n, .func 21 []] st (fun r st' => r = .tuple [] ∧ FrR st st' p ∧ RowIs st' p 2 ((ssort L).map Rt.e))
theorem s_sortStable {N : Nat} (hN : StabOK N) (L : List Rt) (p c n : Nat) (st : Store) (hL : L.length ≤ N) (hsh : Short L) (hR : RowIs st p 2 (L.map Rt.e)) (hn : n = L.length) (hne : L ≠ []) :
    EvRWX Γ 38 [.rs p 0 2 n c, .func 21 []] st (fun r st' => r = .tuple [] ∧ FrR st st' p ∧ RowIs st' p 2 ((ssort L).map Rt.e)) := by
  refine EvRWX_code rfl rfl ?_
  have hin := hN L p c n st hL hsh hR hn hne
  repeat' (first
 | (refine I_WS ?_; first
 | (refine I_mov ?_; first
 | refine W_mov (v := .func _ _) rfl rfl rfl ?_
 | refine W_mov (v := .rs _ _ _ _ _) rfl rfl rfl ?_)
 | (refine I_call ?_; first
 | (refine W_callRWX rfl rfl rfl hin ?_ <;> intro r1 st1 hp1))
 | refine W_lenR rfl rfl rfl ?_
 | refine WS_nil ?_)
 | refine WC_opsS ?_)
  obtain ⟨rfl, hF, hR1⟩ := hp1
  skip
  exact ⟨.inl rfl, _, rfl, rfl, hF, hR1⟩
/-! ### One of each -/
def eqR (x y : Rt) : Bool := decide (cmpR x.hs x.ar y.hs y.ar = 0)
theorem s_eqR (x y : Rt) (hx : x.hs.length ≤ 1000000) (hy : y.hs.length ≤ 1000000) : EvP Γ 40 [.agg [.slice .no 3 (x.hs.map Hp.e), .int .i64 x.ar], .agg [.slice .no 3 (y.hs.map Hp.e), .int .i64 y.ar]] (.bool (eqR x y)) := by
  refine EvP_code rfl rfl ?_
  have hC := fun t t' => s_CompareR x.hs x.ar y.hs y.ar hx hy t t' 3 3 (.inl rfl) (.inl rfl)
  unfold eqR
  generalize cmpR x.hs x.ar y.hs y.ar = cc at *
  by_cases h : cc = 0
  · subst h
    repeat' (first
 | (refine I_WS ?_; first
 | (refine I_mov ?_; first
 | refine W_mov (v := .bool _) rfl rfl rfl ?_)
 | (refine I_bin ?_; first
 | refine W_eqlT rfl rfl rfl rfl (by omega) ?_)
 | (refine I_load ?_; first
 | refine W_load (agg := true) (d := .agg [_, _]) rfl rfl rfl rfl (by first | exact Nat.zero_le _ | omega) rfl ?_)
 | (refine I_call ?_; first
 | refine W_call rfl rfl rfl (hC _ _) rfl rfl ?_)
 | (refine I_box ?_; first
 | refine W_boxA rfl rfl rfl rfl rfl ?_)
 | refine WS_nil ?_)
 | refine WC_seq ?_
 | refine WC_opsS ?_
 | refine WC_ret ?_)
    all_goals first | exact fin_bool (.inr rfl) rfl rfl | (exfalso; omega)
  · rw [decide_eq_false h]
    repeat' (first
 | (refine I_WS ?_; first
 | (refine I_mov ?_; first
 | refine W_mov (v := .bool _) rfl rfl rfl ?_)
 | (refine I_bin ?_; first
 | refine W_eqlF rfl rfl rfl rfl (by omega) ?_)
 | (refine I_load ?_; first
 | refine W_load (agg := true) (d := .agg [_, _]) rfl rfl rfl rfl (by first | exact Nat.zero_le _ | omega) rfl ?_)
 | (refine I_call ?_; first
 | refine W_call rfl rfl rfl (hC _ _) rfl rfl ?_)
 | (refine I_box ?_; first
 | refine W_boxA rfl rfl rfl rfl rfl ?_)
 | refine WS_nil ?_)
 | refine WC_seq ?_
 | refine WC_opsS ?_
 | refine WC_ret ?_)
    all_goals first | exact fin_bool (.inr rfl) rfl rfl | (exfalso; omega)
def dd (z : Rt) : List Rt → List Rt
  | [] => []
  | x :: p => if eqR x z then dd x p else x :: dd x p
def cpt : List Rt → List Rt
  | [] => []
  | y :: r => y :: dd y r
theorem set_at {W J post : List Rt} {x j : Rt} : ((W ++ j :: J).map Rt.e).set W.length x.e = (W ++ x :: J).map Rt.e := by
  induction W with
  | nil => rfl
  | cons z A ih => simpa using ih
theorem jz {α : Type} (J : List α) (z : α) : ∃ j0 J', J ++ [z] = j0 :: J' ∧ J'.length = J.length := by
  cases J with
  | nil => exact ⟨z, [], rfl, rfl⟩
  | cons a J => exact ⟨a, J ++ [z], rfl, by simp⟩
set_option maxHeartbeats 8000000 in
theorem l_cpi (p n c k0 : Nat) (hnl : n ≤ 1000000) : ∀ (T W J : List Rt) (z : Rt) (km : Nat), n = (W ++ J ++ z :: T).length → k0 + km = (W ++ J).length → Short (W ++ J ++ z :: T) → ∀ (ρ : Nat → D) (st : Store), RowIs st p 2 ((W ++ J ++ z :: T).map Rt.e) →
    ρ 0 = .rs p 0 2 n c → ρ 1 = .func 40 [] → ρ 5 = .int .i64 W.length → ρ 6 = .rs p (0 + k0 * 2) 2 (n - k0) (c - k0) → ρ 7 = .int .i64 ((km + 1 : Nat) : Int) → ∀ (Q : X → (Nat → D) → Store → Prop),
    (∀ ρ' st' J', FrR st st' p → RowIs st' p 2 ((W ++ dd z T ++ J').map Rt.e) → n = (W ++ dd z T ++ J').length → ρ' 0 = .rs p 0 2 n c → ρ' 5 = .int .i64 ((W ++ dd z T).length : Nat) → Q (.exit 2) ρ' st') → WC Γ (.loop c_slices_CompactFunc_Route_l0) ρ st Q := by
  intro T
  induction T with
  | nil =>
    intro W J z km hn hk hsh ρ st hR h0 h1 h5 h6 h7 Q hQ
    have hge : ((n - k0 : Nat) : Int) ≤ ((km + 1 : Nat) : Int) := by
      have : n = k0 + km + 1 := by rw [hn, hk]; simp; omega
      omega
    rw [← upd_self h0, ← upd_self h1, ← upd_self h5, ← upd_self h6, ← upd_self h7]
    refine WC_loop ?_
    repeat' (first
 | (refine I_WS ?_; first
 | refine W_lssF rfl rfl rfl rfl hge ?_
 | (refine I_mov ?_; first
 | refine W_mov (v := .int _ _) rfl rfl rfl ?_
 | refine W_mov (v := .rs _ _ _ _ _) rfl rfl rfl ?_)
 | refine W_lenR rfl rfl rfl ?_
 | refine WS_nil ?_)
 | refine WC_seq ?_
 | refine WC_opsS ?_
 | refine WC_condF rfl ?_
 | refine WC_exit ?_)
    refine hQ _ _ (J ++ [z]) (FrR.refl _ _) (by simpa [dd] using hR) (by rw [hn]; simp [dd]) ?_ ?_
    · rfl
    · rw [dd, List.append_nil]; rfl
  | cons x T ih =>
    intro W J z km hn hk hsh ρ st hR h0 h1 h5 h6 h7 Q hQ
    have hlen : n = k0 + km + 1 + (x :: T).length := by rw [hn, hk]; simp; omega
    have hTl : (x :: T).length = T.length + 1 := rfl
    have hlt : ((km + 1 : Nat) : Int) < ((n - k0 : Nat) : Int) := by omega
    have hj1 : km + 1 < n - k0 := by omega
    have hj0 : km < n - k0 := by omega
    have hsub : IntKind.i64.wrap (((km + 1 : Nat) : Int) - 1) = ((km : Nat) : Int) := by rw [w64 (by omega)]; omega
    have hadd : IntKind.i64.wrap (((km + 1 : Nat) : Int) + 1) = ((km + 1 + 1 : Nat) : Int) := by rw [w64 (by omega)]; omega
    have hWn : W.length < n := by rw [hn]; simp; omega
    have hz1 : 0 + k0 * 2 + (km + 1) * 2 = ((W ++ J).length + 1) * 2 := by omega
    have hz0 : 0 + k0 * 2 + km * 2 = (W ++ J).length * 2 := by omega
    have hx : (W ++ J ++ z :: x :: T)[(W ++ J).length + 1]? = some x := by
      rw [List.getElem?_append_right (by omega)]; simp
    have hz : (W ++ J ++ z :: x :: T)[(W ++ J).length]? = some z := by
      rw [List.getElem?_append_right (by omega)]; simp
    have hx' := rt_at hx
    have hzz := rt_at hz
    have hxl := hsh x (by simp)
    have hzl := hsh z (by simp)
    have hC := s_eqR x z hxl hzl
    by_cases he : eqR x z = true
    · rw [he] at hC
      have e1 : W ++ J ++ z :: x :: T = W ++ (J ++ [z]) ++ x :: T := by simp
      rw [dd, if_pos he] at hQ
      have hnx := ih W (J ++ [z]) x (km + 1) (by rw [hn, e1]) (by rw [← Nat.add_assoc, hk]; simp; omega) (by rw [← e1]; exact hsh)
      clear ih
      rw [← upd_self h0, ← upd_self h1, ← upd_self h5, ← upd_self h6, ← upd_self h7]
      refine WC_loop ?_
      repeat' (first
 | (refine I_WS ?_; first
 | refine W_lssT rfl rfl rfl rfl hlt ?_
 | refine W_sub (s := ((km : Nat) : Int)) rfl rfl rfl rfl hsub ?_
 | refine W_add (s := ((km + 1 + 1 : Nat) : Int)) rfl rfl rfl rfl hadd ?_
 | refine W_iaddrR (j := km + 1) rfl rfl rfl rfl hj1 ?_
 | refine W_iaddrR (j := km) rfl rfl rfl rfl hj0 ?_
 | (refine I_mov ?_; first
 | refine W_mov (v := .int _ _) rfl rfl rfl ?_
 | refine W_mov (v := .func _ _) rfl rfl rfl ?_
 | refine W_mov (v := .rs _ _ _ _ _) rfl rfl rfl ?_)
 | (refine I_load ?_; first
 | refine W_loadRow (j := (W ++ J).length + 1) rfl rfl hR.at hz1 rt_cells hx' rfl ?_
 | refine W_loadRow (j := (W ++ J).length) rfl rfl hR.at hz0 rt_cells hzz rfl ?_)
 | (refine I_call ?_; first
 | refine W_call rfl rfl rfl hC rfl rfl ?_)
 | refine W_not rfl rfl rfl ?_
 | refine W_lenR rfl rfl rfl ?_
 | refine WS_nil ?_)
 | refine okF_intro (okFlags_onlyR rfl) ?_
 | refine WC_seq ?_
 | refine WC_opsS ?_
 | refine WC_drawS ?_
 | refine WC_skip ?_
 | refine WC_condT rfl ?_
 | refine WC_condF rfl ?_
 | refine WC_block ?_)
      rw [e1] at hR
      refine hnx _ _ hR ?_ ?_ ?_ ?_ ?_ Q hQ <;> rfl
    · rw [Bool.not_eq_true] at he
      rw [he] at hC
      rw [dd, if_neg (by rw [he]; decide)] at hQ
      obtain ⟨j0, J', hJ, hJl⟩ := jz J z
      have e1 : W ++ J ++ z :: x :: T = W ++ j0 :: (J' ++ x :: T) := by
        rw [List.append_assoc, show J ++ z :: x :: T = (J ++ [z]) ++ x :: T from by simp, hJ]; rfl
      have e2 : W ++ x :: (J' ++ x :: T) = W ++ [x] ++ J' ++ x :: T := by simp
      have hnx := ih (W ++ [x]) J' x (km + 1) (by rw [hn, e1, ← e2]; simp) (by rw [← Nat.add_assoc, hk]; simp; omega) (short_perm hsh (fun r hr => by
        rw [e1]
        rw [← e2] at hr
        simp only [List.mem_append, List.mem_cons] at hr ⊢
        rcases hr with h | h | h | h | h <;> simp [h]))
      clear ih
      have hst := @set_at W (J' ++ x :: T) [] x j0
      have hW1 : W.length < ((W ++ J ++ z :: x :: T).map Rt.e).length := by rw [List.length_map, ← hn]; exact hWn
      have hadd5 : IntKind.i64.wrap ((W.length : Int) + 1) = ((W ++ [x]).length : Nat) := by rw [w64 (by omega)]; simp
      have hzw : 0 + W.length * 2 = W.length * 2 := by omega
      rw [← upd_self h0, ← upd_self h1, ← upd_self h5, ← upd_self h6, ← upd_self h7]
      refine WC_loop ?_
      repeat' (first
 | (refine I_WS ?_; first
 | refine W_lssT rfl rfl rfl rfl hlt ?_
 | refine W_sub (s := ((km : Nat) : Int)) rfl rfl rfl rfl hsub ?_
 | refine W_iaddrR (j := km + 1) rfl rfl rfl rfl hj1 ?_
 | refine W_iaddrR (j := km) rfl rfl rfl rfl hj0 ?_
 | refine W_iaddrR (j := W.length) rfl rfl rfl rfl hWn ?_
 | refine W_add (s := (((W ++ [x]).length : Nat) : Int)) rfl rfl rfl rfl hadd5 ?_
 | (refine I_mov ?_; first
 | refine W_mov (v := .int _ _) rfl rfl rfl ?_
 | refine W_mov (v := .func _ _) rfl rfl rfl ?_
 | refine W_mov (v := .rs _ _ _ _ _) rfl rfl rfl ?_)
 | (refine I_bin ?_; first
 | refine W_add rfl rfl rfl rfl (by first | exact w64 (by omega) | rfl) ?_)
 | (refine I_load ?_; first
 | refine W_loadRow (j := (W ++ J).length + 1) rfl rfl hR.at hz1 rt_cells hx' rfl ?_
 | refine W_loadRow (j := (W ++ J).length) rfl rfl hR.at hz0 rt_cells hzz rfl ?_)
 | (refine I_call ?_; first
 | refine W_call rfl rfl rfl hC rfl rfl ?_)
 | (refine I_store ?_; first
 | (refine W_storeRow (j := W.length) rfl rfl rfl hR hzw rt_cells hW1 rfl rfl rfl ?_ <;> intro st1 f1 f2 f3 f4 f5 hR1 hb2))
 | refine W_not rfl rfl rfl ?_
 | refine W_lenR rfl rfl rfl ?_
 | refine WS_nil ?_)
 | refine okF_intro (okFlags_onlyR rfl) ?_
 | refine WC_seq ?_
 | refine WC_opsS ?_
 | refine WC_drawS ?_
 | refine WC_skip ?_
 | refine WC_condT rfl ?_
 | refine WC_block ?_)
      skip
      have hR3 : RowIs st1 p 2 ((W ++ [x] ++ J' ++ x :: T).map Rt.e) := by
        rw [← e2, ← hst, ← e1]; exact hR1
      refine hnx _ _ hR3 ?_ ?_ ?_ ?_ ?_ Q (fun ρ' st' J2 hF hR' hn' k0' k5' => hQ ρ' st' J2 (FrR.trans ⟨f1, f2, f3, f4, f5, hb2⟩ hF) (by simpa using hR') (by simpa using hn') k0' (by rw [k5']; simp)) <;> rfl
end Go.Ord

/-
  Merging, as plain lists: two sorted ones; the stable sort of two parts.
-/
namespace Go.Ord
open Go.Ev
set_option linter.unusedVariables false
set_option linter.unusedSimpArgs false
theorem ltR_iff' {x y : Rt} : ltR x y = true ↔ cmpR x.hs x.ar y.hs y.ar < 0 := by unfold ltR; exact decide_eq_true_iff
/-- not behind -/
def leR (x y : Rt) : Prop := cmpR x.hs x.ar y.hs y.ar ≤ 0
theorem leR_iff {x y : Rt} : leR x y ↔ ltR y x = false := by
  have h := cmpR_anti x.hs x.ar y.hs y.ar
  unfold leR
  rw [← Bool.not_eq_true, ltR_iff']
  omega
theorem leR_trans {x y z : Rt} (h1 : leR x y) (h2 : leR y z) : leR x z := (cmpR_trans x.hs x.ar y.hs y.ar z.hs z.ar).1 h1 h2
theorem leR_of_lt {x y : Rt} (h : ltR x y = true) : leR x y := Int.le_of_lt (ltR_iff'.1 h)
theorem lt_le {x y z : Rt} (h1 : ltR x y = true) (h2 : leR y z) : ltR x z = true := by
  cases h : ltR x z with
  | true => rfl
  | false =>
    have := leR_iff.1 (leR_trans h2 (leR_iff.2 h))
    rw [h1] at this
    cases this
theorem le_lt {x y z : Rt} (h1 : leR x y) (h2 : ltR y z = true) : ltR x z = true := by
  cases h : ltR x z with
  | true => rfl
  | false =>
    have := leR_iff.1 (leR_trans (leR_iff.2 h) h1)
    rw [h2] at this
    cases this
def Srt (l : List Rt) : Prop := l.Pairwise leR
def insF (x : Rt) : List Rt → List Rt
  | [] => [x]
  | y :: r => if ltR x y then x :: y :: r else y :: insF x r
theorem insF_snoc (x y : Rt) : ∀ S : List Rt, Srt (S ++ [y]) → insF x (S ++ [y]) = if ltR x y then insF x S ++ [y] else S ++ [y, x]
  | [], h => by
    rw [List.nil_append, insF, insF]
    split
    · simp
    · simp [insF]
  | z :: S, h => by
    rw [List.cons_append, insF]
    have hz := List.pairwise_cons.1 h
    by_cases hx : ltR x z = true
    · rw [if_pos hx, if_pos (lt_le hx (hz.1 y (by simp))), insF, if_pos hx]
      simp
    · rw [if_neg hx, insF_snoc x y S hz.2, insF, if_neg hx]
      split <;> simp
theorem insL_F (x : Rt) (S : List Rt) (h : Srt S) : insL S x = insF x S := by
  induction hn : S.length generalizing S with
  | zero =>
    obtain rfl := List.length_eq_zero_iff.1 hn
    rfl
  | succ n ih =>
    rcases List.eq_nil_or_concat S with h' | ⟨S', y, h'⟩
    · subst h'; simp at hn
    · rw [List.concat_eq_append] at h'
      subst h'
      rw [insL_snoc, insF_snoc x y S' h, ih S' (List.pairwise_append.1 h).1 (by simpa using hn)]
theorem insF_mem (x r : Rt) : ∀ S : List Rt, r ∈ insF x S ↔ r = x ∨ r ∈ S
  | [] => by simp [insF]
  | y :: S => by
    rw [insF]
    split
    · simp
    · simp only [List.mem_cons, insF_mem x r S]
      constructor
      · rintro (h | h | h) <;> simp [h]
      · rintro (h | h | h) <;> simp [h]
theorem insF_srt (x : Rt) : ∀ S : List Rt, Srt S → Srt (insF x S)
  | [], _ => by simp [insF, Srt]
  | y :: S, h => by
    have hy := List.pairwise_cons.1 h
    rw [insF]
    split
    · rename_i hx
      refine List.pairwise_cons.2 ⟨fun z hz => ?_, h⟩
      rcases List.mem_cons.1 hz with rfl | hz
      · exact leR_of_lt hx
      · exact leR_trans (leR_of_lt hx) (hy.1 z hz)
    · rename_i hx
      refine List.pairwise_cons.2 ⟨fun z hz => ?_, insF_srt x S hy.2⟩
      rcases (insF_mem x z S).1 hz with rfl | hz
      · exact leR_iff.2 (by simpa using hx)
      · exact hy.1 z hz
theorem insL_srt (x : Rt) (S : List Rt) (h : Srt S) : Srt (insL S x) := by rw [insL_F x S h]; exact insF_srt x S h
theorem foldl_srt : ∀ (l S : List Rt), Srt S → Srt (l.foldl insL S)
  | [], S, h => h
  | x :: l, S, h => foldl_srt l _ (insL_srt x S h)
theorem ssort_srt (l : List Rt) : Srt (ssort l) := foldl_srt l [] .nil
/-! ### Merging -/
def mrg : List Rt → List Rt → List Rt
  | [], B => B
  | A, [] => A
  | a :: A, b :: B => if ltR b a then b :: mrg (a :: A) B else a :: mrg A (b :: B)
termination_by A B => A.length + B.length
theorem mrg_nl (B : List Rt) : mrg [] B = B := by rw [mrg]
theorem mrg_nr (A : List Rt) : mrg A [] = A := by cases A <;> rw [mrg]; simp
theorem mrg_cc (a b : Rt) (A B : List Rt) : mrg (a :: A) (b :: B) = if ltR b a then b :: mrg (a :: A) B else a :: mrg A (b :: B) := by rw [mrg]
theorem mrg_len : ∀ (n : Nat) (A B : List Rt), A.length + B.length ≤ n → (mrg A B).length = A.length + B.length
  | _, [], B, _ => by simp [mrg_nl]
  | _, a :: A, [], _ => by simp [mrg_nr]
  | 0, a :: A, b :: B, h => by simp at h
  | n + 1, a :: A, b :: B, h => by
    rw [mrg_cc]
    simp only [List.length_cons] at h ⊢
    split
    · rw [List.length_cons, mrg_len n (a :: A) B (by simp; omega)]; simp; omega
    · rw [List.length_cons, mrg_len n A (b :: B) (by simp; omega)]; simp; omega
theorem mrg_mem (r : Rt) : ∀ (n : Nat) (A B : List Rt), A.length + B.length ≤ n → (r ∈ mrg A B ↔ r ∈ A ∨ r ∈ B)
  | _, [], B, _ => by simp [mrg_nl]
  | _, a :: A, [], _ => by simp [mrg_nr]
  | 0, a :: A, b :: B, h => by simp at h
  | n + 1, a :: A, b :: B, h => by
    rw [mrg_cc]
    simp only [List.length_cons] at h
    split
    · rw [List.mem_cons, mrg_mem r n (a :: A) B (by simp; omega)]
      simp only [List.mem_cons]
      constructor
      · rintro (h | (h | h) | h) <;> simp [h]
      · rintro ((h | h) | h | h) <;> simp [h]
    · rw [List.mem_cons, mrg_mem r n A (b :: B) (by simp; omega)]
      simp only [List.mem_cons]
      constructor
      · rintro (h | h | h | h) <;> simp [h]
      · rintro ((h | h) | h | h) <;> simp [h]
/-- Parts that are ahead of the others are merged by themselves. -/
theorem mrg_split : ∀ (n : Nat) (A1 B1 A2 B2 : List Rt), A1.length + B1.length ≤ n → (∀ b ∈ B1, ∀ a ∈ A2, ltR b a = true) → (∀ a ∈ A1, ∀ b ∈ B2, leR a b) → mrg (A1 ++ A2) (B1 ++ B2) = mrg A1 B1 ++ mrg A2 B2
  | _, [], [], A2, B2, _, _, _ => by simp [mrg_nl]
  | 0, a :: A1, B1, A2, B2, h, _, _ => by simp at h
  | 0, [], b :: B1, A2, B2, h, _, _ => by simp at h
  | n + 1, [], b :: B1, A2, B2, h, h1, h2 => by
    have ih := mrg_split n [] B1 A2 B2 (by simp at h ⊢; omega) (fun b hb => h1 b (List.mem_cons_of_mem _ hb)) h2
    rw [List.nil_append, mrg_nl] at ih
    rw [List.nil_append, mrg_nl, List.cons_append]
    cases A2 with
    | nil => rw [mrg_nl, mrg_nl]; rfl
    | cons a A2 => rw [mrg_cc, if_pos (h1 b List.mem_cons_self a List.mem_cons_self), ih]; rfl
  | n + 1, a :: A1, [], A2, B2, h, h1, h2 => by
    have ih := mrg_split n A1 [] A2 B2 (by simp at h ⊢; omega) h1 (fun a ha => h2 a (List.mem_cons_of_mem _ ha))
    rw [List.nil_append, mrg_nr] at ih
    rw [List.nil_append, mrg_nr, List.cons_append]
    cases B2 with
    | nil => rw [mrg_nr, mrg_nr]; rfl
    | cons b B2 =>
      rw [mrg_cc, if_neg (by rw [leR_iff.1 (h2 a List.mem_cons_self b List.mem_cons_self)]; decide), ih]; rfl
  | n + 1, a :: A1, b :: B1, A2, B2, h, h1, h2 => by
    have i1 := mrg_split n (a :: A1) B1 A2 B2 (by simp at h ⊢; omega) (fun b hb => h1 b (List.mem_cons_of_mem _ hb)) h2
    have i2 := mrg_split n A1 (b :: B1) A2 B2 (by simp at h ⊢; omega) h1 (fun a ha => h2 a (List.mem_cons_of_mem _ ha))
    rw [List.cons_append, List.cons_append, mrg_cc, mrg_cc]
    split
    · rw [← List.cons_append, i1]; rfl
    · rw [← List.cons_append, i2]; rfl
theorem mrg_ins (x : Rt) : ∀ (n : Nat) (S T : List Rt), S.length + T.length ≤ n → mrg S (insF x T) = insF x (mrg S T)
  | _, [], T, _ => by rw [mrg_nl, mrg_nl]
  | 0, a :: S, T, h => by simp at h
  | n + 1, a :: S, [], h => by
    have ih := mrg_ins x n S [] (by simp at h ⊢; omega)
    rw [insF, mrg_nr] at ih
    rw [insF, mrg_cc, mrg_nr, insF]
    split
    · rfl
    · rw [ih]
  | n + 1, a :: S, b :: T, h => by
    have i1 := mrg_ins x n S (b :: T) (by simp at h ⊢; omega)
    have i2 := mrg_ins x n (a :: S) T (by simp at h ⊢; omega)
    rw [insF]
    by_cases hxb : ltR x b = true
    · rw [if_pos hxb, mrg_cc, mrg_cc a b]
      rw [insF, if_pos hxb] at i1
      by_cases hba : ltR b a = true
      · rw [if_pos (lt_le hxb (leR_of_lt hba)), if_pos hba, insF, if_pos hxb]
      · rw [if_neg hba, insF, i1]
    · rw [if_neg hxb, mrg_cc, mrg_cc]
      rw [insF, if_neg hxb] at i1
      by_cases hba : ltR b a = true
      · rw [if_pos hba, if_pos hba, insF, if_neg hxb, i2]
      · rw [if_neg hba, if_neg hba, insF, i1, if_neg]
        intro hxa
        rw [Bool.not_eq_true] at hxb hba
        have := leR_iff.1 (leR_trans (leR_iff.2 hba) (leR_iff.2 hxb))
        rw [hxa] at this
        cases this
theorem mrg_srt : ∀ (n : Nat) (A B : List Rt), A.length + B.length ≤ n → Srt A → Srt B → Srt (mrg A B)
  | _, [], B, _, _, h => by rw [mrg_nl]; exact h
  | _, a :: A, [], _, h, _ => by rw [mrg_nr]; exact h
  | 0, a :: A, b :: B, h, _, _ => by simp at h
  | n + 1, a :: A, b :: B, h, hA, hB => by
    have i1 := mrg_srt n (a :: A) B (by simp at h ⊢; omega) hA (List.pairwise_cons.1 hB).2
    have i2 := mrg_srt n A (b :: B) (by simp at h ⊢; omega) (List.pairwise_cons.1 hA).2 hB
    rw [mrg_cc]
    split
    · rename_i hba
      refine List.pairwise_cons.2 ⟨fun z hz => ?_, i1⟩
      rcases (mrg_mem z _ (a :: A) B (Nat.le_refl _)).1 hz with hz | hz
      · rcases List.mem_cons.1 hz with rfl | hz
        · exact leR_of_lt hba
        · exact leR_trans (leR_of_lt hba) ((List.pairwise_cons.1 hA).1 z hz)
      · exact (List.pairwise_cons.1 hB).1 z hz
    · rename_i hba
      have hab : leR a b := leR_iff.2 (by simpa using hba)
      refine List.pairwise_cons.2 ⟨fun z hz => ?_, i2⟩
      rcases (mrg_mem z _ A (b :: B) (Nat.le_refl _)).1 hz with hz | hz
      · exact (List.pairwise_cons.1 hA).1 z hz
      · rcases List.mem_cons.1 hz with rfl | hz
        · exact hab
        · exact leR_trans hab ((List.pairwise_cons.1 hB).1 z hz)
theorem mrg_fold (S : List Rt) : ∀ (B T : List Rt), Srt S → Srt T → mrg S (B.foldl insL T) = B.foldl insL (mrg S T)
  | [], _, _, _ => rfl
  | x :: B, T, hS, hT => by
    rw [List.foldl_cons, List.foldl_cons, mrg_fold S B (insL T x) hS (insL_srt x T hT), insL_F x T hT, mrg_ins x _ S T (Nat.le_refl _), insL_F x _ (mrg_srt _ S T (Nat.le_refl _) hS hT)]
/-- The stable sort of two parts. -/
theorem ssort_app (A B : List Rt) : ssort (A ++ B) = mrg (ssort A) (ssort B) := by
  unfold ssort
  rw [List.foldl_append, mrg_fold _ B [] (foldl_srt A [] .nil) .nil, mrg_nr]
end Go.Ord

/-
  Rows that are sorted piece by piece, as plain lists.
-/
namespace Go.Ord
open Go.Ev
set_option linter.unusedVariables false
/-- A list's pieces of k (the last one may be shorter), each in order. -/
inductive Blk (k : Nat) : List Rt → List Rt → Prop
  | nil : Blk k [] []
  | last {L : List Rt} : 0 < L.length → L.length ≤ k → Blk k L (ssort L)
  | cons {Xs M M' : List Rt} : Xs.length = k → Blk k M M' → Blk k (Xs ++ M) (ssort Xs ++ M')
theorem Blk.len {k : Nat} {L L' : List Rt} (h : Blk k L L') : L'.length = L.length := by
  induction h with
  | nil => rfl
  | last _ _ => exact ssort_len _
  | cons _ _ ih => rw [List.length_append, List.length_append, ssort_len, ih]
/-- What is no longer than a piece is in order. -/
theorem Blk.one {k : Nat} (hk : 0 < k) {L L' : List Rt} (h : Blk k L L') (hl : L.length ≤ k) : L' = ssort L := by
  cases h with
  | nil => rfl
  | last _ _ => rfl
  | cons hx hm =>
    rename_i Xs M M'
    rw [List.length_append] at hl
    have h0 : M = [] := List.length_eq_zero_iff.1 (by omega)
    have h1 : M' = [] := List.length_eq_zero_iff.1 (by rw [hm.len, h0]; rfl)
    rw [h0, h1, List.append_nil, List.append_nil]
theorem Blk.of {k : Nat} {L : List Rt} (hl : L.length ≤ k) : Blk k L (ssort L) := by
  by_cases h : L.length = 0
  · rw [List.length_eq_zero_iff.1 h]; exact .nil
  · exact .last (by omega) hl
theorem Blk.piece {k : Nat} (hk : 0 < k) {L L' : List Rt} (h : Blk k L L') (hl : k ≤ L.length) : ∃ Xs M M', Xs.length = k ∧ L = Xs ++ M ∧ L' = ssort Xs ++ M' ∧ Blk k M M' := by
  cases h with
  | nil => simp at hl; omega
  | last h1 h2 => exact ⟨L, [], [], by omega, (List.append_nil _).symm, (List.append_nil _).symm, .nil⟩
  | cons hx hm => exact ⟨_, _, _, hx, rfl, rfl, hm⟩
/-- Two pieces and the rest. -/
theorem Blk.two {k : Nat} (hk : 0 < k) {L L' : List Rt} (h : Blk k L L') (hl : 2 * k ≤ L.length) : ∃ Xs Ys M M', Xs.length = k ∧ Ys.length = k ∧ L = Xs ++ Ys ++ M ∧ L' = ssort Xs ++ ssort Ys ++ M' ∧ Blk k M M' := by
  obtain ⟨Xs, M, M', h1, rfl, rfl, h2⟩ := h.piece hk (by omega)
  rw [List.length_append] at hl
  obtain ⟨Ys, N, N', h3, rfl, rfl, h4⟩ := h2.piece hk (by omega)
  exact ⟨Xs, Ys, N, N', h1, h3, by simp, by simp, h4⟩
/-- .. and what is left in the end. -/
theorem Blk.rest {k : Nat} (hk : 0 < k) {L L' : List Rt} (h : Blk k L L') (h1 : k < L.length) (h2 : L.length < 2 * k) : ∃ Xs Ys, Xs.length = k ∧ 0 < Ys.length ∧ L = Xs ++ Ys ∧ L' = ssort Xs ++ ssort Ys := by
  obtain ⟨Xs, M, M', h3, rfl, rfl, h4⟩ := h.piece hk (by omega)
  rw [List.length_append] at h1 h2
  exact ⟨Xs, M, h3, by omega, rfl, by rw [h4.one hk (by omega)]⟩
end Go.Ord

/-
  slices' swapRange and rotate, on a row of routes.
-/
namespace Go.Ord
open Go.Ev
set_option linter.unusedVariables false
set_option linter.unusedSimpArgs false
theorem swap2 {U V W : List Rt} {x y : Rt} : (((U ++ x :: (V ++ y :: W)).map Rt.e).set U.length y.e).set (U.length + 1 + V.length) x.e = (U ++ y :: (V ++ x :: W)).map Rt.e := by
  induction U with
  | nil =>
    simp only [List.nil_append, List.map_cons, List.length_nil, List.set_cons_zero, Nat.zero_add]
    rw [Nat.add_comm 1, List.set_cons_succ]
    congr 1
    induction V with
    | nil => rfl
    | cons z V ih => simpa using ih
  | cons z U ih =>
    simp only [List.cons_append, List.map_cons, List.length_cons, List.set_cons_succ]
    rw [show U.length + 1 + 1 + V.length = (U.length + 1 + V.length) + 1 from by omega, List.set_cons_succ, ih]
set_option maxHeartbeats 8000000 in
theorem l_swp (p n c a b nn : Nat) (hnl : n ≤ 1000000) : ∀ (Xs Ys U V W : List Rt) (k : Nat), Xs.length = Ys.length → n = (U ++ Xs ++ V ++ Ys ++ W).length → a + k = U.length → b + k = (U ++ Xs ++ V).length → nn = k + Xs.length → ∀ (ρ : Nat → D) (st : Store), RowIs st p 2 ((U ++ Xs ++ V ++ Ys ++ W).map Rt.e) →
    ρ 0 = .rs p 0 2 n c → ρ 1 = .int .i64 a → ρ 2 = .int .i64 b → ρ 3 = .int .i64 nn → ρ 10 = .int .i64 k → ∀ (Q : X → (Nat → D) → Store → Prop),
    (∀ ρ' st', FrR st st' p → RowIs st' p 2 ((U ++ Ys ++ V ++ Xs ++ W).map Rt.e) → Q (.exit 0) ρ' st') → WC Γ (.loop c_slices_swapRangeCmpFunc_Route_l0) ρ st Q := by
  intro Xs
  induction Xs with
  | nil =>
    intro Ys U V W k hXY hn ha hb hnn ρ st hR h0 h1 h2 h3 h10 Q hQ
    have hY : Ys = [] := List.length_eq_zero_iff.1 hXY.symm
    subst hY
    have hnk : nn = k := by simpa using hnn
    subst hnk
    rw [← upd_self h0, ← upd_self h1, ← upd_self h2, ← upd_self h3, ← upd_self h10]
    refine WC_loop ?_
    repeat' (first
 | (refine I_WS ?_; first
 | (refine I_mov ?_; first
 | refine W_mov (v := .int _ _) rfl rfl rfl ?_)
 | (refine I_bin ?_; first
 | refine W_lssF rfl rfl rfl rfl (by omega) ?_)
 | refine WS_nil ?_)
 | refine WC_seq ?_
 | refine WC_opsS ?_
 | refine WC_condF rfl ?_
 | refine WC_exit ?_)
    exact hQ _ _ (FrR.refl _ _) hR
  | cons x Xs ih =>
    intro Ys U V W k hXY hn ha hb hnn ρ st hR h0 h1 h2 h3 h10 Q hQ
    cases Ys with
    | nil => simp at hXY
    | cons y Ys =>
      have e1 : U ++ (x :: Xs) ++ V ++ (y :: Ys) ++ W = U ++ x :: ((Xs ++ V) ++ y :: (Ys ++ W)) := by simp
      have e2 : U ++ y :: ((Xs ++ V) ++ x :: (Ys ++ W)) = (U ++ [y]) ++ Xs ++ (V ++ [x]) ++ Ys ++ W := by simp
      have hnx := ih Ys (U ++ [y]) (V ++ [x]) W (k + 1) (by simpa using hXY) (by rw [← e2, hn, e1]; simp) (by simp; omega) (by simp at hb ⊢; omega) (by rw [hnn]; simp; omega)
      have hbl : b + k = U.length + 1 + (Xs ++ V).length := by rw [hb]; simp; omega
      rw [e1] at hR hn
      have hx : (U ++ x :: ((Xs ++ V) ++ y :: (Ys ++ W)))[a + k]? = some x := by rw [ha]; simp
      have hy : (U ++ x :: ((Xs ++ V) ++ y :: (Ys ++ W)))[b + k]? = some y := by
        rw [hbl, List.getElem?_append_right (by omega), show U.length + 1 + (Xs ++ V).length - U.length = (Xs ++ V).length + 1 from by omega, List.getElem?_cons_succ, List.getElem?_append_right (Nat.le_refl _)]
        simp
      have hx' := rt_at hx
      have hy' := rt_at hy
      have han : a + k < n := by rw [hn, ha]; simp
      have hbn : b + k < n := by rw [hn, hbl]; simp; omega
      have hlt : (k : Int) < (nn : Int) := by rw [hnn]; simp; omega
      have hsa : IntKind.i64.wrap ((a : Int) + (k : Int)) = ((a + k : Nat) : Int) := by rw [w64 (by omega)]; omega
      have hsb : IntKind.i64.wrap ((b : Int) + (k : Int)) = ((b + k : Nat) : Int) := by rw [w64 (by omega)]; omega
      have hsk : IntKind.i64.wrap ((k : Int) + 1) = ((k + 1 : Nat) : Int) := by rw [w64 (by omega)]; omega
      have hi1 : a + k < ((U ++ x :: ((Xs ++ V) ++ y :: (Ys ++ W))).map Rt.e).length := by rw [List.length_map, ← hn]; exact han
      have hsw := @swap2 U (Xs ++ V) (Ys ++ W) x y
      rw [← ha, show a + k + 1 + (Xs ++ V).length = b + k from by omega] at hsw
      clear ih
      generalize hL : U ++ x :: ((Xs ++ V) ++ y :: (Ys ++ W)) = L at *
      have hi2 : b + k < ((L.map Rt.e).set (a + k) (.agg [.slice .no 3 (y.hs.map Hp.e), .int .i64 y.ar])).length := by rw [List.length_set, List.length_map, ← hn]; exact hbn
      have hcel : ∀ d ∈ ((L.map Rt.e).set (a + k) (.agg [.slice .no 3 (y.hs.map Hp.e), .int .i64 y.ar])), d.cells.length = 2 := by
        intro d hd
        rcases List.mem_or_eq_of_mem_set hd with hd | rfl
        · exact rt_cells d hd
        · rfl
      rw [← upd_self h0, ← upd_self h1, ← upd_self h2, ← upd_self h3, ← upd_self h10]
      refine WC_loop ?_
      repeat' (first
 | (refine I_WS ?_; first
 | refine W_lssT rfl rfl rfl rfl hlt ?_
 | refine W_add (s := ((a + k : Nat) : Int)) rfl rfl rfl rfl hsa ?_
 | refine W_add (s := ((b + k : Nat) : Int)) rfl rfl rfl rfl hsb ?_
 | refine W_iaddrR (j := a + k) rfl rfl rfl rfl han ?_
 | refine W_iaddrR (j := b + k) rfl rfl rfl rfl hbn ?_
 | (refine I_mov ?_; first
 | refine W_mov (v := .int _ _) rfl rfl rfl ?_
 | refine W_mov (v := .rs _ _ _ _ _) rfl rfl rfl ?_)
 | (refine I_load ?_; first
 | refine W_loadRow (j := a + k) rfl rfl hR.at (Nat.zero_add _) rt_cells hx' rfl ?_
 | refine W_loadRow (j := b + k) rfl rfl hR.at (Nat.zero_add _) rt_cells hy' rfl ?_)
 | (refine I_store ?_; first
 | (refine W_storeRow (j := a + k) rfl rfl rfl hR (Nat.zero_add _) rt_cells hi1 rfl rfl rfl ?_ <;> intro st1 f1 f2 f3 f4 f5 hR1 hb2))
 | refine WS_nil ?_)
 | refine WC_seq ?_
 | refine WC_opsS ?_
 | refine WC_drawS ?_
 | refine WC_skip ?_
 | refine WC_condT rfl ?_
 | refine WC_block ?_)
      refine W_storeRow (j := b + k) rfl rfl rfl hR1 (Nat.zero_add _) hcel hi2 rfl rfl rfl ?_
      intro st2 g1 g2 g3 g4 g5 hR2 hb3
      have hR3 : RowIs st2 p 2 ((U ++ [y] ++ Xs ++ (V ++ [x]) ++ Ys ++ W).map Rt.e) := by rw [← e2, ← hsw]; exact hR2
      repeat' (first
 | (refine I_WS ?_; first
 | refine W_add (s := ((k + 1 : Nat) : Int)) rfl rfl rfl rfl hsk ?_
 | (refine I_mov ?_; first
 | refine W_mov (v := .int _ _) rfl rfl rfl ?_)
 | refine WS_nil ?_)
 | refine okF_intro (by simp [okFlags, List.range, List.range.loop, Fl.clash]) ?_
 | refine WC_opsS ?_)
      refine hnx _ _ hR3 ?_ ?_ ?_ ?_ ?_ Q (fun ρ' st' hF hR' => hQ ρ' st' (FrR.trans ⟨g1.trans f1, g2.trans f2, g3.trans f3, g4.trans f4, g5.trans f5, fun q hq => (hb3 q hq).trans (hb2 q hq)⟩ hF) (by simpa using hR')) <;> rfl
theorem s_swapRange (p n c : Nat) (U Xs V Ys W : List Rt) (st : Store) (hnl : n ≤ 1000000) (hXY : Xs.length = Ys.length) (hn : n = (U ++ Xs ++ V ++ Ys ++ W).length) (hR : RowIs st p 2 ((U ++ Xs ++ V ++ Ys ++ W).map Rt.e)) (a b nn : Int) (ha : a = U.length) (hb : b = ((U ++ Xs ++ V).length : Nat)) (hnn : nn = Xs.length) :
    EvRWX Γ 76 [.rs p 0 2 n c, .int .i64 a, .int .i64 b, .int .i64 nn, .func 21 []] st (fun r st' => r = .tuple [] ∧ FrR st st' p ∧ RowIs st' p 2 ((U ++ Ys ++ V ++ Xs ++ W).map Rt.e)) := by
  subst ha hb hnn
  refine EvRWX_code rfl rfl ?_
  have hlo := l_swp p n c U.length (U ++ Xs ++ V).length Xs.length hnl Xs Ys U V W 0 hXY hn rfl rfl (Nat.zero_add _).symm
  generalize hm : ((U ++ Xs ++ V).length : Nat) = m at *
  repeat' (first
 | (refine I_WS ?_; first
 | (refine I_mov ?_; first
 | refine W_mov (v := .int _ _) rfl rfl rfl ?_)
 | refine WS_nil ?_)
 | (refine hlo _ _ hR ?_ ?_ ?_ ?_ ?_ _ ?_ <;> first | rfl | (intro ρ2 st2 hF hR2))
 | refine WC_seq ?_
 | refine WC_opsS ?_
 | refine WC_block ?_)
  exact ⟨.inl rfl, _, rfl, rfl, hF, hR2⟩
end Go.Ord

/-
  slices' rotate, on a row of routes.
-/
namespace Go.Ord
open Go.Ev
set_option linter.unusedVariables false
set_option linter.unusedSimpArgs false
set_option maxHeartbeats 8000000 in
theorem l_rot (p n c m : Nat) (hnl : n ≤ 1000000) (F : List Rt) : ∀ (N : Nat) (Xs Ys U W : List Rt), Xs.length + Ys.length ≤ N → 0 < Xs.length → 0 < Ys.length → n = (U ++ Xs ++ Ys ++ W).length → m = (U ++ Xs).length → U ++ Ys ++ Xs ++ W = F → ∀ (ρ : Nat → D) (st : Store), RowIs st p 2 ((U ++ Xs ++ Ys ++ W).map Rt.e) →
    ρ 0 = .rs p 0 2 n c → ρ 2 = .int .i64 m → ρ 4 = .func 21 [] → ρ 10 = .int .i64 Xs.length → ρ 11 = .int .i64 Ys.length → ∀ (Q : X → (Nat → D) → Store → Prop),
    (∀ ρ' st' U' X' Y' W', X'.length = Y'.length → n = (U' ++ X' ++ Y' ++ W').length → m = (U' ++ X').length → U' ++ Y' ++ X' ++ W' = F → FrR st st' p → RowIs st' p 2 ((U' ++ X' ++ Y' ++ W').map Rt.e) → ρ' 0 = .rs p 0 2 n c → ρ' 2 = .int .i64 m → ρ' 4 = .func 21 [] → ρ' 10 = .int .i64 X'.length → Q (.exit 0) ρ' st') → WC Γ (.loop c_slices_rotateCmpFunc_Route_l0) ρ st Q := by
  intro N
  induction N with
  | zero => intro Xs Ys U W h1 h2 h3; omega
  | succ N ih =>
    intro Xs Ys U W hN hX hY hn hm hF ρ st hR h0 h2 h4 h10 h11 Q hQ
    have hnl' : U.length + Xs.length + Ys.length + W.length = n := by rw [hn]; simp; omega
    have hml : m = U.length + Xs.length := by rw [hm]; simp
    by_cases he : Xs.length = Ys.length
    · rw [← he] at h11
      rw [← upd_self h0, ← upd_self h2, ← upd_self h4, ← upd_self h10, ← upd_self h11]
      refine WC_loop ?_
      repeat' (first
 | (refine I_WS ?_; first
 | (refine I_mov ?_; first
 | refine W_mov (v := .int _ _) rfl rfl rfl ?_)
 | (refine I_bin ?_; first
 | refine W_neqF rfl rfl rfl rfl (by omega) ?_)
 | refine WS_nil ?_)
 | refine WC_seq ?_
 | refine WC_opsS ?_
 | refine WC_condF rfl ?_
 | refine WC_exit ?_)
      all_goals first | (exfalso; omega) | skip
      refine hQ _ _ U Xs Ys W he hn hm hF (FrR.refl _ _) hR ?_ ?_ ?_ ?_ <;> rfl
    · have hne : ¬ (Xs.length : Int) = (Ys.length : Int) := by omega
      have hs1 : IntKind.i64.wrap ((m : Int) - (Xs.length : Int)) = ((U.length : Nat) : Int) := by rw [w64 (by omega)]; omega
      by_cases hgt : Ys.length < Xs.length
      · have hgt' : (Ys.length : Int) < (Xs.length : Int) := by omega
        obtain ⟨X1, X2, rfl, hX1⟩ : ∃ X1 X2, Xs = X1 ++ X2 ∧ X1.length = Ys.length := ⟨Xs.take Ys.length, Xs.drop Ys.length, (List.take_append_drop _ _).symm, by rw [List.length_take]; omega⟩
        have e1 : U ++ (X1 ++ X2) ++ Ys ++ W = U ++ X1 ++ X2 ++ Ys ++ W := by simp
        have hsw := s_swapRange p n c U X1 X2 Ys W st hnl hX1 (by rw [hn, e1]) (by rw [← e1]; exact hR) U.length m Ys.length rfl (by rw [hm]; simp) (by rw [hX1])
        have hX2 : X2.length = (X1 ++ X2).length - Ys.length := by rw [List.length_append]; omega
        have hs2 : IntKind.i64.wrap (((X1 ++ X2).length : Int) - (Ys.length : Int)) = ((X2.length : Nat) : Int) := by rw [w64 (by omega)]; omega
        have hnx := ih X2 X1 (U ++ Ys) W (by rw [hX1]; omega) (by omega) (by omega) (by rw [hn]; simp; omega) (by rw [hm]; simp; omega) (by rw [← hF]; simp)
        rw [hX1] at hnx
        clear ih
        generalize hL : (X1 ++ X2).length = i at *
        rw [← upd_self h0, ← upd_self h2, ← upd_self h4, ← upd_self h10, ← upd_self h11]
        refine WC_loop ?_
        repeat' (first
 | (refine I_WS ?_; first
 | refine W_neqT rfl rfl rfl rfl hne ?_
 | refine W_gtrT rfl rfl rfl rfl hgt' ?_
 | refine W_sub (s := ((U.length : Nat) : Int)) rfl rfl rfl rfl hs1 ?_
 | refine W_sub (s := ((X2.length : Nat) : Int)) rfl rfl rfl rfl hs2 ?_
 | (refine I_mov ?_; first
 | refine W_mov (v := .int _ _) rfl rfl rfl ?_
 | refine W_mov (v := .func _ _) rfl rfl rfl ?_
 | refine W_mov (v := .rs _ _ _ _ _) rfl rfl rfl ?_)
 | (refine I_call ?_; first
 | (refine W_callRWX rfl rfl rfl hsw ?_ <;> intro r1 st1 hp1))
 | refine WS_nil ?_)
 | refine WC_seq ?_
 | refine WC_opsS ?_
 | refine WC_skip ?_
 | refine WC_condT rfl ?_
 | refine WC_block ?_)
        obtain ⟨rfl, hF1, hR1⟩ := hp1
        skip
        refine hnx _ _ hR1 ?_ ?_ ?_ ?_ ?_ Q (fun ρ' st' U' X' Y' W' q1 q2 q3 q4 q5 q6 q7 q8 q9 => hQ ρ' st' U' X' Y' W' q1 q2 q3 q4 (hF1.trans q5) q6 q7 q8 q9) <;> rfl
      · have hgt' : (Xs.length : Int) ≤ (Ys.length : Int) := by omega
        obtain ⟨Y1, Y2, rfl, hY2⟩ : ∃ Y1 Y2, Ys = Y1 ++ Y2 ∧ Y2.length = Xs.length := ⟨Ys.take (Ys.length - Xs.length), Ys.drop (Ys.length - Xs.length), (List.take_append_drop _ _).symm, by rw [List.length_drop]; omega⟩
        have e1 : U ++ Xs ++ (Y1 ++ Y2) ++ W = U ++ Xs ++ Y1 ++ Y2 ++ W := by simp
        have hY1 : Y1.length = (Y1 ++ Y2).length - Xs.length := by rw [List.length_append]; omega
        have hb : (((m + (Y1 ++ Y2).length - Xs.length : Nat)) : Int) = ((U ++ Xs ++ Y1).length : Nat) := by rw [hml]; simp; omega
        have hsw := s_swapRange p n c U Xs Y1 Y2 W st hnl hY2.symm (by rw [hn, e1]) (by rw [← e1]; exact hR) U.length ((m + (Y1 ++ Y2).length - Xs.length : Nat) : Int) Xs.length rfl hb rfl
        have hs2 : IntKind.i64.wrap (((Y1 ++ Y2).length : Int) - (Xs.length : Int)) = ((Y1.length : Nat) : Int) := by rw [w64 (by omega)]; omega
        have hs3 : IntKind.i64.wrap ((m : Int) + ((Y1 ++ Y2).length : Int)) = ((m + (Y1 ++ Y2).length : Nat) : Int) := by rw [w64 (by omega)]; omega
        have hs4 : IntKind.i64.wrap (((m + (Y1 ++ Y2).length : Nat) : Int) - (Xs.length : Int)) = ((m + (Y1 ++ Y2).length - Xs.length : Nat) : Int) := by rw [w64 (by omega)]; omega
        have hnx := ih Y2 Y1 U (Xs ++ W) (by rw [hY2]; omega) (by omega) (by omega) (by rw [hn]; simp; omega) (by rw [hm]; simp; omega) (by rw [← hF]; simp)
        rw [hY2] at hnx
        clear ih
        generalize hL : (Y1 ++ Y2).length = j at *
        rw [← upd_self h0, ← upd_self h2, ← upd_self h4, ← upd_self h10, ← upd_self h11]
        refine WC_loop ?_
        repeat' (first
 | (refine I_WS ?_; first
 | refine W_neqT rfl rfl rfl rfl hne ?_
 | refine W_gtrF rfl rfl rfl rfl hgt' ?_
 | refine W_sub (s := ((U.length : Nat) : Int)) rfl rfl rfl rfl hs1 ?_
 | refine W_sub (s := ((Y1.length : Nat) : Int)) rfl rfl rfl rfl hs2 ?_
 | refine W_add (s := ((m + j : Nat) : Int)) rfl rfl rfl rfl hs3 ?_
 | refine W_sub (s := ((m + j - Xs.length : Nat) : Int)) rfl rfl rfl rfl hs4 ?_
 | (refine I_mov ?_; first
 | refine W_mov (v := .int _ _) rfl rfl rfl ?_
 | refine W_mov (v := .func _ _) rfl rfl rfl ?_
 | refine W_mov (v := .rs _ _ _ _ _) rfl rfl rfl ?_)
 | (refine I_call ?_; first
 | (refine W_callRWX rfl rfl rfl hsw ?_ <;> intro r1 st1 hp1))
 | refine WS_nil ?_)
 | refine WC_seq ?_
 | refine WC_opsS ?_
 | refine WC_skip ?_
 | refine WC_condT rfl ?_
 | refine WC_condF rfl ?_
 | refine WC_block ?_)
        obtain ⟨rfl, hF1, hR1⟩ := hp1
        have hR2 : RowIs st1 p 2 ((U ++ Y2 ++ Y1 ++ (Xs ++ W)).map Rt.e) := by simpa using hR1
        skip
        refine hnx _ _ hR2 ?_ ?_ ?_ ?_ ?_ Q (fun ρ' st' U' X' Y' W' q1 q2 q3 q4 q5 q6 q7 q8 q9 => hQ ρ' st' U' X' Y' W' q1 q2 q3 q4 (hF1.trans q5) q6 q7 q8 q9) <;> rfl
theorem s_rotate (p n c : Nat) (U Xs Ys W : List Rt) (st : Store) (hnl : n ≤ 1000000) (hX : 0 < Xs.length) (hY : 0 < Ys.length) (hn : n = (U ++ Xs ++ Ys ++ W).length) (hR : RowIs st p 2 ((U ++ Xs ++ Ys ++ W).map Rt.e)) (a m b : Int) (ha : a = U.length) (hm : m = ((U ++ Xs).length : Nat)) (hb : b = ((U ++ Xs ++ Ys).length : Nat)) :
    EvRWX Γ 74 [.rs p 0 2 n c, .int .i64 a, .int .i64 m, .int .i64 b, .func 21 []] st (fun r st' => r = .tuple [] ∧ FrR st st' p ∧ RowIs st' p 2 ((U ++ Ys ++ Xs ++ W).map Rt.e)) := by
  subst ha hm hb
  refine EvRWX_code rfl rfl ?_
  have hnl' : U.length + Xs.length + Ys.length + W.length = n := by rw [hn]; simp; omega
  have hlo := l_rot p n c (U ++ Xs).length hnl (U ++ Ys ++ Xs ++ W) (Xs.length + Ys.length) Xs Ys U W (Nat.le_refl _) hX hY hn rfl rfl
  have hs1 : IntKind.i64.wrap (((U ++ Xs).length : Int) - (U.length : Int)) = ((Xs.length : Nat) : Int) := by rw [w64 (by simp; omega)]; simp; omega
  have hs2 : IntKind.i64.wrap (((U ++ Xs ++ Ys).length : Int) - ((U ++ Xs).length : Int)) = ((Ys.length : Nat) : Int) := by rw [w64 (by simp; omega)]; simp; omega
  have hml : (U ++ Xs).length ≤ n := by rw [List.length_append]; omega
  generalize hmm : ((U ++ Xs).length : Nat) = m at *
  generalize hbb : ((U ++ Xs ++ Ys).length : Nat) = b at *
  repeat' (first
 | (refine I_WS ?_; first
 | refine W_sub (s := ((Xs.length : Nat) : Int)) rfl rfl rfl rfl hs1 ?_
 | refine W_sub (s := ((Ys.length : Nat) : Int)) rfl rfl rfl rfl hs2 ?_
 | (refine I_mov ?_; first
 | refine W_mov (v := .int _ _) rfl rfl rfl ?_)
 | refine WS_nil ?_)
 | (refine hlo _ _ hR ?_ ?_ ?_ ?_ ?_ _ ?_ <;> first | rfl | (intro ρ2 st2 U' X' Y' W' q1 q2 q3 q4 q5 q6 q7 q8 q9 q10))
 | refine WC_seq ?_
 | refine WC_opsS ?_
 | refine WC_block ?_)
  have hs3 : IntKind.i64.wrap ((m : Int) - (X'.length : Int)) = ((U'.length : Nat) : Int) := by
    have : m = U'.length + X'.length := by rw [q3]; simp
    rw [w64 (by omega)]; omega
  have hsw := s_swapRange p n c U' X' [] Y' W' st2 hnl q1 (by simpa using q2) (by simpa using q6) U'.length m X'.length rfl (by rw [q3]; simp) rfl
  rw [← upd_self q7, ← upd_self q8, ← upd_self q9, ← upd_self q10]
  repeat' (first
 | (refine I_WS ?_; first
 | refine W_sub (s := ((U'.length : Nat) : Int)) rfl rfl rfl rfl hs3 ?_
 | (refine I_mov ?_; first
 | refine W_mov (v := .int _ _) rfl rfl rfl ?_
 | refine W_mov (v := .func _ _) rfl rfl rfl ?_
 | refine W_mov (v := .rs _ _ _ _ _) rfl rfl rfl ?_)
 | (refine I_call ?_; first
 | (refine W_callRWX rfl rfl rfl hsw ?_ <;> intro r3 st3 hp3))
 | refine WS_nil ?_))
  obtain ⟨rfl, hF3, hR3⟩ := hp3
  skip
  exact ⟨.inl rfl, _, rfl, rfl, q5.trans hF3, by rw [← q4]; simpa using hR3⟩
end Go.Ord

/-
  The loops of slices' symMerge: three searches, two walks of one element to its place. (Printed by gen_s.py.)
-/
namespace Go.Ord
open Go.Ev
set_option linter.unusedVariables false
set_option linter.unusedSimpArgs false
theorem shr1 (n : Int) : n.fdiv (2 ^ (Nat.min (1 : Int).toNat IntKind.u64.bits)) = n / 2 := by
  rw [Int.fdiv_eq_ediv_of_nonneg _ (by decide)]; rfl
structure Cut (g : Nat → Bool) (i j s : Nat) : Prop where
  lo : i ≤ s
  hi : s ≤ j
  be : ∀ c, i ≤ c → c < s → g c = true
  af : ∀ c, s ≤ c → c < j → g c = false
def Mono (g : Nat → Bool) (i j : Nat) : Prop := ∀ c c', i ≤ c → c ≤ c' → c' < j → g c' = true → g c = true
theorem Cut.up {g : Nat → Bool} {i j h s : Nat} (hm : Mono g i j) (h1 : i ≤ h) (h2 : h < j) (hg : g h = true) (hc : Cut g (h + 1) j s) : Cut g i j s :=
  ⟨Nat.le_trans h1 (Nat.le_of_succ_le hc.lo), hc.hi, fun c a b => by
    by_cases hh : c ≤ h
    · exact hm c h a hh h2 hg
    · exact hc.be c (by omega) b, fun c a b => hc.af c a b⟩
theorem Cut.down {g : Nat → Bool} {i j h s : Nat} (hm : Mono g i j) (h1 : i ≤ h) (h2 : h < j) (hg : g h = false) (hc : Cut g i h s) : Cut g i j s :=
  ⟨hc.lo, Nat.le_trans hc.hi (Nat.le_of_lt h2), hc.be, fun c a b => by
    by_cases hh : c < h
    · exact hc.af c a hh
    · cases hgc : g c with
      | false => rfl
      | true => rw [hm h c h1 (by omega) b hgc] at hg; cases hg⟩
theorem Mono.sub {g : Nat → Bool} {i j i' j' : Nat} (hm : Mono g i j) (h1 : i ≤ i') (h2 : j' ≤ j) : Mono g i' j' := fun c c' a b d e => hm c c' (by omega) b (by omega) e

set_option maxHeartbeats 8000000 in
theorem l_b0 (p n c : Nat) (L : List Rt) (hnl : n ≤ 1000000) (hn : n = L.length) (hsh : Short L) (a m b md nn : Nat) (x : Rt) (hx : L[a]? = some x) (g : Nat → Bool) : ∀ (d i j : Nat), j - i ≤ d → i ≤ j → j ≤ n → Mono g i j → (∀ c y, i ≤ c → c < j → L[c]? = some y → g c = ltR y x) → ∀ (ρ : Nat → D) (st : Store), RowIs st p 2 (L.map Rt.e) →
    ρ 0 = .rs p 0 2 n c → ρ 1 = .int .i64 a → ρ 4 = .func 21 [] → ρ 10 = .int .i64 i → ρ 11 = .int .i64 j → ∀ (Q : X → (Nat → D) → Store → Prop),
    (∀ ρ' s, Cut g i j s → ρ' 0 = .rs p 0 2 n c → ρ' 1 = .int .i64 a → ρ' 4 = .func 21 [] → ρ' 10 = .int .i64 s → Q (.exit 0) ρ' st) → WC Γ (.loop c_slices_symMergeCmpFunc_Route_l0) ρ st Q := by
  intro d
  induction d with
  | zero =>
    intro i j hd hij hj hmo hgd ρ st hR h0 h1 h4 hi1 hj1 Q hQ
    obtain rfl : i = j := by omega
    rw [← upd_self h0, ← upd_self h1, ← upd_self h4, ← upd_self hi1, ← upd_self hj1]
    refine WC_loop ?_
    repeat' (first
 | (refine I_WS ?_; first
 | (refine I_mov ?_; first
 | refine W_mov (v := .int _ _) rfl rfl rfl ?_)
 | (refine I_bin ?_; first
 | refine W_lssF rfl rfl rfl rfl (by omega) ?_)
 | refine WS_nil ?_)
 | refine WC_seq ?_
 | refine WC_opsS ?_
 | refine WC_condF rfl ?_
 | refine WC_exit ?_)
    refine hQ _ i ⟨Nat.le_refl _, Nat.le_refl _, fun c a b => absurd b (by omega), fun c a b => absurd b (by omega)⟩ ?_ ?_ ?_ ?_ <;> rfl
  | succ d ih =>
    intro i j hd hij hj hmo hgd ρ st hR h0 h1 h4 hi1 hj1 Q hQ
    by_cases hlt0 : i < j
    · have hij' : (i : Int) < (j : Int) := by omega
      have hsum : IntKind.i64.wrap ((i : Int) + (j : Int)) = ((i + j : Nat) : Int) := by rw [w64 (by omega)]; omega
      have hcv1 : IntKind.u64.wrap ((i + j : Nat) : Int) = ((i + j : Nat) : Int) := by
        show ((i + j : Nat) : Int) % 18446744073709551616 = _
        omega
      have hshr : ((i + j : Nat) : Int).fdiv (2 ^ (Nat.min (1 : Int).toNat IntKind.u64.bits)) = (((i + j) / 2 : Nat) : Int) := by rw [shr1]; omega
      have hcv2 : IntKind.i64.wrap (((i + j) / 2 : Nat) : Int) = (((i + j) / 2 : Nat) : Int) := w64 (by omega)
      have hsuc : IntKind.i64.wrap ((((i + j) / 2 : Nat) : Int) + 1) = (((i + j) / 2 + 1 : Nat) : Int) := by rw [w64 (by omega)]; omega
      have hhn : (i + j) / 2 < n := by omega
      obtain ⟨y, hy⟩ : ∃ y, L[(i + j) / 2]? = some y := ⟨_, List.getElem?_eq_getElem (by omega)⟩
      have hon : a < n := by rw [hn]; exact (List.getElem?_eq_some_iff.mp hx).1
      have hyy := rt_at hy
      have hxx := rt_at hx
      have hyl := hsh y (List.mem_of_getElem? hy)
      have hxl := hsh x (List.mem_of_getElem? hx)
      have hC := fun t t' => s_CompareR y.hs y.ar x.hs x.ar hyl hxl t t' 3 3 (.inl rfl) (.inl rfl)
      have hgx := hgd ((i + j) / 2) y (by omega) (by omega) hy
      rw [← upd_self h0, ← upd_self h1, ← upd_self h4, ← upd_self hi1, ← upd_self hj1]
      refine WC_loop ?_
      by_cases hc : ltR y x = true
      · have hlt := ltR_iff'.1 hc
        rw [hc] at hgx
        have hgt : g ((i + j) / 2) = true := hgx
        clear hgx
        repeat' (first
 | (refine I_WS ?_; first
 | refine W_lssT rfl rfl rfl rfl hij' ?_
 | refine W_add (s := ((i + j : Nat) : Int)) rfl rfl rfl rfl hsum ?_
 | refine W_add (s := (((i + j) / 2 + 1 : Nat) : Int)) rfl rfl rfl rfl hsuc ?_
 | refine W_conv (s := ((i + j : Nat) : Int)) rfl rfl rfl hcv1 ?_
 | refine W_shr (s := (((i + j) / 2 : Nat) : Int)) rfl rfl rfl rfl (by decide) hshr ?_
 | refine W_conv (s := (((i + j) / 2 : Nat) : Int)) rfl rfl rfl hcv2 ?_
 | refine W_iaddrR (j := (i + j) / 2) rfl rfl rfl rfl hhn ?_
 | refine W_iaddrR (j := a) rfl rfl rfl rfl hon ?_
 | refine W_lssT rfl rfl rfl rfl hlt ?_
 | (refine I_mov ?_; first
 | refine W_mov (v := .int _ _) rfl rfl rfl ?_
 | refine W_mov (v := .func _ _) rfl rfl rfl ?_
 | refine W_mov (v := .rs _ _ _ _ _) rfl rfl rfl ?_)
 | (refine I_load ?_; first
 | refine W_loadRow (j := (i + j) / 2) rfl rfl hR.at (Nat.zero_add _) rt_cells hyy rfl ?_
 | refine W_loadRow (j := a) rfl rfl hR.at (Nat.zero_add _) rt_cells hxx rfl ?_)
 | (refine I_call ?_; first
 | refine W_call rfl rfl rfl (hC _ _) rfl rfl ?_)
 | refine WS_nil ?_)
 | refine okF_intro (okFlags_onlyR rfl) ?_
 | refine WC_seq ?_
 | refine WC_opsS ?_
 | refine WC_drawS ?_
 | refine WC_skip ?_
 | refine WC_condT rfl ?_
 | refine WC_block ?_)
        refine ih ((i + j) / 2 + 1) j (by omega) (by omega) hj (hmo.sub (by omega) (Nat.le_refl _)) (fun c y a b => hgd c y (by omega) (by omega)) _ st hR ?_ ?_ ?_ ?_ ?_ Q (fun ρ' s hs => hQ ρ' s (Cut.up hmo (by omega) (by omega) hgt hs)) <;> rfl
      · have hge : ¬ _ := fun h => hc (ltR_iff'.2 h)
        have hge := Int.not_lt.1 hge
        rw [Bool.not_eq_true] at hc
        rw [hc] at hgx
        have hgt : g ((i + j) / 2) = false := hgx
        clear hgx
        repeat' (first
 | (refine I_WS ?_; first
 | refine W_lssT rfl rfl rfl rfl hij' ?_
 | refine W_add (s := ((i + j : Nat) : Int)) rfl rfl rfl rfl hsum ?_
 | refine W_conv (s := ((i + j : Nat) : Int)) rfl rfl rfl hcv1 ?_
 | refine W_shr (s := (((i + j) / 2 : Nat) : Int)) rfl rfl rfl rfl (by decide) hshr ?_
 | refine W_conv (s := (((i + j) / 2 : Nat) : Int)) rfl rfl rfl hcv2 ?_
 | refine W_iaddrR (j := (i + j) / 2) rfl rfl rfl rfl hhn ?_
 | refine W_iaddrR (j := a) rfl rfl rfl rfl hon ?_
 | refine W_lssF rfl rfl rfl rfl hge ?_
 | (refine I_mov ?_; first
 | refine W_mov (v := .int _ _) rfl rfl rfl ?_
 | refine W_mov (v := .func _ _) rfl rfl rfl ?_
 | refine W_mov (v := .rs _ _ _ _ _) rfl rfl rfl ?_)
 | (refine I_load ?_; first
 | refine W_loadRow (j := (i + j) / 2) rfl rfl hR.at (Nat.zero_add _) rt_cells hyy rfl ?_
 | refine W_loadRow (j := a) rfl rfl hR.at (Nat.zero_add _) rt_cells hxx rfl ?_)
 | (refine I_call ?_; first
 | refine W_call rfl rfl rfl (hC _ _) rfl rfl ?_)
 | refine WS_nil ?_)
 | refine okF_intro (okFlags_onlyR rfl) ?_
 | refine WC_seq ?_
 | refine WC_opsS ?_
 | refine WC_drawS ?_
 | refine WC_skip ?_
 | refine WC_condT rfl ?_
 | refine WC_condF rfl ?_
 | refine WC_block ?_)
        refine ih i ((i + j) / 2) (by omega) (by omega) (by omega) (hmo.sub (Nat.le_refl _) (by omega)) (fun c y a b => hgd c y (by omega) (by omega)) _ st hR ?_ ?_ ?_ ?_ ?_ Q (fun ρ' s hs => hQ ρ' s (Cut.down hmo (by omega) (by omega) hgt hs)) <;> rfl
    · obtain rfl : i = j := by omega
      rw [← upd_self h0, ← upd_self h1, ← upd_self h4, ← upd_self hi1, ← upd_self hj1]
      refine WC_loop ?_
      repeat' (first
 | (refine I_WS ?_; first
 | (refine I_mov ?_; first
 | refine W_mov (v := .int _ _) rfl rfl rfl ?_)
 | (refine I_bin ?_; first
 | refine W_lssF rfl rfl rfl rfl (by omega) ?_)
 | refine WS_nil ?_)
 | refine WC_seq ?_
 | refine WC_opsS ?_
 | refine WC_condF rfl ?_
 | refine WC_exit ?_)
      refine hQ _ i ⟨Nat.le_refl _, Nat.le_refl _, fun c a b => absurd b (by omega), fun c a b => absurd b (by omega)⟩ ?_ ?_ ?_ ?_ <;> rfl

set_option maxHeartbeats 8000000 in
theorem l_b2 (p n c : Nat) (L : List Rt) (hnl : n ≤ 1000000) (hn : n = L.length) (hsh : Short L) (a m b md nn : Nat) (x : Rt) (hx : L[m]? = some x) (g : Nat → Bool) : ∀ (d i j : Nat), j - i ≤ d → i ≤ j → j ≤ n → Mono g i j → (∀ c y, i ≤ c → c < j → L[c]? = some y → g c = (!ltR x y)) → ∀ (ρ : Nat → D) (st : Store), RowIs st p 2 (L.map Rt.e) →
    ρ 0 = .rs p 0 2 n c → ρ 2 = .int .i64 m → ρ 4 = .func 21 [] → ρ 14 = .int .i64 i → ρ 15 = .int .i64 j → ∀ (Q : X → (Nat → D) → Store → Prop),
    (∀ ρ' s, Cut g i j s → ρ' 0 = .rs p 0 2 n c → ρ' 2 = .int .i64 m → ρ' 4 = .func 21 [] → ρ' 14 = .int .i64 s → Q (.exit 4) ρ' st) → WC Γ (.loop c_slices_symMergeCmpFunc_Route_l2) ρ st Q := by
  intro d
  induction d with
  | zero =>
    intro i j hd hij hj hmo hgd ρ st hR h0 h2 h4 hi1 hj1 Q hQ
    obtain rfl : i = j := by omega
    rw [← upd_self h0, ← upd_self h2, ← upd_self h4, ← upd_self hi1, ← upd_self hj1]
    refine WC_loop ?_
    repeat' (first
 | (refine I_WS ?_; first
 | (refine I_mov ?_; first
 | refine W_mov (v := .int _ _) rfl rfl rfl ?_)
 | (refine I_bin ?_; first
 | refine W_lssF rfl rfl rfl rfl (by omega) ?_)
 | refine WS_nil ?_)
 | refine WC_seq ?_
 | refine WC_opsS ?_
 | refine WC_condF rfl ?_
 | refine WC_exit ?_)
    refine hQ _ i ⟨Nat.le_refl _, Nat.le_refl _, fun c a b => absurd b (by omega), fun c a b => absurd b (by omega)⟩ ?_ ?_ ?_ ?_ <;> rfl
  | succ d ih =>
    intro i j hd hij hj hmo hgd ρ st hR h0 h2 h4 hi1 hj1 Q hQ
    by_cases hlt0 : i < j
    · have hij' : (i : Int) < (j : Int) := by omega
      have hsum : IntKind.i64.wrap ((i : Int) + (j : Int)) = ((i + j : Nat) : Int) := by rw [w64 (by omega)]; omega
      have hcv1 : IntKind.u64.wrap ((i + j : Nat) : Int) = ((i + j : Nat) : Int) := by
        show ((i + j : Nat) : Int) % 18446744073709551616 = _
        omega
      have hshr : ((i + j : Nat) : Int).fdiv (2 ^ (Nat.min (1 : Int).toNat IntKind.u64.bits)) = (((i + j) / 2 : Nat) : Int) := by rw [shr1]; omega
      have hcv2 : IntKind.i64.wrap (((i + j) / 2 : Nat) : Int) = (((i + j) / 2 : Nat) : Int) := w64 (by omega)
      have hsuc : IntKind.i64.wrap ((((i + j) / 2 : Nat) : Int) + 1) = (((i + j) / 2 + 1 : Nat) : Int) := by rw [w64 (by omega)]; omega
      have hhn : (i + j) / 2 < n := by omega
      obtain ⟨y, hy⟩ : ∃ y, L[(i + j) / 2]? = some y := ⟨_, List.getElem?_eq_getElem (by omega)⟩
      have hon : m < n := by rw [hn]; exact (List.getElem?_eq_some_iff.mp hx).1
      have hyy := rt_at hy
      have hxx := rt_at hx
      have hyl := hsh y (List.mem_of_getElem? hy)
      have hxl := hsh x (List.mem_of_getElem? hx)
      have hC := fun t t' => s_CompareR x.hs x.ar y.hs y.ar hxl hyl t t' 3 3 (.inl rfl) (.inl rfl)
      have hgx := hgd ((i + j) / 2) y (by omega) (by omega) hy
      rw [← upd_self h0, ← upd_self h2, ← upd_self h4, ← upd_self hi1, ← upd_self hj1]
      refine WC_loop ?_
      by_cases hc : ltR x y = true
      · have hlt := ltR_iff'.1 hc
        rw [hc] at hgx
        have hgt : g ((i + j) / 2) = false := hgx
        clear hgx
        repeat' (first
 | (refine I_WS ?_; first
 | refine W_lssT rfl rfl rfl rfl hij' ?_
 | refine W_add (s := ((i + j : Nat) : Int)) rfl rfl rfl rfl hsum ?_
 | refine W_conv (s := ((i + j : Nat) : Int)) rfl rfl rfl hcv1 ?_
 | refine W_shr (s := (((i + j) / 2 : Nat) : Int)) rfl rfl rfl rfl (by decide) hshr ?_
 | refine W_conv (s := (((i + j) / 2 : Nat) : Int)) rfl rfl rfl hcv2 ?_
 | refine W_iaddrR (j := (i + j) / 2) rfl rfl rfl rfl hhn ?_
 | refine W_iaddrR (j := m) rfl rfl rfl rfl hon ?_
 | refine W_lssT rfl rfl rfl rfl hlt ?_
 | (refine I_mov ?_; first
 | refine W_mov (v := .int _ _) rfl rfl rfl ?_
 | refine W_mov (v := .func _ _) rfl rfl rfl ?_
 | refine W_mov (v := .rs _ _ _ _ _) rfl rfl rfl ?_)
 | (refine I_load ?_; first
 | refine W_loadRow (j := (i + j) / 2) rfl rfl hR.at (Nat.zero_add _) rt_cells hyy rfl ?_
 | refine W_loadRow (j := m) rfl rfl hR.at (Nat.zero_add _) rt_cells hxx rfl ?_)
 | (refine I_call ?_; first
 | refine W_call rfl rfl rfl (hC _ _) rfl rfl ?_)
 | refine W_not rfl rfl rfl ?_
 | refine WS_nil ?_)
 | refine okF_intro (okFlags_onlyR rfl) ?_
 | refine WC_seq ?_
 | refine WC_opsS ?_
 | refine WC_drawS ?_
 | refine WC_skip ?_
 | refine WC_condT rfl ?_
 | refine WC_condF rfl ?_
 | refine WC_block ?_)
        refine ih i ((i + j) / 2) (by omega) (by omega) (by omega) (hmo.sub (Nat.le_refl _) (by omega)) (fun c y a b => hgd c y (by omega) (by omega)) _ st hR ?_ ?_ ?_ ?_ ?_ Q (fun ρ' s hs => hQ ρ' s (Cut.down hmo (by omega) (by omega) hgt hs)) <;> rfl
      · have hge : ¬ _ := fun h => hc (ltR_iff'.2 h)
        have hge := Int.not_lt.1 hge
        rw [Bool.not_eq_true] at hc
        rw [hc] at hgx
        have hgt : g ((i + j) / 2) = true := hgx
        clear hgx
        repeat' (first
 | (refine I_WS ?_; first
 | refine W_lssT rfl rfl rfl rfl hij' ?_
 | refine W_add (s := ((i + j : Nat) : Int)) rfl rfl rfl rfl hsum ?_
 | refine W_add (s := (((i + j) / 2 + 1 : Nat) : Int)) rfl rfl rfl rfl hsuc ?_
 | refine W_conv (s := ((i + j : Nat) : Int)) rfl rfl rfl hcv1 ?_
 | refine W_shr (s := (((i + j) / 2 : Nat) : Int)) rfl rfl rfl rfl (by decide) hshr ?_
 | refine W_conv (s := (((i + j) / 2 : Nat) : Int)) rfl rfl rfl hcv2 ?_
 | refine W_iaddrR (j := (i + j) / 2) rfl rfl rfl rfl hhn ?_
 | refine W_iaddrR (j := m) rfl rfl rfl rfl hon ?_
 | refine W_lssF rfl rfl rfl rfl hge ?_
 | (refine I_mov ?_; first
 | refine W_mov (v := .int _ _) rfl rfl rfl ?_
 | refine W_mov (v := .func _ _) rfl rfl rfl ?_
 | refine W_mov (v := .rs _ _ _ _ _) rfl rfl rfl ?_)
 | (refine I_load ?_; first
 | refine W_loadRow (j := (i + j) / 2) rfl rfl hR.at (Nat.zero_add _) rt_cells hyy rfl ?_
 | refine W_loadRow (j := m) rfl rfl hR.at (Nat.zero_add _) rt_cells hxx rfl ?_)
 | (refine I_call ?_; first
 | refine W_call rfl rfl rfl (hC _ _) rfl rfl ?_)
 | refine W_not rfl rfl rfl ?_
 | refine WS_nil ?_)
 | refine okF_intro (okFlags_onlyR rfl) ?_
 | refine WC_seq ?_
 | refine WC_opsS ?_
 | refine WC_drawS ?_
 | refine WC_skip ?_
 | refine WC_condT rfl ?_
 | refine WC_block ?_)
        refine ih ((i + j) / 2 + 1) j (by omega) (by omega) hj (hmo.sub (by omega) (Nat.le_refl _)) (fun c y a b => hgd c y (by omega) (by omega)) _ st hR ?_ ?_ ?_ ?_ ?_ Q (fun ρ' s hs => hQ ρ' s (Cut.up hmo (by omega) (by omega) hgt hs)) <;> rfl
    · obtain rfl : i = j := by omega
      rw [← upd_self h0, ← upd_self h2, ← upd_self h4, ← upd_self hi1, ← upd_self hj1]
      refine WC_loop ?_
      repeat' (first
 | (refine I_WS ?_; first
 | (refine I_mov ?_; first
 | refine W_mov (v := .int _ _) rfl rfl rfl ?_)
 | (refine I_bin ?_; first
 | refine W_lssF rfl rfl rfl rfl (by omega) ?_)
 | refine WS_nil ?_)
 | refine WC_seq ?_
 | refine WC_opsS ?_
 | refine WC_condF rfl ?_
 | refine WC_exit ?_)
      refine hQ _ i ⟨Nat.le_refl _, Nat.le_refl _, fun c a b => absurd b (by omega), fun c a b => absurd b (by omega)⟩ ?_ ?_ ?_ ?_ <;> rfl

set_option maxHeartbeats 8000000 in
theorem l_b4 (p n c : Nat) (L : List Rt) (hnl : n ≤ 1000000) (hn : n = L.length) (hsh : Short L) (a m b md nn : Nat) (pp : Nat) (hpn : pp ≤ 2000000) (g : Nat → Bool) : ∀ (d i j : Nat), j - i ≤ d → i ≤ j → j ≤ n → Mono g i j → (∀ c y x, i ≤ c → c < j → L[c]? = some y → L[pp - c]? = some x → g c = (!ltR x y)) → (∀ c, i ≤ c → c < j → pp - c < n ∧ c ≤ pp) → ∀ (ρ : Nat → D) (st : Store), RowIs st p 2 (L.map Rt.e) →
    ρ 0 = .rs p 0 2 n c → ρ 1 = .int .i64 a → ρ 2 = .int .i64 m → ρ 3 = .int .i64 b → ρ 4 = .func 21 [] → ρ 18 = .int .i64 md → ρ 19 = .int .i64 nn → ρ 22 = .int .i64 pp → ρ 20 = .int .i64 i → ρ 21 = .int .i64 j → ∀ (Q : X → (Nat → D) → Store → Prop),
    (∀ ρ' s, Cut g i j s → ρ' 0 = .rs p 0 2 n c → ρ' 1 = .int .i64 a → ρ' 2 = .int .i64 m → ρ' 3 = .int .i64 b → ρ' 4 = .func 21 [] → ρ' 18 = .int .i64 md → ρ' 19 = .int .i64 nn → ρ' 22 = .int .i64 pp → ρ' 20 = .int .i64 s → Q (.exit 8) ρ' st) → WC Γ (.loop c_slices_symMergeCmpFunc_Route_l4) ρ st Q := by
  intro d
  induction d with
  | zero =>
    intro i j hd hij hj hmo hgd hdom ρ st hR h0 h1 h2 h3 h4 h18 h19 h22 hi1 hj1 Q hQ
    obtain rfl : i = j := by omega
    rw [← upd_self h0, ← upd_self h1, ← upd_self h2, ← upd_self h3, ← upd_self h4, ← upd_self h18, ← upd_self h19, ← upd_self h22, ← upd_self hi1, ← upd_self hj1]
    refine WC_loop ?_
    repeat' (first
 | (refine I_WS ?_; first
 | (refine I_mov ?_; first
 | refine W_mov (v := .int _ _) rfl rfl rfl ?_)
 | (refine I_bin ?_; first
 | refine W_lssF rfl rfl rfl rfl (by omega) ?_)
 | refine WS_nil ?_)
 | refine WC_seq ?_
 | refine WC_opsS ?_
 | refine WC_condF rfl ?_
 | refine WC_exit ?_)
    refine hQ _ i ⟨Nat.le_refl _, Nat.le_refl _, fun c a b => absurd b (by omega), fun c a b => absurd b (by omega)⟩ ?_ ?_ ?_ ?_ ?_ ?_ ?_ ?_ ?_ <;> rfl
  | succ d ih =>
    intro i j hd hij hj hmo hgd hdom ρ st hR h0 h1 h2 h3 h4 h18 h19 h22 hi1 hj1 Q hQ
    by_cases hlt0 : i < j
    · have hij' : (i : Int) < (j : Int) := by omega
      have hsum : IntKind.i64.wrap ((i : Int) + (j : Int)) = ((i + j : Nat) : Int) := by rw [w64 (by omega)]; omega
      have hcv1 : IntKind.u64.wrap ((i + j : Nat) : Int) = ((i + j : Nat) : Int) := by
        show ((i + j : Nat) : Int) % 18446744073709551616 = _
        omega
      have hshr : ((i + j : Nat) : Int).fdiv (2 ^ (Nat.min (1 : Int).toNat IntKind.u64.bits)) = (((i + j) / 2 : Nat) : Int) := by rw [shr1]; omega
      have hcv2 : IntKind.i64.wrap (((i + j) / 2 : Nat) : Int) = (((i + j) / 2 : Nat) : Int) := w64 (by omega)
      have hsuc : IntKind.i64.wrap ((((i + j) / 2 : Nat) : Int) + 1) = (((i + j) / 2 + 1 : Nat) : Int) := by rw [w64 (by omega)]; omega
      have hhn : (i + j) / 2 < n := by omega
      obtain ⟨y, hy⟩ : ∃ y, L[(i + j) / 2]? = some y := ⟨_, List.getElem?_eq_getElem (by omega)⟩
      obtain ⟨hon, hcp⟩ := hdom ((i + j) / 2) (by omega) (by omega)
      obtain ⟨x, hx⟩ : ∃ x, L[pp - (i + j) / 2]? = some x := ⟨_, List.getElem?_eq_getElem (by omega)⟩
      have hsub : IntKind.i64.wrap ((pp : Int) - (((i + j) / 2 : Nat) : Int)) = ((pp - (i + j) / 2 : Nat) : Int) := by rw [w64 (by omega)]; omega
      have hyy := rt_at hy
      have hxx := rt_at hx
      have hyl := hsh y (List.mem_of_getElem? hy)
      have hxl := hsh x (List.mem_of_getElem? hx)
      have hC := fun t t' => s_CompareR x.hs x.ar y.hs y.ar hxl hyl t t' 3 3 (.inl rfl) (.inl rfl)
      have hgx := hgd ((i + j) / 2) y x (by omega) (by omega) hy hx
      rw [← upd_self h0, ← upd_self h1, ← upd_self h2, ← upd_self h3, ← upd_self h4, ← upd_self h18, ← upd_self h19, ← upd_self h22, ← upd_self hi1, ← upd_self hj1]
      refine WC_loop ?_
      by_cases hc : ltR x y = true
      · have hlt := ltR_iff'.1 hc
        rw [hc] at hgx
        have hgt : g ((i + j) / 2) = false := hgx
        clear hgx
        repeat' (first
 | (refine I_WS ?_; first
 | refine W_lssT rfl rfl rfl rfl hij' ?_
 | refine W_add (s := ((i + j : Nat) : Int)) rfl rfl rfl rfl hsum ?_
 | refine W_sub (s := ((pp - (i + j) / 2 : Nat) : Int)) rfl rfl rfl rfl hsub ?_
 | refine W_conv (s := ((i + j : Nat) : Int)) rfl rfl rfl hcv1 ?_
 | refine W_shr (s := (((i + j) / 2 : Nat) : Int)) rfl rfl rfl rfl (by decide) hshr ?_
 | refine W_conv (s := (((i + j) / 2 : Nat) : Int)) rfl rfl rfl hcv2 ?_
 | refine W_iaddrR (j := (i + j) / 2) rfl rfl rfl rfl hhn ?_
 | refine W_iaddrR (j := (pp - (i + j) / 2)) rfl rfl rfl rfl hon ?_
 | refine W_lssT rfl rfl rfl rfl hlt ?_
 | (refine I_mov ?_; first
 | refine W_mov (v := .int _ _) rfl rfl rfl ?_
 | refine W_mov (v := .func _ _) rfl rfl rfl ?_
 | refine W_mov (v := .rs _ _ _ _ _) rfl rfl rfl ?_)
 | (refine I_load ?_; first
 | refine W_loadRow (j := (i + j) / 2) rfl rfl hR.at (Nat.zero_add _) rt_cells hyy rfl ?_
 | refine W_loadRow (j := (pp - (i + j) / 2)) rfl rfl hR.at (Nat.zero_add _) rt_cells hxx rfl ?_)
 | (refine I_call ?_; first
 | refine W_call rfl rfl rfl (hC _ _) rfl rfl ?_)
 | refine W_not rfl rfl rfl ?_
 | refine WS_nil ?_)
 | refine okF_intro (okFlags_onlyR rfl) ?_
 | refine WC_seq ?_
 | refine WC_opsS ?_
 | refine WC_drawS ?_
 | refine WC_skip ?_
 | refine WC_condT rfl ?_
 | refine WC_condF rfl ?_
 | refine WC_block ?_)
        refine ih i ((i + j) / 2) (by omega) (by omega) (by omega) (hmo.sub (Nat.le_refl _) (by omega)) (fun c y x a b => hgd c y x (by omega) (by omega)) (fun c a b => hdom c (by omega) (by omega)) _ st hR ?_ ?_ ?_ ?_ ?_ ?_ ?_ ?_ ?_ ?_ Q (fun ρ' s hs => hQ ρ' s (Cut.down hmo (by omega) (by omega) hgt hs)) <;> rfl
      · have hge : ¬ _ := fun h => hc (ltR_iff'.2 h)
        have hge := Int.not_lt.1 hge
        rw [Bool.not_eq_true] at hc
        rw [hc] at hgx
        have hgt : g ((i + j) / 2) = true := hgx
        clear hgx
        repeat' (first
 | (refine I_WS ?_; first
 | refine W_lssT rfl rfl rfl rfl hij' ?_
 | refine W_add (s := ((i + j : Nat) : Int)) rfl rfl rfl rfl hsum ?_
 | refine W_add (s := (((i + j) / 2 + 1 : Nat) : Int)) rfl rfl rfl rfl hsuc ?_
 | refine W_sub (s := ((pp - (i + j) / 2 : Nat) : Int)) rfl rfl rfl rfl hsub ?_
 | refine W_conv (s := ((i + j : Nat) : Int)) rfl rfl rfl hcv1 ?_
 | refine W_shr (s := (((i + j) / 2 : Nat) : Int)) rfl rfl rfl rfl (by decide) hshr ?_
 | refine W_conv (s := (((i + j) / 2 : Nat) : Int)) rfl rfl rfl hcv2 ?_
 | refine W_iaddrR (j := (i + j) / 2) rfl rfl rfl rfl hhn ?_
 | refine W_iaddrR (j := (pp - (i + j) / 2)) rfl rfl rfl rfl hon ?_
 | refine W_lssF rfl rfl rfl rfl hge ?_
 | (refine I_mov ?_; first
 | refine W_mov (v := .int _ _) rfl rfl rfl ?_
 | refine W_mov (v := .func _ _) rfl rfl rfl ?_
 | refine W_mov (v := .rs _ _ _ _ _) rfl rfl rfl ?_)
 | (refine I_load ?_; first
 | refine W_loadRow (j := (i + j) / 2) rfl rfl hR.at (Nat.zero_add _) rt_cells hyy rfl ?_
 | refine W_loadRow (j := (pp - (i + j) / 2)) rfl rfl hR.at (Nat.zero_add _) rt_cells hxx rfl ?_)
 | (refine I_call ?_; first
 | refine W_call rfl rfl rfl (hC _ _) rfl rfl ?_)
 | refine W_not rfl rfl rfl ?_
 | refine WS_nil ?_)
 | refine okF_intro (okFlags_onlyR rfl) ?_
 | refine WC_seq ?_
 | refine WC_opsS ?_
 | refine WC_drawS ?_
 | refine WC_skip ?_
 | refine WC_condT rfl ?_
 | refine WC_block ?_)
        refine ih ((i + j) / 2 + 1) j (by omega) (by omega) hj (hmo.sub (by omega) (Nat.le_refl _)) (fun c y x a b => hgd c y x (by omega) (by omega)) (fun c a b => hdom c (by omega) (by omega)) _ st hR ?_ ?_ ?_ ?_ ?_ ?_ ?_ ?_ ?_ ?_ Q (fun ρ' s hs => hQ ρ' s (Cut.up hmo (by omega) (by omega) hgt hs)) <;> rfl
    · obtain rfl : i = j := by omega
      rw [← upd_self h0, ← upd_self h1, ← upd_self h2, ← upd_self h3, ← upd_self h4, ← upd_self h18, ← upd_self h19, ← upd_self h22, ← upd_self hi1, ← upd_self hj1]
      refine WC_loop ?_
      repeat' (first
 | (refine I_WS ?_; first
 | (refine I_mov ?_; first
 | refine W_mov (v := .int _ _) rfl rfl rfl ?_)
 | (refine I_bin ?_; first
 | refine W_lssF rfl rfl rfl rfl (by omega) ?_)
 | refine WS_nil ?_)
 | refine WC_seq ?_
 | refine WC_opsS ?_
 | refine WC_condF rfl ?_
 | refine WC_exit ?_)
      refine hQ _ i ⟨Nat.le_refl _, Nat.le_refl _, fun c a b => absurd b (by omega), fun c a b => absurd b (by omega)⟩ ?_ ?_ ?_ ?_ ?_ ?_ ?_ ?_ ?_ <;> rfl

end Go.Ord

/-
  slices' symMerge: one element's way to its place.
-/
namespace Go.Ord
open Go.Ev
set_option linter.unusedVariables false
set_option linter.unusedSimpArgs false
set_option maxHeartbeats 8000000 in
theorem l_m1 (p n c i : Nat) (hnl : n ≤ 1000000) (x : Rt) (W : List Rt) : ∀ (Y U : List Rt), n = (U ++ x :: (Y ++ W)).length → i = (U ++ Y).length + 1 → ∀ (ρ : Nat → D) (st : Store), RowIs st p 2 ((U ++ x :: (Y ++ W)).map Rt.e) →
    ρ 0 = .rs p 0 2 n c → ρ 10 = .int .i64 i → ρ 13 = .int .i64 U.length → ∀ (Q : X → (Nat → D) → Store → Prop),
    (∀ ρ' st', FrR st st' p → RowIs st' p 2 ((U ++ Y ++ x :: W).map Rt.e) → Q (.exit 2) ρ' st') → WC Γ (.loop c_slices_symMergeCmpFunc_Route_l1) ρ st Q := by
  intro Y
  induction Y with
  | nil =>
    intro U hn hi ρ st hR h0 h10 h13 Q hQ
    have hil : U.length + 1 ≤ n := by rw [hn]; simp
    rw [List.append_nil] at hi
    have hsub : IntKind.i64.wrap ((i : Int) - 1) = ((U.length : Nat) : Int) := by rw [w64 (by omega)]; omega
    rw [← upd_self h0, ← upd_self h10, ← upd_self h13]
    refine WC_loop ?_
    repeat' (first
 | (refine I_WS ?_; first
 | refine W_sub (s := ((U.length : Nat) : Int)) rfl rfl rfl rfl hsub ?_
 | (refine I_mov ?_; first
 | refine W_mov (v := .int _ _) rfl rfl rfl ?_)
 | (refine I_bin ?_; first
 | refine W_lssF rfl rfl rfl rfl (by omega) ?_)
 | refine WS_nil ?_)
 | refine WC_seq ?_
 | refine WC_opsS ?_
 | refine WC_condF rfl ?_
 | refine WC_exit ?_)
    exact hQ _ _ (FrR.refl _ _) (by simpa using hR)
  | cons y Y ih =>
    intro U hn hi ρ st hR h0 h10 h13 Q hQ
    have e1 : U ++ x :: (y :: Y ++ W) = U ++ x :: ([] ++ y :: (Y ++ W)) := rfl
    have e2 : U ++ y :: ([] ++ x :: (Y ++ W)) = (U ++ [y]) ++ x :: (Y ++ W) := by simp
    have hnx := ih (U ++ [y]) (by rw [hn]; simp <;> omega) (by rw [hi]; simp <;> omega)
    have hsw := @swap2 U [] (Y ++ W) x y
    have hUn : U.length + 1 < n := by rw [hn]; simp <;> omega
    have hU0 : U.length < n := by omega
    have hil : i = U.length + Y.length + 2 := by rw [hi]; simp <;> omega
    have hin : i ≤ n := by rw [hn, hi]; simp <;> omega
    have hsub : IntKind.i64.wrap ((i : Int) - 1) = ((i - 1 : Nat) : Int) := by rw [w64 (by omega)]; omega
    have hlt : ((U.length : Nat) : Int) < ((i - 1 : Nat) : Int) := by omega
    have hadd : IntKind.i64.wrap ((U.length : Int) + 1) = ((U.length + 1 : Nat) : Int) := by rw [w64 (by omega)]; omega
    rw [e1] at hR hn
    have hx : (U ++ x :: ([] ++ y :: (Y ++ W)))[U.length]? = some x := by simp
    have hy : (U ++ x :: ([] ++ y :: (Y ++ W)))[U.length + 1]? = some y := by
      rw [List.getElem?_append_right (by omega)]; simp
    have hx' := rt_at hx
    have hy' := rt_at hy
    clear ih
    generalize hL : U ++ x :: ([] ++ y :: (Y ++ W)) = L at *
    have hi1 : U.length < (L.map Rt.e).length := by rw [List.length_map, ← hn]; exact hU0
    have hi2 : U.length + 1 < ((L.map Rt.e).set U.length (.agg [.slice .no 3 (y.hs.map Hp.e), .int .i64 y.ar])).length := by rw [List.length_set, List.length_map, ← hn]; exact hUn
    have hcel : ∀ d ∈ ((L.map Rt.e).set U.length (.agg [.slice .no 3 (y.hs.map Hp.e), .int .i64 y.ar])), d.cells.length = 2 := by
      intro d hd
      rcases List.mem_or_eq_of_mem_set hd with hd | rfl
      · exact rt_cells d hd
      · rfl
    rw [← upd_self h0, ← upd_self h10, ← upd_self h13]
    refine WC_loop ?_
    repeat' (first
 | (refine I_WS ?_; first
 | refine W_lssT rfl rfl rfl rfl hlt ?_
 | refine W_sub (s := ((i - 1 : Nat) : Int)) rfl rfl rfl rfl hsub ?_
 | refine W_add (s := ((U.length + 1 : Nat) : Int)) rfl rfl rfl rfl hadd ?_
 | refine W_iaddrR (j := U.length) rfl rfl rfl rfl hU0 ?_
 | refine W_iaddrR (j := U.length + 1) rfl rfl rfl rfl hUn ?_
 | (refine I_mov ?_; first
 | refine W_mov (v := .int _ _) rfl rfl rfl ?_
 | refine W_mov (v := .rs _ _ _ _ _) rfl rfl rfl ?_)
 | (refine I_load ?_; first
 | refine W_loadRow (j := U.length) rfl rfl hR.at (Nat.zero_add _) rt_cells hx' rfl ?_
 | refine W_loadRow (j := U.length + 1) rfl rfl hR.at (Nat.zero_add _) rt_cells hy' rfl ?_)
 | (refine I_store ?_; first
 | (refine W_storeRow (j := U.length) rfl rfl rfl hR (Nat.zero_add _) rt_cells hi1 rfl rfl rfl ?_ <;> intro st1 f1 f2 f3 f4 f5 hR1 hb2))
 | refine WS_nil ?_)
 | refine WC_seq ?_
 | refine WC_opsS ?_
 | refine WC_drawS ?_
 | refine WC_skip ?_
 | refine WC_condT rfl ?_
 | refine WC_block ?_)
    refine W_storeRow (j := U.length + 1) rfl rfl rfl hR1 (Nat.zero_add _) hcel hi2 rfl rfl rfl ?_
    intro st2 g1 g2 g3 g4 g5 hR2 hb3
    have hR3 : RowIs st2 p 2 (((U ++ [y]) ++ x :: (Y ++ W)).map Rt.e) := by rw [← e2, ← hsw]; exact hR2
    have hz : D.int .i64 ((U.length + 1 : Nat) : Int) = D.int .i64 ((U ++ [y]).length : Nat) := by simp
    repeat' (first
 | (refine I_WS ?_; first
 | refine W_add (s := ((U.length + 1 : Nat) : Int)) rfl rfl rfl rfl hadd ?_
 | (refine I_mov ?_; first
 | refine W_mov (v := .int _ _) rfl rfl rfl ?_)
 | refine WS_nil ?_)
 | refine okF_intro (by simp [okFlags, List.range, List.range.loop, Fl.clash]) ?_
 | refine WC_opsS ?_)
    refine hnx _ _ hR3 ?_ ?_ ?_ Q (fun ρ' st' hF hR' => hQ ρ' st' (FrR.trans ⟨g1.trans f1, g2.trans f2, g3.trans f3, g4.trans f4, g5.trans f5, fun q hq => (hb3 q hq).trans (hb2 q hq)⟩ hF) (by simpa using hR')) <;> first | rfl | exact hz
set_option maxHeartbeats 8000000 in
theorem l_m3 (p n c : Nat) (hnl : n ≤ 1000000) (x : Rt) (U : List Rt) : ∀ (m : Nat) (Y W : List Rt), Y.length = m → n = (U ++ Y ++ x :: W).length → ∀ (ρ : Nat → D) (st : Store), RowIs st p 2 ((U ++ Y ++ x :: W).map Rt.e) →
    ρ 0 = .rs p 0 2 n c → ρ 14 = .int .i64 U.length → ρ 17 = .int .i64 ((U ++ Y).length : Nat) → ∀ (Q : X → (Nat → D) → Store → Prop),
    (∀ ρ' st', FrR st st' p → RowIs st' p 2 ((U ++ x :: (Y ++ W)).map Rt.e) → Q (.exit 6) ρ' st') → WC Γ (.loop c_slices_symMergeCmpFunc_Route_l3) ρ st Q := by
  intro m
  induction m with
  | zero =>
    intro Y W hY hn ρ st hR h0 h14 h17 Q hQ
    obtain rfl := List.length_eq_zero_iff.1 hY
    rw [List.append_nil] at h17
    rw [← upd_self h0, ← upd_self h14, ← upd_self h17]
    refine WC_loop ?_
    repeat' (first
 | (refine I_WS ?_; first
 | (refine I_mov ?_; first
 | refine W_mov (v := .int _ _) rfl rfl rfl ?_)
 | (refine I_bin ?_; first
 | refine W_gtrF rfl rfl rfl rfl (by omega) ?_)
 | refine WS_nil ?_)
 | refine WC_seq ?_
 | refine WC_opsS ?_
 | refine WC_condF rfl ?_
 | refine WC_exit ?_)
    exact hQ _ _ (FrR.refl _ _) (by simpa using hR)
  | succ m ih =>
    intro Y1 W hY hn ρ st hR h0 h14 h17 Q hQ
    obtain ⟨Y, y, rfl⟩ : ∃ S y, Y1 = S ++ [y] := by
      rcases List.eq_nil_or_concat Y1 with h | ⟨S, y, h⟩
      · subst h; simp at hY
      · exact ⟨S, y, by rw [h, List.concat_eq_append]⟩
    have e1 : U ++ (Y ++ [y]) ++ x :: W = (U ++ Y) ++ y :: x :: W := by simp
    have e2 : ((U ++ (Y ++ [y])).length : Nat) = (U ++ Y).length + 1 := by rw [← List.append_assoc, List.length_append]; rfl
    rw [e1] at hn hR
    rw [e2] at h17
    have hnx := ih Y (y :: W) (by simpa using hY) (by rw [hn]; simp)
    have hUA : U.length ≤ (U ++ Y).length := by simp
    have hx : ((U ++ Y) ++ y :: x :: W)[(U ++ Y).length + 1]? = some x := by
      rw [List.getElem?_append_right (by omega)]; simp
    have hy : ((U ++ Y) ++ y :: x :: W)[(U ++ Y).length]? = some y := by
      rw [List.getElem?_append_right (by omega)]; simp
    have hsw := @swap_eq (U ++ Y) W x y
    have hAn : (U ++ Y).length + 1 < n := by rw [hn, List.length_append (as := U ++ Y)]; simp
    clear ih
    have hgoal : U ++ x :: (Y ++ [y] ++ W) = U ++ x :: (Y ++ y :: W) := by simp
    rw [hgoal] at hQ
    generalize hA : U ++ Y = A at *
    generalize hL : A ++ y :: x :: W = L at *
    have hgt : (U.length : Int) < ((A.length + 1 : Nat) : Int) := by omega
    have hsub : IntKind.i64.wrap (((A.length + 1 : Nat) : Int) - 1) = ((A.length : Nat) : Int) := by rw [w64 (by omega)]; omega
    have hx' := rt_at hx
    have hy' := rt_at hy
    have hi1 : A.length + 1 < (L.map Rt.e).length := by rw [List.length_map]; omega
    have hA0 : A.length < n := by omega
    have hi2 : A.length < ((L.map Rt.e).set (A.length + 1) (.agg [.slice .no 3 (y.hs.map Hp.e), .int .i64 y.ar])).length := by rw [List.length_set, List.length_map]; omega
    have hcel : ∀ d ∈ ((L.map Rt.e).set (A.length + 1) (.agg [.slice .no 3 (y.hs.map Hp.e), .int .i64 y.ar])), d.cells.length = 2 := by
      intro d hd
      rcases List.mem_or_eq_of_mem_set hd with hd | rfl
      · exact rt_cells d hd
      · rfl
    rw [← upd_self h0, ← upd_self h14, ← upd_self h17]
    refine WC_loop ?_
    repeat' (first
 | (refine I_WS ?_; first
 | refine W_sub (s := ((A.length : Nat) : Int)) rfl rfl rfl rfl hsub ?_
 | refine W_gtrT rfl rfl rfl rfl hgt ?_
 | refine W_iaddrR (j := A.length + 1) rfl rfl rfl rfl hAn ?_
 | refine W_iaddrR (j := A.length) rfl rfl rfl rfl hA0 ?_
 | (refine I_mov ?_; first
 | refine W_mov (v := .int _ _) rfl rfl rfl ?_
 | refine W_mov (v := .rs _ _ _ _ _) rfl rfl rfl ?_)
 | (refine I_load ?_; first
 | refine W_loadRow (j := A.length + 1) rfl rfl hR.at (Nat.zero_add _) rt_cells hx' rfl ?_
 | refine W_loadRow (j := A.length) rfl rfl hR.at (Nat.zero_add _) rt_cells hy' rfl ?_)
 | (refine I_store ?_; first
 | (refine W_storeRow (j := A.length + 1) rfl rfl rfl hR (Nat.zero_add _) rt_cells hi1 rfl rfl rfl ?_ <;> intro st1 f1 f2 f3 f4 f5 hR1 hb2))
 | refine WS_nil ?_)
 | refine WC_seq ?_
 | refine WC_opsS ?_
 | refine WC_drawS ?_
 | refine WC_skip ?_
 | refine WC_condT rfl ?_
 | refine WC_block ?_)
    refine W_storeRow (j := A.length) rfl rfl rfl hR1 (Nat.zero_add _) hcel hi2 rfl rfl rfl ?_
    intro st2 g1 g2 g3 g4 g5 hR2 hb3
    have hR3 : RowIs st2 p 2 ((A ++ x :: (y :: W)).map Rt.e) := by rw [← hsw]; exact hR2
    repeat' (first
 | (refine I_WS ?_; first
 | refine W_sub (s := ((A.length : Nat) : Int)) rfl rfl rfl rfl hsub ?_
 | (refine I_mov ?_; first
 | refine W_mov (v := .int _ _) rfl rfl rfl ?_)
 | refine WS_nil ?_)
 | refine okF_intro (by simp [okFlags, List.range, List.range.loop, Fl.clash]) ?_
 | refine WC_opsS ?_)
    refine hnx _ _ hR3 ?_ ?_ ?_ Q (fun ρ' st' hF hR' => hQ ρ' st' (FrR.trans ⟨g1.trans f1, g2.trans f2, g3.trans f3, g4.trans f4, g5.trans f5, fun q hq => (hb3 q hq).trans (hb2 q hq)⟩ hF) hR') <;> rfl
end Go.Ord

/-
  slices' symMerge, where one side has one element.
-/
namespace Go.Ord
open Go.Ev
set_option linter.unusedVariables false
set_option linter.unusedSimpArgs false
theorem leR_refl (x : Rt) : leR x x := by unfold leR; rw [cmpR_self]; exact Int.le_refl _
theorem srt_le {B : List Rt} (h : Srt B) {i j : Nat} {y z : Rt} (hy : B[i]? = some y) (hz : B[j]? = some z) (hij : i ≤ j) : leR y z := by
  obtain ⟨h1, rfl⟩ := List.getElem?_eq_some_iff.mp hy
  obtain ⟨h2, rfl⟩ := List.getElem?_eq_some_iff.mp hz
  rcases Nat.lt_or_eq_of_le hij with h' | rfl
  · exact List.pairwise_iff_getElem.1 h i j h1 h2 h'
  · exact leR_refl _
theorem seg_at {U B R : List Rt} {c : Nat} (h1 : U.length ≤ c) (h2 : c < U.length + B.length) : (U ++ B ++ R)[c]? = B[c - U.length]? := by
  rw [List.getElem?_append_left (by rw [List.length_append]; omega), List.getElem?_append_right h1]
theorem cut_parts {U B R : List Rt} {g : Nat → Bool} {f : Rt → Bool} {s : Nat} (hg : ∀ c y, U.length ≤ c → c < U.length + B.length → (U ++ B ++ R)[c]? = some y → g c = f y) (hc : Cut g U.length (U.length + B.length) s) :
    (∀ b ∈ B.take (s - U.length), f b = true) ∧ (∀ b ∈ B.drop (s - U.length), f b = false) := by
  have h0 := hc.lo
  have h9 := hc.hi
  constructor
  · intro b hb
    obtain ⟨i, hi⟩ := List.mem_iff_getElem?.1 hb
    have hil : i < s - U.length := by
      have := (List.getElem?_eq_some_iff.mp hi).1
      rw [List.length_take] at this
      omega
    rw [List.getElem?_take_of_lt hil] at hi
    have hiB := (List.getElem?_eq_some_iff.mp hi).1
    have hh := hg (U.length + i) b (by omega) (by omega) (by rw [seg_at (by omega) (by omega)]; rw [show U.length + i - U.length = i from by omega]; exact hi)
    rw [← hh]
    exact hc.be _ (by omega) (by omega)
  · intro b hb
    obtain ⟨i, hi⟩ := List.mem_iff_getElem?.1 hb
    rw [List.getElem?_drop] at hi
    have hiB := (List.getElem?_eq_some_iff.mp hi).1
    have hh := hg (s + i) b (by omega) (by omega) (by rw [seg_at (by omega) (by omega), show s + i - U.length = s - U.length + i from by omega]; exact hi)
    rw [← hh]
    exact hc.af _ (by omega) (by omega)
theorem mrg_one_l {x : Rt} {B1 B2 : List Rt} (h1 : ∀ b ∈ B1, ltR b x = true) (h2 : ∀ b ∈ B2, ltR b x = false) : mrg [x] (B1 ++ B2) = B1 ++ x :: B2 := by
  have e1 := mrg_split _ [] B1 [x] B2 (Nat.le_refl _) (fun b hb a ha => by rw [List.mem_singleton.1 ha]; exact h1 b hb) (fun a ha => absurd ha List.not_mem_nil)
  have e2 := mrg_split _ [x] [] [] B2 (Nat.le_refl _) (fun b hb => absurd hb List.not_mem_nil) (fun a ha b hb => by rw [List.mem_singleton.1 ha]; exact leR_iff.2 (h2 b hb))
  simp only [List.nil_append, List.append_nil, mrg_nl, mrg_nr] at e1 e2
  rw [e1, e2]
  rfl
theorem mrg_one_r {x : Rt} {A1 A2 : List Rt} (h1 : ∀ a ∈ A1, ltR x a = false) (h2 : ∀ a ∈ A2, ltR x a = true) : mrg (A1 ++ A2) [x] = A1 ++ x :: A2 := by
  have e1 := mrg_split _ A1 [] A2 [x] (Nat.le_refl _) (fun b hb => absurd hb List.not_mem_nil) (fun a ha b hb => by rw [List.mem_singleton.1 hb]; exact leR_iff.2 (h1 a ha))
  have e2 := mrg_split _ [] [x] A2 [] (Nat.le_refl _) (fun b hb a ha => by rw [List.mem_singleton.1 hb]; exact h2 a ha) (fun a ha => absurd ha List.not_mem_nil)
  simp only [List.nil_append, List.append_nil, mrg_nl, mrg_nr] at e1 e2
  rw [e1, e2]
  rfl
set_option maxHeartbeats 8000000 in
theorem s_sym1 (p n c : Nat) (P : List Rt) (x : Rt) (B R : List Rt) (st : Store) (hnl : n ≤ 1000000) (hB : Srt B) (hn : n = (P ++ [x] ++ B ++ R).length) (hsh : Short (P ++ [x] ++ B ++ R)) (hR : RowIs st p 2 ((P ++ [x] ++ B ++ R).map Rt.e)) (m b : Nat) (hm : m = P.length + 1) (hb : b = P.length + 1 + B.length) :
    EvRWX Γ 72 [.rs p 0 2 n c, .int .i64 P.length, .int .i64 m, .int .i64 b, .func 21 []] st (fun r st' => r = .tuple [] ∧ FrR st st' p ∧ RowIs st' p 2 ((P ++ mrg [x] B ++ R).map Rt.e)) := by
  refine EvRWX_code rfl rfl ?_
  have hUl : (P ++ [x]).length = P.length + 1 := by simp
  have hx : (P ++ [x] ++ B ++ R)[P.length]? = some x := by simp
  have hnb : b ≤ n := by rw [hn, hb]; simp; omega
  have hsat : ∀ {c : Nat} {y : Rt}, m ≤ c → c < b → (P ++ [x] ++ B ++ R)[c]? = some y → B[c - m]? = some y := fun {c y} h1 h2 h => by
    rw [seg_at (by omega) (by omega), hUl, ← hm] at h; exact h
  let g : Nat → Bool := fun c => match (P ++ [x] ++ B ++ R)[c]? with | some y => ltR y x | none => false
  have hgd : ∀ c y, m ≤ c → c < b → (P ++ [x] ++ B ++ R)[c]? = some y → g c = ltR y x := fun c y _ _ h => by show (match (P ++ [x] ++ B ++ R)[c]? with | some y => ltR y x | none => false) = _; rw [h]
  have hmo : Mono g m b := fun c c' h1 h2 h3 h4 => by
    obtain ⟨y, hy⟩ : ∃ y, (P ++ [x] ++ B ++ R)[c]? = some y := ⟨_, List.getElem?_eq_getElem (by omega)⟩
    obtain ⟨y', hy'⟩ : ∃ y, (P ++ [x] ++ B ++ R)[c']? = some y := ⟨_, List.getElem?_eq_getElem (by omega)⟩
    rw [hgd c' y' (by omega) h3 hy'] at h4
    rw [hgd c y h1 (by omega) hy]
    exact le_lt (srt_le hB (hsat h1 (by omega) hy) (hsat (by omega) h3 hy') (by omega)) h4
  have hlo := l_b0 p n c (P ++ [x] ++ B ++ R) hnl hn hsh P.length m b 0 0 x hx g (b - m) m b (Nat.le_refl _) (by omega) hnb hmo hgd
  have hsub : IntKind.i64.wrap ((m : Int) - (P.length : Int)) = 1 := by rw [w64 (by omega)]; omega
  repeat' (first
 | (refine I_WS ?_; first
 | refine W_sub (s := 1) rfl rfl rfl rfl hsub ?_
 | (refine I_mov ?_; first
 | refine W_mov (v := .int _ _) rfl rfl rfl ?_)
 | (refine I_bin ?_; first
 | refine W_eqlT rfl rfl rfl rfl (by omega) ?_)
 | refine WS_nil ?_)
 | (refine hlo _ _ hR ?_ ?_ ?_ ?_ ?_ _ ?_ <;> first | rfl | (intro ρ2 s hcut k0 k1 k4 k10))
 | refine WC_seq ?_
 | refine WC_opsS ?_
 | refine WC_condT rfl ?_
 | refine WC_block ?_)
  have hcp := cut_parts (U := P ++ [x]) (B := B) (R := R) (f := fun y => ltR y x) (s := s) (fun c y h1 h2 h => hgd c y (by omega) (by omega) h) (by rw [hUl, ← hm, show m + B.length = b from by omega]; exact hcut)
  rw [hUl, ← hm] at hcp
  have hs0 := hcut.lo
  have hs9 := hcut.hi
  have hmg := mrg_one_l hcp.1 hcp.2
  rw [List.take_append_drop] at hmg
  have hBt : (B.take (s - m)).length = s - m := by rw [List.length_take]; omega
  have e1 : P ++ [x] ++ B ++ R = P ++ x :: (B.take (s - m) ++ (B.drop (s - m) ++ R)) := by
    rw [← List.append_assoc (B.take (s - m)), List.take_append_drop]; simp
  have hwm := l_m1 p n c s hnl x (B.drop (s - m) ++ R) (B.take (s - m)) P (by rw [hn, e1]) (by rw [List.length_append, hBt]; omega)
  rw [e1] at hR
  rw [← upd_self k0, ← upd_self k1, ← upd_self k4, ← upd_self k10]
  repeat' (first
 | (refine I_WS ?_; first
 | (refine I_mov ?_; first
 | refine W_mov (v := .int _ _) rfl rfl rfl ?_)
 | refine WS_nil ?_)
 | (refine hwm _ _ hR ?_ ?_ ?_ _ ?_ <;> first | rfl | (intro ρ3 st3 hF3 hR3))
 | refine WC_block ?_
 | refine WC_ret ?_)
  refine ⟨.inr rfl, _, rfl, rfl, hF3, ?_⟩
  rw [hmg]
  simpa using hR3
set_option maxHeartbeats 8000000 in
theorem s_sym2 (p n c : Nat) (P A : List Rt) (x : Rt) (R : List Rt) (st : Store) (hnl : n ≤ 1000000) (hA2 : A.length ≠ 1) (hA : Srt A) (hn : n = (P ++ A ++ x :: R).length) (hsh : Short (P ++ A ++ x :: R)) (hR : RowIs st p 2 ((P ++ A ++ x :: R).map Rt.e)) (m b : Nat) (hm : m = P.length + A.length) (hb : b = m + 1) :
    EvRWX Γ 72 [.rs p 0 2 n c, .int .i64 P.length, .int .i64 m, .int .i64 b, .func 21 []] st (fun r st' => r = .tuple [] ∧ FrR st st' p ∧ RowIs st' p 2 ((P ++ mrg A [x] ++ R).map Rt.e)) := by
  refine EvRWX_code rfl rfl ?_
  have hx : (P ++ A ++ x :: R)[m]? = some x := by rw [List.getElem?_append_right (by simp; omega)]; simp [hm]
  have hnb : b ≤ n := by rw [hn, hb, hm]; simp; omega
  have hsat : ∀ {c : Nat} {y : Rt}, P.length ≤ c → c < m → (P ++ A ++ x :: R)[c]? = some y → A[c - P.length]? = some y := fun {c y} h1 h2 h => by
    rw [seg_at (by omega) (by omega)] at h; exact h
  let g : Nat → Bool := fun c => match (P ++ A ++ x :: R)[c]? with | some y => !ltR x y | none => false
  have hgd : ∀ c y, P.length ≤ c → c < m → (P ++ A ++ x :: R)[c]? = some y → g c = !ltR x y := fun c y _ _ h => by show (match (P ++ A ++ x :: R)[c]? with | some y => !ltR x y | none => false) = _; rw [h]
  have hmo : Mono g P.length m := fun c c' h1 h2 h3 h4 => by
    obtain ⟨y, hy⟩ : ∃ y, (P ++ A ++ x :: R)[c]? = some y := ⟨_, List.getElem?_eq_getElem (by omega)⟩
    obtain ⟨y', hy'⟩ : ∃ y, (P ++ A ++ x :: R)[c']? = some y := ⟨_, List.getElem?_eq_getElem (by omega)⟩
    rw [hgd c' y' (by omega) h3 hy'] at h4
    rw [hgd c y h1 (by omega) hy]
    have h5 : leR y' x := leR_iff.2 (by simpa using h4)
    have := leR_iff.1 (leR_trans (srt_le hA (hsat h1 (by omega) hy) (hsat (by omega) h3 hy') (by omega)) h5)
    rw [this]
    rfl
  have hlo := l_b2 p n c (P ++ A ++ x :: R) hnl hn hsh P.length m b 0 0 x hx g (m - P.length) P.length m (Nat.le_refl _) (by omega) (by omega) hmo hgd
  have hsub : IntKind.i64.wrap ((m : Int) - (P.length : Int)) = (A.length : Int) := by rw [w64 (by omega)]; omega
  have hsub2 : IntKind.i64.wrap ((b : Int) - (m : Int)) = 1 := by rw [w64 (by omega)]; omega
  have hA2' : ¬ ((A.length : Nat) : Int) = 1 := by omega
  repeat' (first
 | (refine I_WS ?_; first
 | refine W_sub (s := (A.length : Int)) rfl rfl rfl rfl hsub ?_
 | refine W_sub (s := 1) rfl rfl rfl rfl hsub2 ?_
 | refine W_eqlF rfl rfl rfl rfl hA2' ?_
 | (refine I_mov ?_; first
 | refine W_mov (v := .int _ _) rfl rfl rfl ?_)
 | (refine I_bin ?_; first
 | refine W_eqlT rfl rfl rfl rfl (by omega) ?_)
 | refine WS_nil ?_)
 | (refine hlo _ _ hR ?_ ?_ ?_ ?_ ?_ _ ?_ <;> first | rfl | (intro ρ2 s hcut k0 k2 k4 k14))
 | refine WC_seq ?_
 | refine WC_opsS ?_
 | refine WC_skip ?_
 | refine WC_condT rfl ?_
 | refine WC_condF rfl ?_
 | refine WC_block ?_)
  have hcp := cut_parts (U := P) (B := A) (R := x :: R) (f := fun y => !ltR x y) (s := s) (fun c y h1 h2 h => hgd c y (by omega) (by omega) h) (by rw [← hm]; exact hcut)
  have hs0 := hcut.lo
  have hs9 := hcut.hi
  have hmg := mrg_one_r (x := x) (A1 := A.take (s - P.length)) (A2 := A.drop (s - P.length)) (fun a ha => by simpa using hcp.1 a ha) (fun a ha => by simpa using hcp.2 a ha)
  rw [List.take_append_drop] at hmg
  have hAt : (P ++ A.take (s - P.length)).length = s := by rw [List.length_append, List.length_take]; omega
  have e1 : P ++ A ++ x :: R = (P ++ A.take (s - P.length)) ++ A.drop (s - P.length) ++ x :: R := by
    rw [List.append_assoc P (A.take _), List.take_append_drop]
  have hwm := l_m3 p n c hnl x (P ++ A.take (s - P.length)) _ (A.drop (s - P.length)) R rfl (by rw [hn, e1])
  have hml : ((P ++ A.take (s - P.length) ++ A.drop (s - P.length)).length : Nat) = m := by rw [List.append_assoc P, List.take_append_drop, List.length_append, hm]
  rw [e1] at hR
  rw [hAt, hml] at hwm
  rw [← upd_self k0, ← upd_self k2, ← upd_self k4, ← upd_self k14]
  repeat' (first
 | (refine I_WS ?_; first
 | (refine I_mov ?_; first
 | refine W_mov (v := .int _ _) rfl rfl rfl ?_)
 | refine WS_nil ?_)
 | (refine hwm _ _ hR ?_ ?_ ?_ _ ?_ <;> first | rfl | (intro ρ3 st3 hF3 hR3))
 | refine WC_block ?_
 | refine WC_ret ?_)
  refine ⟨.inr rfl, _, rfl, rfl, hF3, ?_⟩
  rw [hmg]
  simpa using hR3
end Go.Ord
