/-
  Rules to run the evaluator's code by hand, operation by operation.
-/
import Derived.Test.YtjcilbnbciclpaaEvEvX1
set_option linter.unusedVariables false
set_option linter.unusedSimpArgs false
set_option linter.unnecessarySimpa false
namespace Go.Ev
abbrev nx (b : Fl) (R : (Nat → D) → Store → List Fl → Prop) : (Nat → D) → Store → List Fl → Prop := fun ρ1 st1 fl => R ρ1 st1 (b :: fl)
section
variable {Γ : Nat → Option FD} {ρ : Nat → D} {st : Store} {dr : Bool} {R : (Nat → D) → Store → List Fl → Prop} {l : List Op1} {g : Option (Nat × Bool)} {mv : Bool} {k : Nat} {x y c a b i : A} {κ : IntKind} {n m : Int}
theorem W_q {op : O} {d : D} {f0 : Fl} (hg : guardV ρ g = some true) (hn : op.isCall = false) (hr : op.run ρ st = some (d, st)) (hm : mv = false) (h : WS Γ dr l (upd ρ k d) st (nx f0 R)) (hf : op.acc false ρ = f0 := by first | rfl | (simp [O.acc, *]; done)) : WS Γ dr (⟨some k, g, mv, op⟩ :: l) ρ st R := by
  subst hm
  exact WS_op hg hn (by simpa [O.runM] using hr) h hf
theorem W_skip (hg : guardV ρ g = some false) {op : O} (h : WS Γ dr l (upd ρ k .undef) st (nx .n R)) : WS Γ dr (⟨some k, g, mv, op⟩ :: l) ρ st R := WS_skip hg h
theorem W_mov {v : D} (hg : guardV ρ g = some true) (hx : x.ev ρ = v) (hm : mv = false) (h : WS Γ dr l (upd ρ k v) st (nx .n R)) : WS Γ dr (⟨some k, g, mv, .mov x⟩ :: l) ρ st R :=
  W_q hg rfl (by simp [O.run, hx]) hm h
theorem W_pick {t : Bool} {v : D} (hg : guardV ρ g = some true) (hc : c.ev ρ = .bool t) (hx : (if t then a.ev ρ else b.ev ρ) = v) (hm : mv = false) (h : WS Γ dr l (upd ρ k v) st (nx .n R)) : WS Γ dr (⟨some k, g, mv, .pick c a b⟩ :: l) ρ st R :=
  W_q hg rfl (by simp [O.run, hc, hx]) hm h
theorem W_not {t : Bool} (hg : guardV ρ g = some true) (hx : x.ev ρ = .bool t) (hm : mv = false) (h : WS Γ dr l (upd ρ k (.bool (!t))) st (nx .n R)) : WS Γ dr (⟨some k, g, mv, .not x⟩ :: l) ρ st R :=
  W_q hg rfl (by simp [O.run, hx]) hm h
-- comparisons
theorem W_cmp {op : BinOp} {t : Bool} (hg : guardV ρ g = some true) (hr : binD op (x.ev ρ) (y.ev ρ) = some (.bool t)) (hm : mv = false) (h : WS Γ dr l (upd ρ k (.bool t)) st (nx .n R)) : WS Γ dr (⟨some k, g, mv, .bin op x y⟩ :: l) ρ st R :=
  W_q hg rfl (by simp [O.run, hr]) hm h
variable (hg : guardV ρ g = some true) (hx : x.ev ρ = .int κ n) (hy : y.ev ρ = .int κ m) (hm : mv = false)
include hg hx hy hm
theorem W_lss (h1 : n < m → WS Γ dr l (upd ρ k (.bool true)) st (nx .n R)) (h2 : ¬ n < m → WS Γ dr l (upd ρ k (.bool false)) st (nx .n R)) : WS Γ dr (⟨some k, g, mv, .bin .lss x y⟩ :: l) ρ st R := by
  by_cases h : n < m
  · exact W_cmp hg (by simp [binD, hx, hy, h]) hm (h1 h)
  · exact W_cmp hg (by simp only [binD, hx, hy]; simp [h]) hm (h2 h)
theorem W_leq (h1 : n ≤ m → WS Γ dr l (upd ρ k (.bool true)) st (nx .n R)) (h2 : ¬ n ≤ m → WS Γ dr l (upd ρ k (.bool false)) st (nx .n R)) : WS Γ dr (⟨some k, g, mv, .bin .leq x y⟩ :: l) ρ st R := by
  by_cases h : n ≤ m
  · exact W_cmp hg (by simp [binD, hx, hy, h]) hm (h1 h)
  · exact W_cmp hg (by simp only [binD, hx, hy]; simp [h]) hm (h2 h)
theorem W_gtr (h1 : m < n → WS Γ dr l (upd ρ k (.bool true)) st (nx .n R)) (h2 : ¬ m < n → WS Γ dr l (upd ρ k (.bool false)) st (nx .n R)) : WS Γ dr (⟨some k, g, mv, .bin .gtr x y⟩ :: l) ρ st R := by
  by_cases h : m < n
  · exact W_cmp hg (by simp [binD, hx, hy, h]) hm (h1 h)
  · exact W_cmp hg (by simp only [binD, hx, hy]; simp [h]) hm (h2 h)
theorem W_geq (h1 : m ≤ n → WS Γ dr l (upd ρ k (.bool true)) st (nx .n R)) (h2 : ¬ m ≤ n → WS Γ dr l (upd ρ k (.bool false)) st (nx .n R)) : WS Γ dr (⟨some k, g, mv, .bin .geq x y⟩ :: l) ρ st R := by
  by_cases h : m ≤ n
  · exact W_cmp hg (by simp [binD, hx, hy, h]) hm (h1 h)
  · exact W_cmp hg (by simp only [binD, hx, hy]; simp [h]) hm (h2 h)
theorem W_eql (h1 : n = m → WS Γ dr l (upd ρ k (.bool true)) st (nx .n R)) (h2 : ¬ n = m → WS Γ dr l (upd ρ k (.bool false)) st (nx .n R)) : WS Γ dr (⟨some k, g, mv, .bin .eql x y⟩ :: l) ρ st R := by
  by_cases h : n = m
  · exact W_cmp hg (by simp [binD, hx, hy, h]) hm (h1 h)
  · exact W_cmp hg (by simp [binD, hx, hy, h]) hm (h2 h)
theorem W_neq (h1 : n = m → WS Γ dr l (upd ρ k (.bool false)) st (nx .n R)) (h2 : ¬ n = m → WS Γ dr l (upd ρ k (.bool true)) st (nx .n R)) : WS Γ dr (⟨some k, g, mv, .bin .neq x y⟩ :: l) ρ st R := by
  by_cases h : n = m
  · exact W_cmp hg (by simp [binD, hx, hy, h]) hm (h1 h)
  · exact W_cmp hg (by simp [binD, hx, hy, h]) hm (h2 h)
theorem W_lssT (p : n < m) (h1 : WS Γ dr l (upd ρ k (.bool true)) st (nx .n R)) : WS Γ dr (⟨some k, g, mv, .bin .lss x y⟩ :: l) ρ st R := W_lss hg hx hy hm (fun _ => h1) (fun q => absurd p q)
theorem W_lssF (p : m ≤ n) (h1 : WS Γ dr l (upd ρ k (.bool false)) st (nx .n R)) : WS Γ dr (⟨some k, g, mv, .bin .lss x y⟩ :: l) ρ st R := W_lss hg hx hy hm (fun _ => absurd p (by omega)) (fun q => h1)
theorem W_leqT (p : n ≤ m) (h1 : WS Γ dr l (upd ρ k (.bool true)) st (nx .n R)) : WS Γ dr (⟨some k, g, mv, .bin .leq x y⟩ :: l) ρ st R := W_leq hg hx hy hm (fun _ => h1) (fun q => absurd p q)
theorem W_leqF (p : m < n) (h1 : WS Γ dr l (upd ρ k (.bool false)) st (nx .n R)) : WS Γ dr (⟨some k, g, mv, .bin .leq x y⟩ :: l) ρ st R := W_leq hg hx hy hm (fun _ => absurd p (by omega)) (fun q => h1)
theorem W_gtrT (p : m < n) (h1 : WS Γ dr l (upd ρ k (.bool true)) st (nx .n R)) : WS Γ dr (⟨some k, g, mv, .bin .gtr x y⟩ :: l) ρ st R := W_gtr hg hx hy hm (fun _ => h1) (fun q => absurd p q)
theorem W_gtrF (p : n ≤ m) (h1 : WS Γ dr l (upd ρ k (.bool false)) st (nx .n R)) : WS Γ dr (⟨some k, g, mv, .bin .gtr x y⟩ :: l) ρ st R := W_gtr hg hx hy hm (fun _ => absurd p (by omega)) (fun q => h1)
theorem W_geqT (p : m ≤ n) (h1 : WS Γ dr l (upd ρ k (.bool true)) st (nx .n R)) : WS Γ dr (⟨some k, g, mv, .bin .geq x y⟩ :: l) ρ st R := W_geq hg hx hy hm (fun _ => h1) (fun q => absurd p q)
theorem W_geqF (p : n < m) (h1 : WS Γ dr l (upd ρ k (.bool false)) st (nx .n R)) : WS Γ dr (⟨some k, g, mv, .bin .geq x y⟩ :: l) ρ st R := W_geq hg hx hy hm (fun _ => absurd p (by omega)) (fun q => h1)
theorem W_eqlT (p : n = m) (h1 : WS Γ dr l (upd ρ k (.bool true)) st (nx .n R)) : WS Γ dr (⟨some k, g, mv, .bin .eql x y⟩ :: l) ρ st R := W_eql hg hx hy hm (fun _ => h1) (fun q => absurd p q)
theorem W_eqlF (p : ¬ n = m) (h1 : WS Γ dr l (upd ρ k (.bool false)) st (nx .n R)) : WS Γ dr (⟨some k, g, mv, .bin .eql x y⟩ :: l) ρ st R := W_eql hg hx hy hm (fun q => absurd q p) (fun q => h1)
theorem W_neqT (p : ¬ n = m) (h1 : WS Γ dr l (upd ρ k (.bool true)) st (nx .n R)) : WS Γ dr (⟨some k, g, mv, .bin .neq x y⟩ :: l) ρ st R := W_neq hg hx hy hm (fun q => absurd q p) (fun q => h1)
theorem W_neqF (p : n = m) (h1 : WS Γ dr l (upd ρ k (.bool false)) st (nx .n R)) : WS Γ dr (⟨some k, g, mv, .bin .neq x y⟩ :: l) ρ st R := W_neq hg hx hy hm (fun _ => h1) (fun q => absurd p q)
-- sums
theorem W_add {s : Int} (hs : κ.wrap (n + m) = s) (h : WS Γ dr l (upd ρ k (.int κ s)) st (nx .n R)) : WS Γ dr (⟨some k, g, mv, .bin .add x y⟩ :: l) ρ st R :=
  W_q hg rfl (by simp [O.run, binD, hx, hy, hs]) hm h
theorem W_sub {s : Int} (hs : κ.wrap (n - m) = s) (h : WS Γ dr l (upd ρ k (.int κ s)) st (nx .n R)) : WS Γ dr (⟨some k, g, mv, .bin .sub x y⟩ :: l) ρ st R :=
  W_q hg rfl (by simp [O.run, binD, hx, hy, hs]) hm h
theorem W_mul {s : Int} (hs : κ.wrap (n * m) = s) (h : WS Γ dr l (upd ρ k (.int κ s)) st (nx .n R)) : WS Γ dr (⟨some k, g, mv, .bin .mul x y⟩ :: l) ρ st R :=
  W_q hg rfl (by simp [O.run, binD, hx, hy, hs]) hm h
theorem W_quo {s : Int} (h0 : m ≠ 0) (hs : κ.wrap (n.tdiv m) = s) (h : WS Γ dr l (upd ρ k (.int κ s)) st (nx .n R)) : WS Γ dr (⟨some k, g, mv, .bin .quo x y⟩ :: l) ρ st R :=
  W_q hg rfl (by simp [O.run, binD, hx, hy, hs, h0]) hm h
theorem W_rem {s : Int} (h0 : m ≠ 0) (hs : n.tmod m = s) (h : WS Γ dr l (upd ρ k (.int κ s)) st (nx .n R)) : WS Γ dr (⟨some k, g, mv, .bin .rem x y⟩ :: l) ρ st R :=
  W_q hg rfl (by simp [O.run, binD, hx, hy, hs, h0]) hm h
omit hy
theorem W_min2 {κ' : IntKind} (hy : y.ev ρ = .int κ' m) (h : WS Γ dr l (upd ρ k (.int κ (if m < n then m else n))) st (nx .n R)) : WS Γ dr (⟨some k, g, mv, .min [x, y]⟩ :: l) ρ st R :=
  W_q hg rfl (by simp [O.run, minD, hx, hy]) hm h
theorem W_max2 {κ' : IntKind} (hy : y.ev ρ = .int κ' m) (h : WS Γ dr l (upd ρ k (.int κ (if m > n then m else n))) st (nx .n R)) : WS Γ dr (⟨some k, g, mv, .max [x, y]⟩ :: l) ρ st R :=
  W_q hg rfl (by simp [O.run, maxD, hx, hy]) hm h
omit hx
theorem W_neqP {sz : Nat} {offs : List Nat} {cs ds : List D} {e : Bool} (hx : x.ev ρ = .agg cs) (hy : y.ev ρ = .agg ds) (h1 : cs.length = sz) (h2 : ds.length = sz) (he : eqAt cs ds offs = some e)
    (ht : e = true → WS Γ dr l (upd ρ k (.bool false)) st (nx .n R)) (hf : e = false → WS Γ dr l (upd ρ k (.bool true)) st (nx .n R)) : WS Γ dr (⟨some k, g, mv, .eqlP true sz offs x y⟩ :: l) ρ st R := by
  cases e with
  | true => exact W_q hg rfl (by simp [O.run, hx, hy, h1, h2, he]) hm (ht rfl)
  | false => exact W_q hg rfl (by simp [O.run, hx, hy, h1, h2, he]) hm (hf rfl)
theorem W_extract {vs : List D} {j : Nat} {d : D} (hx : x.ev ρ = .tuple vs) (hd : vs[j]? = some d) (h : WS Γ dr l (upd ρ k d) st (nx .n R)) : WS Γ dr (⟨some k, g, mv, .extract x j⟩ :: l) ρ st R :=
  W_q hg rfl (by simp [O.run, hx, hd]) hm h
theorem W_mkfunc {f : Nat} {caps : List A} {cs : List D} (hc : caps.map (·.ev ρ) = cs) (h : WS Γ dr l (upd ρ k (.func f cs)) st (nx .n R)) : WS Γ dr (⟨some k, g, mv, .mkfunc f caps⟩ :: l) ρ st R :=
  W_q hg rfl (by simp [O.run, hc]) hm h
theorem W_build {zero : List D} {fills : List (Nat × Nat × A)} {cs : List D} (hf : fillD (fills.map fun f => (f.1, f.2.1, f.2.2.ev ρ)) zero = some cs) (h : WS Γ dr l (upd ρ k (.agg cs)) st (nx .n R)) : WS Γ dr (⟨some k, g, mv, .build zero fills⟩ :: l) ρ st R :=
  W_q hg rfl (by simp [O.run, hf]) hm h
-- slices
theorem W_lenS {t : Tok} {sz : Nat} {xs : List D} (hx : x.ev ρ = .slice t sz xs) (h : WS Γ dr l (upd ρ k (.int .i64 (xs.length : Nat))) st (nx .n R)) : WS Γ dr (⟨some k, g, mv, .lenS x⟩ :: l) ρ st R :=
  W_q hg rfl (by simp [O.run, hx]) hm h
theorem W_lenM {α : Type} {ls : List α} {f : α → D} {t : Tok} {sz : Nat} (hx : x.ev ρ = .slice t sz (ls.map f)) (h : WS Γ dr l (upd ρ k (.int .i64 (ls.length : Nat))) st (nx .n R)) : WS Γ dr (⟨some k, g, mv, .lenS x⟩ :: l) ρ st R :=
  W_lenS hg hm hx (by simpa using h)
theorem W_lenR {p off sz nn cc : Nat} (hx : x.ev ρ = .rs p off sz nn cc) (h : WS Γ dr l (upd ρ k (.int .i64 (nn : Nat))) st (nx .n R)) : WS Γ dr (⟨some k, g, mv, .lenS x⟩ :: l) ρ st R :=
  W_q hg rfl (by simp [O.run, hx]) hm h
theorem W_iaddr {t : Tok} {sz s j : Nat} {xs : List D} (hx : x.ev ρ = .slice t s xs) (hi : i.ev ρ = .int κ (j : Int)) (hs : s = sz) (hj : j < xs.length) (h : WS Γ dr l (upd ρ k (.eptr sz xs j 0)) st (nx .n R)) : WS Γ dr (⟨some k, g, mv, .iaddrS sz x i⟩ :: l) ρ st R :=
  W_q hg rfl (by simp [O.run, hx, hi, asNat, hj, hs]) hm h
theorem W_iaddrR {p off sz j nn cc : Nat} (hx : x.ev ρ = .rs p off sz nn cc) (hi : i.ev ρ = .int κ (j : Int)) (hj : j < nn) (h : WS Γ dr l (upd ρ k (.ptr p (off + j * sz))) st (nx .n R)) : WS Γ dr (⟨some k, g, mv, .iaddrS sz x i⟩ :: l) ρ st R :=
  W_q hg rfl (by simp [O.run, hx, hi, asNat, hj]) hm h
theorem W_indexA {nn sz j : Nat} {agg : Bool} {cs : List D} {d : D} (hx : x.ev ρ = .agg cs) (hi : asNat (i.ev ρ) = some j) (hj : j < nn) (hc : cut agg sz (j * sz) cs = some d) (h : WS Γ dr l (upd ρ k d) st (nx .n R)) : WS Γ dr (⟨some k, g, mv, .indexA nn sz agg x i⟩ :: l) ρ st R :=
  W_q hg rfl (by simp [O.run, hx, hi, hj, hc]) hm h
theorem W_faddr {p off o : Nat} (hx : x.ev ρ = .ptr p o) (h : WS Γ dr l (upd ρ k (.ptr p (o + off))) st (nx .n R)) : WS Γ dr (⟨some k, g, mv, .faddr off x⟩ :: l) ρ st R :=
  W_q hg rfl (by simp [O.run, hx]) hm h
theorem W_faddrE {s p off o : Nat} {xs : List D} (hx : x.ev ρ = .eptr s xs p o) (h : WS Γ dr l (upd ρ k (.eptr s xs p (o + off))) st (nx .n R)) : WS Γ dr (⟨some k, g, mv, .faddr off x⟩ :: l) ρ st R :=
  W_q hg rfl (by simp [O.run, hx]) hm h
theorem W_loadE {α : Type} {ls : List α} {f : α → D} {v : α} {s j off sz : Nat} {agg : Bool} {d : D} (hx : x.ev ρ = .eptr s (ls.map f) j off) (hv : ls[j]? = some v) (hc : cut agg sz off (f v).cells = some d) (h : WS Γ dr l (upd ρ k d) st (nx .n R)) : WS Γ dr (⟨some k, g, mv, .load agg sz x⟩ :: l) ρ st R :=
  W_q hg rfl (by simp [O.run, hx, hv, hc]) hm h
theorem W_load {cs : List D} {p off sz : Nat} {agg : Bool} {d : D} (hx : x.ev ρ = .ptr p off) (hb : (st.boxes p).bind Box.cs = some cs) (hl : st.lim ≤ p) (hc : cut agg sz off cs = some d) (h : WS Γ dr l (upd ρ k d) st (nx (.r p) R)) : WS Γ dr (⟨some k, g, mv, .load agg sz x⟩ :: l) ρ st R :=
  W_q hg rfl (by simp [O.run, hx, Store.cellsAt, hb, Nat.not_lt.mpr hl, hc]) hm h
theorem W_loadC {cs : List D} {p off sz : Nat} {agg : Bool} {d : D} (hx : x.ev ρ = .ptr p off) (hb : (st.boxes p).bind Box.cs = some cs) (hl : p < st.lim) (hc : cut agg sz off (cs.map D.strip1) = some d) (h : WS Γ dr l (upd ρ k d) st (nx (.r p) R)) : WS Γ dr (⟨some k, g, mv, .load agg sz x⟩ :: l) ρ st R :=
  W_q hg rfl (by simp [O.run, hx, Store.cellsAt, hb, hl, hc]) hm h
theorem W_alloc {zero : List D} (h : WS Γ dr l (upd ρ k (.ptr st.next 0)) { st with boxes := upd st.boxes st.next (some (.cells zero)), next := st.next + 1 } (nx .f R)) : WS Γ dr (⟨some k, g, mv, .alloc zero⟩ :: l) ρ st R := by
  subst hm
  exact WS_op hg rfl rfl h
theorem W_boxA {sz : Nat} {cs : List D} (hx : x.ev ρ = .agg cs) (h1 : cs.length = sz) (h2 : cs.all D.one = true) (h : WS Γ dr l (upd ρ k (.ptr st.next 0)) { st with boxes := upd st.boxes st.next (some (.cells cs)), next := st.next + 1 } (nx .f R)) : WS Γ dr (⟨some k, g, mv, .box sz x⟩ :: l) ρ st R := by
  subst hm
  refine WS_op (d := .ptr st.next 0) hg rfl ?_ h
  simp only [O.runM, O.run, hx, D.cells]
  rw [if_pos ⟨h1, h2⟩]
theorem W_box1 {v : D} (hx : x.ev ρ = v) (h1 : v.cells = [v]) (h2 : v.one = true) (h : WS Γ dr l (upd ρ k (.ptr st.next 0)) { st with boxes := upd st.boxes st.next (some (.cells [v])), next := st.next + 1 } (nx .f R)) : WS Γ dr (⟨some k, g, mv, .box 1 x⟩ :: l) ρ st R := by
  subst hm
  refine WS_op (d := .ptr st.next 0) hg rfl ?_ h
  simp only [O.runM, O.run, hx, h1]
  rw [if_pos ⟨rfl, by simp [h2]⟩]
theorem W_bslice {sz : Nat} {xs : List A} {ys : List D} (h0 : (xs.all fun x => (x.ev ρ).strip.cells.length == sz && (x.ev ρ).strip.cells.all D.plain) = true) (h1 : xs.length * sz ≤ 16777216) (hy : (xs.map fun x => (x.ev ρ).strip) = ys) (h : WS Γ dr l (upd ρ k (.slice .exact sz ys)) st (nx .n R)) : WS Γ dr (⟨some k, g, mv, .bslice sz xs⟩ :: l) ρ st R := by
  subst hm
  refine WS_op (d := .slice .exact sz ys) (st1 := st) hg rfl ?_ h
  simp only [O.runM, O.run, h0, h1, decide_true, Bool.and_self, if_true, hy]
end
section
variable {Γ : Nat → Option FD} {ρ : Nat → D} {st : Store} {dr : Bool} {R : (Nat → D) → Store → List Fl → Prop} {l : List Op1} {g : Option (Nat × Bool)} {mv : Bool} {k : Nat} {x y c a b i : A}
theorem W_store {v : D} {p off sz : Nat} {bx : Box} {cs cs' : List D} (hg : guardV ρ g = some true) (ha : a.ev ρ = .ptr p off) (hb : st.boxes p = some bx) (hcs : bx.cs = some cs) (hl : st.lim ≤ p) (hx : x.ev ρ = v) (hf : fillD [(off, sz, v)] cs = some cs') (hm : mv = false)
    (h : WS Γ dr l ρ { st with boxes := upd st.boxes p (some (bx.set cs')) } (nx (.w p) R)) : WS Γ dr (⟨none, g, mv, .store sz a x⟩ :: l) ρ st R := by
  subst hm
  refine WS_op (d := .undef) hg rfl ?_ h
  simp only [O.runM, O.run, ha, Nat.not_lt.mpr hl, if_false, hb, Option.bind_some, hcs, hx, hf, Option.map_some]
theorem eqAt3 {κ : IntKind} (a b c x y z : Int) : eqAt [.int κ a, .int κ b, .int κ c] [.int κ x, .int κ y, .int κ z] [0, 1, 2] = some (decide (a = x ∧ b = y ∧ c = z)) := by
  simp only [eqAt, List.getElem?_cons_zero, List.getElem?_cons_succ, if_true, Option.map_some, Bool.and_true, Bool.decide_and]
  congr 1
theorem bxc {f : Nat → Option Box} {k : Nat} {b : Box} {cs : List D} (h : b.cs = some cs) : (upd f k (some b) k).bind Box.cs = some cs := by rw [upd_same]; exact h
theorem bxs {f : Nat → Option Box} {k j : Nat} {v : Option Box} {cs : List D} (hn : j ≠ k) (h : (f j).bind Box.cs = some cs) : (upd f k v j).bind Box.cs = some cs := by rw [upd_ne _ _ hn]; exact h
-- calls
def D.still : D → Bool
  | .slice .fresh _ _ | .slice .row _ _ | .agg (.slice .fresh _ _ :: _) => false
  | .tuple (.slice .fresh _ _ :: _) | .tuple (.slice .row _ _ :: _) | .tuple (.agg (.slice .fresh _ _ :: _) :: _) => false
  | _ => true
theorem absorb_still {r : D} (h : r.still = true) : absorb mv r st = (r, st) := by
  have hA : ∀ v : D, (match v with | .slice .row _ _ => false | _ => true) = true → asRow st mv v = (v, st) := by
    intro v hv
    cases v with
    | slice t sz xs => cases t <;> first | rfl | simp at hv
    | _ => rfl
  unfold absorb
  cases r with
  | tuple vs =>
    cases vs with
    | nil => rfl
    | cons v vs =>
      cases v with
      | slice t sz xs => cases t <;> first | rfl | simp [D.still] at h
      | agg cs =>
        cases cs with
        | nil => rfl
        | cons c cs =>
          cases c with
          | slice t sz xs => cases t <;> first | rfl | simp [D.still] at h
          | _ => rfl
      | _ => rfl
  | slice t sz xs => cases t <;> first | rfl | simp [D.still] at h
  | agg cs =>
    cases cs with
    | nil => rfl
    | cons c cs =>
      cases c with
      | slice t sz xs => cases t <;> first | rfl | simp [D.still] at h
      | _ => rfl
  | _ => rfl
theorem hasFresh_still {r : D} (h : r.still = true) : hasFresh r = false := by
  cases r with
  | tuple vs =>
    cases vs with
    | nil => rfl
    | cons v vs =>
      cases v with
      | slice t sz xs => cases t <;> first | rfl | simp [D.still] at h
      | agg cs =>
        cases cs with
        | nil => rfl
        | cons c cs =>
          cases c with
          | slice t sz xs => cases t <;> first | rfl | simp [D.still] at h
          | _ => rfl
      | _ => rfl
  | slice t sz xs => cases t <;> first | rfl | simp [D.still] at h
  | agg cs =>
    cases cs with
    | nil => rfl
    | cons c cs =>
      cases c with
      | slice t sz xs => cases t <;> first | rfl | simp [D.still] at h
      | _ => rfl
  | _ => rfl
theorem W_call {f : A} {as : List A} {fn : Nat} {caps : List D} {r : D} (hg : guardV ρ g = some true) (hf : f.ev ρ = .func fn caps) (ha : ((as.map (·.ev ρ) ++ caps).map D.strip).all D.freeA = true) (hr : EvP Γ fn ((as.map (·.ev ρ) ++ caps).map D.strip) r)
    (hs : r.still = true) (hm : mv = false) (h : WS Γ dr l (upd ρ k r) st (nx .n R)) : WS Γ dr (⟨some k, g, mv, .call f as⟩ :: l) ρ st R :=
  WS_callP hg rfl hf ha hr (fun _ => ⟨hasFresh_still hs, hm⟩) (absorb_still hs) h
theorem W_callB {f : A} {as : List A} {fn : Nat} {caps : List D} {t : Bool} (hg : guardV ρ g = some true) (hf : f.ev ρ = .func fn caps) (ha : ((as.map (·.ev ρ) ++ caps).map D.strip).all D.freeA = true) (hr : EvP Γ fn ((as.map (·.ev ρ) ++ caps).map D.strip) (.bool t))
    (hm : mv = false) (h1 : t = true → WS Γ dr l (upd ρ k (.bool true)) st (nx .n R)) (h2 : t = false → WS Γ dr l (upd ρ k (.bool false)) st (nx .n R)) : WS Γ dr (⟨some k, g, mv, .call f as⟩ :: l) ρ st R := by
  cases t with
  | true => exact W_call hg hf ha hr rfl hm (h1 rfl)
  | false => exact W_call hg hf ha hr rfl hm (h2 rfl)
def EvX (Γ : Nat → Option FD) (f : Nat) (ds : List D) (P : D → Prop) : Prop := ∃ r, P r ∧ EvP Γ f ds r
def Tok.dull : Tok → Bool
  | .own _ | .fresh => false
  | _ => true
def IsS {α : Type} (e : α → D) (sz : Nat) (ls : List α) (r : D) : Prop := ∃ t s, r = .slice t s (ls.map e) ∧ (s = sz ∨ ls = [])
def IsT {α : Type} (e : α → D) (sz : Nat) (ls : List α) (vs : List D) (r : D) : Prop := ∃ t s, r = .tuple (.slice t s (ls.map e) :: vs) ∧ (s = sz ∨ ls = [])
def IsN {α : Type} (e : α → D) (sz : Nat) (ls : List α) (r : D) : Prop := ∃ t s, r = .slice t s (ls.map e) ∧ (s = sz ∨ ls = []) ∧ t.dull = true
theorem sz_of {α : Type} {ls : List α} {s sz : Nat} (h : s = sz ∨ ls = []) (h0 : 0 < ls.length) : s = sz := by
  rcases h with h | h
  · exact h
  · simp [h] at h0
theorem W_callS {α : Type} {e : α → D} {f : A} {as : List A} {fn : Nat} {caps : List D} {sz : Nat} {xs : List α} (hg : guardV ρ g = some true) (hf : f.ev ρ = .func fn caps) (ha : ((as.map (·.ev ρ) ++ caps).map D.strip).all D.freeA = true) (hr : EvX Γ fn ((as.map (·.ev ρ) ++ caps).map D.strip) (IsS e sz xs))
    (hm : mv = false) (h : ∀ t s, (s = sz ∨ xs = []) → ∀ tk nt, WS Γ false l (upd ρ k (.slice t s (xs.map e))) { st with toks := tk, ntok := nt } (nx .n R)) : WS Γ false (⟨some k, g, mv, .call f as⟩ :: l) ρ st R := by
  subst hm
  obtain ⟨r, ⟨t, s, rfl, hs⟩, hr⟩ := hr
  have key : ∃ t' tk nt, absorb false (.slice t s (xs.map e)) st = (.slice t' s (xs.map e), { st with toks := tk, ntok := nt }) := by
    cases t <;> exact ⟨_, _, _, rfl⟩
  obtain ⟨t', tk, nt, e⟩ := key
  exact WS_callP hg rfl hf ha hr (fun h => by cases h) e (h t' s hs tk nt)
theorem W_callN {α : Type} {e : α → D} {f : A} {as : List A} {fn : Nat} {caps : List D} {sz : Nat} {xs : List α} (hg : guardV ρ g = some true) (hf : f.ev ρ = .func fn caps) (ha : ((as.map (·.ev ρ) ++ caps).map D.strip).all D.freeA = true) (hr : EvX Γ fn ((as.map (·.ev ρ) ++ caps).map D.strip) (IsN e sz xs))
    (hm : mv = false) (h : ∀ t s, (s = sz ∨ xs = []) → t.dull = true → WS Γ dr l (upd ρ k (.slice t s (xs.map e))) st (nx .n R)) : WS Γ dr (⟨some k, g, mv, .call f as⟩ :: l) ρ st R := by
  subst hm
  obtain ⟨r, ⟨t, s, rfl, hs, ht⟩, hr⟩ := hr
  have key : ∃ t', absorb false (.slice t s (xs.map e)) st = (.slice t' s (xs.map e), st) ∧ t'.dull = true := by
    cases t <;> first | (cases ht; done) | exact ⟨_, rfl, rfl⟩
  obtain ⟨t', e, ht'⟩ := key
  exact WS_callP hg rfl hf ha hr (fun h => ⟨by cases t <;> first | (cases ht; done) | rfl, rfl⟩) e (h t' s hs ht')
theorem W_callT {α : Type} {e : α → D} {f : A} {as : List A} {fn : Nat} {caps : List D} {sz : Nat} {xs : List α} {vs : List D} (hg : guardV ρ g = some true) (hf : f.ev ρ = .func fn caps) (ha : ((as.map (·.ev ρ) ++ caps).map D.strip).all D.freeA = true) (hr : EvX Γ fn ((as.map (·.ev ρ) ++ caps).map D.strip) (IsT e sz xs vs))
    (hm : mv = false) (h : ∀ t s, (s = sz ∨ xs = []) → ∀ tk nt, WS Γ false l (upd ρ k (.tuple (.slice t s (xs.map e) :: vs))) { st with toks := tk, ntok := nt } (nx .n R)) : WS Γ false (⟨some k, g, mv, .call f as⟩ :: l) ρ st R := by
  subst hm
  obtain ⟨r, ⟨t, s, rfl, hs⟩, hr⟩ := hr
  have key : ∃ t' tk nt, absorb false (.tuple (.slice t s (xs.map e) :: vs)) st = (.tuple (.slice t' s (xs.map e) :: vs), { st with toks := tk, ntok := nt }) := by
    cases t <;> exact ⟨_, _, _, rfl⟩
  obtain ⟨t', tk, nt, e⟩ := key
  exact WS_callP hg rfl hf ha hr (fun h => by cases h) e (h t' s hs tk nt)
-- what is handed back
theorem ground1_free1 {d : D} (h : d.ground1 = true) : d.free1 = true ∧ d.strip1 = d ∧ d.strip = d ∧ freshen st d = none := by cases d <;> simp_all [D.ground1, D.free1, D.strip1, D.strip, freshen]
theorem ground_strip {d : D} (h : d.ground = true) : d.strip = d := by
  have hc : ∀ cs : List D, cs.all D.ground1 = true → cs.map D.strip1 = cs := fun cs h => by
    rw [List.all_eq_true] at h
    exact (List.map_congr_left fun x hx => (ground1_free1 (st := Store.empty) (h x hx)).2.1).trans (List.map_id' _)
  cases d with
  | agg cs => simp only [D.ground] at h; simp only [D.strip, hc _ h]
  | tuple vs =>
    simp only [D.ground, List.all_eq_true] at h
    simp only [D.strip]
    congr 1
    refine (List.map_congr_left fun x hx => ?_).trans (List.map_id' _)
    have := h x hx
    cases x with
    | agg cs => simp only at this; simp only [hc _ this]
    | _ => simp_all [D.ground1, D.strip1]
  | _ => simp_all [D.ground, D.ground1, D.strip]
theorem ground_free {d : D} (h : d.ground = true) : d.free = true := by
  have hc : ∀ cs : List D, cs.all D.ground1 = true → cs.all D.free1 = true := fun cs h => by
    rw [List.all_eq_true] at h ⊢
    exact fun x hx => (ground1_free1 (st := Store.empty) (h x hx)).1
  cases d with
  | agg cs => simp only [D.ground] at h; simp only [D.free, hc _ h]
  | tuple vs =>
    simp only [D.ground, List.all_eq_true] at h
    simp only [D.free, List.all_eq_true]
    intro x hx
    have := h x hx
    cases x with
    | agg cs => exact hc _ this
    | _ => simp_all [D.ground1, D.free1]
  | _ => simp_all [D.ground, D.ground1, D.free, D.free1]
theorem ground_tuple {v : D} {vs : List D} (h : (D.tuple (v :: vs)).ground = true) : v.ground = true ∧ (∀ w ∈ vs, w.ground = true) := by
  simp only [D.ground, List.all_eq_true, List.mem_cons, forall_eq_or_imp] at h
  refine ⟨?_, fun w hw => ?_⟩
  · have := h.1
    cases v <;> simp_all [D.ground, D.ground1]
  · have := h.2 w hw
    cases w <;> simp_all [D.ground, D.ground1]
theorem retFirst_ground {d : D} (h : d.ground = true) : retFirst st d = d := by
  cases d with
  | agg cs =>
    have := ground_strip h
    cases cs with
    | nil => rfl
    | cons c cs =>
      simp only [D.ground, List.all_cons, Bool.and_eq_true] at h
      simp only [D.strip, List.map_cons] at this
      simp only [retFirst, (ground1_free1 (st := st) h.1).2.2.2, Option.getD_none, this]
  | tuple vs =>
    have := ground_strip h
    simp only [retFirst, freshen, Option.getD_none, this]
  | _ => simp_all [D.ground, D.ground1, retFirst, freshen, D.strip]
theorem finP_ground {r : D} (h : r.ground = true) : finP st r = some r := by
  simp only [finP, ground_free h, if_true, retD]
  split
  · rename_i v vs
    obtain ⟨h1, h2⟩ := ground_tuple h
    rw [retFirst_ground h1]
    congr 2
    congr 1
    exact (List.map_congr_left fun x hx => ground_strip (h2 x hx)).trans (List.map_id' _)
  · rw [retFirst_ground h]
theorem fin_ground {X0 : X} {rs : List Rs} {r r' : D} (hx : X0 = .normal ∨ X0 = .ret) (h1 : resAll ρ st rs = some r') (hg : r'.ground = true) (he : r' = r) : (X0 = .normal ∨ X0 = .ret) ∧ (resAll ρ st rs).bind (finP st) = some r := by
  subst he
  exact ⟨hx, by rw [h1]; exact finP_ground hg⟩
theorem fin_bool {X0 : X} {rs : List Rs} {t u : Bool} (hx : X0 = .normal ∨ X0 = .ret) (h1 : resAll ρ st rs = some (.bool t)) (he : t = u) : (X0 = .normal ∨ X0 = .ret) ∧ (resAll ρ st rs).bind (finP st) = some (.bool u) := fin_ground hx h1 rfl (by rw [he])
theorem fin_int {X0 : X} {rs : List Rs} {κ : IntKind} {t u : Int} (hx : X0 = .normal ∨ X0 = .ret) (h1 : resAll ρ st rs = some (.int κ t)) (he : t = u) : (X0 = .normal ∨ X0 = .ret) ∧ (resAll ρ st rs).bind (finP st) = some (.int κ u) := fin_ground hx h1 rfl (by rw [he])
theorem fin_slice {t : Tok} {sz : Nat} {xs : List D} : ∃ t', finP st (.slice t sz xs) = some (.slice t' sz xs) := by
  simp only [finP, D.free, D.free1, if_true, retD, retFirst]
  cases t with
  | own k => simp only [freshen]; split <;> exact ⟨_, rfl⟩
  | _ => exact ⟨_, rfl⟩
theorem finX_S {α : Type} {e : α → D} {X0 : X} {rs : List Rs} {t : Tok} {sz s : Nat} {xs ys : List α} (hx : X0 = .normal ∨ X0 = .ret) (h1 : resAll ρ st rs = some (.slice t s (xs.map e))) (hs : s = sz ∨ xs = []) (he : xs = ys) : (X0 = .normal ∨ X0 = .ret) ∧ ∃ r, (resAll ρ st rs).bind (finP st) = some r ∧ IsS e sz ys r := by
  subst he
  obtain ⟨t', e'⟩ := fin_slice (st := st) (t := t) (sz := s) (xs := xs.map e)
  exact ⟨hx, _, by rw [h1]; exact e', t', s, rfl, hs⟩
theorem finX_N {α : Type} {e : α → D} {sz : Nat} {X0 : X} {rs : List Rs} {ys : List α} {t : Tok} {s : Nat} (ht : t.dull = true) (hs : s = sz ∨ ys = []) (h : (X0 = .normal ∨ X0 = .ret) ∧ (resAll ρ st rs).bind (finP st) = some (.slice t s (ys.map e))) : (X0 = .normal ∨ X0 = .ret) ∧ ∃ r, (resAll ρ st rs).bind (finP st) = some r ∧ IsN e sz ys r := ⟨h.1, _, h.2, t, s, rfl, hs, ht⟩
theorem finX_T {α : Type} {e : α → D} {X0 : X} {rs : List Rs} {t : Tok} {sz s : Nat} {xs ys : List α} {vs us : List D} (hx : X0 = .normal ∨ X0 = .ret) (h1 : resAll ρ st rs = some (.tuple (.slice t s (xs.map e) :: vs))) (hg : (D.tuple vs).ground = true) (hs : s = sz ∨ xs = []) (he : xs = ys) (hv : vs = us) : (X0 = .normal ∨ X0 = .ret) ∧ ∃ r, (resAll ρ st rs).bind (finP st) = some r ∧ IsT e sz ys us r := by
  subst he hv
  have hgs : ∀ w ∈ vs, w.ground = true := fun w hw => by
    simp only [D.ground, List.all_eq_true] at hg
    have := hg w hw
    cases w <;> simp_all [D.ground, D.ground1]
  have hf : (D.tuple (.slice t s (xs.map e) :: vs)).free = true := by
    have := ground_free hg
    simp only [D.free, List.all_cons, Bool.and_eq_true] at this ⊢
    exact ⟨rfl, this⟩
  have : ∃ t', finP st (.tuple (.slice t s (xs.map e) :: vs)) = some (.tuple (.slice t' s (xs.map e) :: vs)) := by
    simp only [finP, hf, if_true, retD, retFirst]
    rw [show vs.map D.strip = vs from (List.map_congr_left fun x hx => ground_strip (hgs x hx)).trans (List.map_id' _)]
    cases t with
    | own k => simp only [freshen]; split <;> exact ⟨_, rfl⟩
    | _ => exact ⟨_, rfl⟩
  obtain ⟨t', e'⟩ := this
  exact ⟨hx, _, by rw [h1]; exact e', t', s, rfl, hs⟩
theorem EvX_code {f : Nat} {cf : CF} {ds : List D} {P : D → Prop} (hf : Γ f = some (.code cf)) (hro : cf.ro = true) (h : WC Γ cf.body (enter ds) Store.empty (fun x ρ1 st1 => (x = .normal ∨ x = .ret) ∧ ∃ r, (resAll ρ1 st1 cf.res).bind (finP st1) = some r ∧ P r)) : EvX Γ f ds P := by
  obtain ⟨x, ρ1, st1, h1, h2, r, h3, h4⟩ := h
  exact ⟨r, h4, EvP_code hf hro ⟨x, ρ1, st1, h1, h2, h3⟩⟩
theorem WC_condT {x : A} {a b : C} {Q : X → (Nat → D) → Store → Prop} (hx : x.ev ρ = .bool true) (h : WC Γ a ρ st Q) : WC Γ (.cond x a b) ρ st Q := WC_cond hx (by simpa using h)
theorem WC_condF {x : A} {a b : C} {Q : X → (Nat → D) → Store → Prop} (hx : x.ev ρ = .bool false) (h : WC Γ b ρ st Q) : WC Γ (.cond x a b) ρ st Q := WC_cond hx (by simpa using h)
theorem upd_self {k : Nat} {v : D} (h : ρ k = v) : upd ρ k v = ρ := by
  funext i
  by_cases hi : i = k
  · subst hi; simp [upd, h]
  · simp [upd, hi]
end
end Go.Ev
namespace Go.Ev
theorem okF_intro {bef : List (List Nat)} {fl : List Fl} {p : Prop} (h : okFlags bef fl = true) (hp : p) : okFlags bef fl = true ∧ p := ⟨h, hp⟩
theorem w64 {x : Int} (h : -9223372036854775808 ≤ x ∧ x ≤ 9223372036854775807) : IntKind.i64.wrap x = x := IntWalk.i64_in x h
end Go.Ev
namespace Go.Ev
section
variable {Γ : Nat → Option FD} {ρ : Nat → D} {st : Store} {dr : Bool} {R : (Nat → D) → Store → List Fl → Prop} {l : List Op1} {g : Option (Nat × Bool)} {mv : Bool} {k : Option Nat}
theorem I_WS {l : List Op1} (h : WS Γ dr l ρ st R) : WS Γ dr l ρ st R := h
theorem I_mov {x : A} (h : WS Γ dr (⟨k, g, mv, .mov x⟩ :: l) ρ st R) : WS Γ dr (⟨k, g, mv, .mov x⟩ :: l) ρ st R := h
theorem I_bin {x y : A} {o : BinOp} (h : WS Γ dr (⟨k, g, mv, .bin o x y⟩ :: l) ρ st R) : WS Γ dr (⟨k, g, mv, .bin o x y⟩ :: l) ρ st R := h
theorem I_load {x : A} {a : Bool} {sz : Nat} (h : WS Γ dr (⟨k, g, mv, .load a sz x⟩ :: l) ρ st R) : WS Γ dr (⟨k, g, mv, .load a sz x⟩ :: l) ρ st R := h
theorem I_call {x : A} {as : List A} (h : WS Γ dr (⟨k, g, mv, .call x as⟩ :: l) ρ st R) : WS Γ dr (⟨k, g, mv, .call x as⟩ :: l) ρ st R := h
theorem I_store {x y : A} {sz : Nat} (h : WS Γ dr (⟨k, g, mv, .store sz x y⟩ :: l) ρ st R) : WS Γ dr (⟨k, g, mv, .store sz x y⟩ :: l) ρ st R := h
theorem I_extract {x : A} {j : Nat} (h : WS Γ dr (⟨k, g, mv, .extract x j⟩ :: l) ρ st R) : WS Γ dr (⟨k, g, mv, .extract x j⟩ :: l) ρ st R := h
theorem I_pick {x y z : A} (h : WS Γ dr (⟨k, g, mv, .pick x y z⟩ :: l) ρ st R) : WS Γ dr (⟨k, g, mv, .pick x y z⟩ :: l) ρ st R := h
theorem I_box {x : A} {sz : Nat} (h : WS Γ dr (⟨k, g, mv, .box sz x⟩ :: l) ρ st R) : WS Γ dr (⟨k, g, mv, .box sz x⟩ :: l) ρ st R := h
theorem I_build {z : List D} {f : List (Nat × Nat × A)} (h : WS Γ dr (⟨k, g, mv, .build z f⟩ :: l) ρ st R) : WS Γ dr (⟨k, g, mv, .build z f⟩ :: l) ρ st R := h
end
end Go.Ev
