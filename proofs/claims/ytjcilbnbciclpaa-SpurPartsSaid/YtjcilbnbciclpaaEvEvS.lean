/-
  Each quiet operation comes to what the evaluator says, in every world that has not changed what was read.
-/
import Derived.Test.YtjcilbnbciclpaaEvEvC
set_option linter.unusedVariables false
set_option linter.unusedSimpArgs false
set_option linter.unnecessarySimpa false
namespace Go.Ev
open Go.RowKit
structure Same (w:World) (g:Ghost) (st:Store) (w':World):Prop where
 cell:∀b o,g.S b o→w'.cell? ⟨b,o,none⟩=w.cell? ⟨b,o,none⟩
 box:∀l b x,st.boxes l=some x→g.ι l=some b→w'.heap[b]?=w.heap[b]?
theorem Same.refl (w:World) (g:Ghost) (st:Store):Same w g st w:=⟨fun _ _ _=>rfl,fun _ _ _ _ _=>rfl⟩
def QG (P:Program) (w:World) (g:Ghost) (st:Store) (s:Sem Next) (d:D):Prop:=∃v,VR w g d v∧∀w',Same w g st w'→s.run P w'=.ok (.value v) w'
def EnvR (w:World) (g:Ghost) (ρ:Nat→D) (tmps:Array Value):Prop:=∀t,VR w g (ρ t) (tmps.getD t Go.undef)
mutual
theorem dC:∀(v:Value) (d:D),aY v=some d→∀w g,VR w g d v
 | .bool b,d,h,w,g=>by simp[aY]at h;subst h;exact .bool b
 | .int k n,d,h,w,g=>by simp[aY]at h;subst h;exact .int k n
 | .string s,d,h,w,g=>by simp[aY]at h;subst h;exact .str s
 | .pointer none,d,h,w,g=>by simp[aY]at h;subst h;exact .nilptr
 | .pointer (some a),d,h,w,g=>by simp[aY]at h
 | .slice none 0 0,d,h,w,g=>by
   simp[aY]at h
   subst h
   exact .slice .isnil 0 [] none 0 0 (fun _ _=>Go.undef) rfl (Nat.le_refl _) ⟨rfl,rfl,rfl⟩ (fun i x h=>by simp at h) (fun i x j c h=>by simp at h) (fun i x j c h=>by simp at h)
 | .slice (some a) l c,d,h,w,g=>by simp[aY]at h
 | .slice none (l+1) c,d,h,w,g=>by simp[aY]at h
 | .slice none 0 (c+1),d,h,w,g=>by simp[aY]at h
 | .map none,d,h,w,g=>by simp[aY]at h;subst h;exact .nilmap
 | .map (some a),d,h,w,g=>by simp[aY]at h
 | .nilFunc,d,h,w,g=>by simp[aY]at h;subst h;exact .nilfunc
 | .agg ⟨l⟩,d,h,w,g=>by
   simp[aY]at h
   obtain⟨ds,h1,rfl⟩:=h
   obtain⟨h2,h3,h4⟩:=lR l ds h1 w g
   exact .agg ds ⟨l⟩ (by simpa using h2) h3 (fun j c v a b=>h4 j c v a (by simpa using b))
 | .float _ _,d,h,w,g=>by simp[aY]at h
 | .complex _ _ _,d,h,w,g=>by simp[aY]at h
 | .chan _,d,h,w,g=>by simp[aY]at h
 | .func _ _ _,d,h,w,g=>by simp[aY]at h
 | .iface _ _,d,h,w,g=>by simp[aY]at h
 | .nilIface,d,h,w,g=>by simp[aY]at h
 | .tuple _,d,h,w,g=>by simp[aY]at h
theorem lR:∀(vs:List Value) (ds:List D),gE vs=some ds→∀w g,ds.length=vs.length∧(∀c∈ds,c.one=true)∧∀(j:Nat) c v,ds[j]?=some c→vs[j]?=some v→VR w g c v
 |[],ds,h,w,g=>by simp[gE]at h;subst h;simp
 |v::r,ds,h,w,g=>by
  simp only[gE]at h
  cases hv:aY v with
  |none=>simp[hv]at h
  |some d=>
   cases hr:gE r with
   |none=>simp[hv,hr]at h
   |some ds'=>
    simp[hv,hr]at h
    obtain⟨h1,rfl⟩:=h
    obtain⟨h2,h3,h4⟩:=lR r ds' hr w g
    refine⟨by simp[h2],fun c hc=>?_,fun j c u a b=>?_⟩
    ·rcases List.mem_cons.1 hc with rfl|hc
     ·exact h1
     ·exact h3 c hc
    ·cases j with
     |zero=>simp at a b;subst a;subst b;exact dC v d hv w g
     |succ j=>exact h4 j c u (by simpa using a) (by simpa using b)
end
theorem bF {w:World} {g:Ghost} {ρ:Nat→D} {a:Act} (he:EnvR w g ρ a.tmps) {x:Operand} {y:A} (h:aF x=some y):VR w g (y.ev ρ) (a.eval x):=by
 cases x with
 |tmp t=>simp[aF]at h;subst h;exact he t
 |const v=>simp[aF]at h;obtain⟨d,h1,rfl⟩:=h;exact dC v d h1 w g
 |global n=>simp[aF]at h
 |func f=>simp[aF]at h;subst h;exact .func f [] #[] rfl (fun j c v h=>by simp at h)
theorem o6 {w:World} {g:Ghost} {ρ:Nat→D} {a:Act} (he:EnvR w g ρ a.tmps):∀{xs:List Operand} {ys:List A},iv xs=some ys→VRs w g (ys.map (·.ev ρ)) (xs.map a.eval)
 |[],ys,h=>by simp[iv]at h;subst h;exact⟨rfl,fun j d v h=>by simp at h⟩
 |x::xs,ys,h=>by
  simp only[iv,List.mapM_cons,Option.pure_def,Option.bind_eq_bind,Option.bind_eq_some_iff]at h
  obtain⟨y,h1,ys',h2,h3⟩:=h
  simp at h3
  subst h3
  obtain⟨h4,h5⟩:=o6 he (xs:=xs) (ys:=ys') h2
  refine⟨by simpa using h4,fun j d v a' b'=>?_⟩
  cases j with
  |zero=>simp at a' b';subst a';subst b';exact bF he h1
  |succ j=>exact h5 j d v (by simpa using a') (by simpa using b')
end Go.Ev
