/-
  Each quiet operation comes to what the evaluator says, in every world that has not changed what was read.
-/
import Derived.Test.YtcejefmekkiboaaEvEvC
set_option linter.unusedVariables false
set_option linter.unusedSimpArgs false
set_option linter.unnecessarySimpa false
namespace Go.Ev
open Go.RowKit
structure Same (w:World) (g:Ghost) (st:Store) (w':World):Prop where
 cell:∀b o,g.S b o→w'.cell? ⟨b,o,none⟩=w.cell? ⟨b,o,none⟩
 box:∀l b x,st.boxes l=some x→g.ι l=some b→w'.heap[b]?=w.heap[b]?
theorem Same.refl (w:World) (g:Ghost) (st:Store):Same w g st w:=⟨fun _ _ _=>rfl,fun _ _ _ _ _=>rfl⟩
def QG (P:Program) (w:World) (g:Ghost) (st:Store) (s:Sem Next) (d:D):Prop:=∃v,VR w g d v∧∀w',Same w g st w'→s.run P w'=.ok (.value v) w'
def EnvR (w:World) (g:Ghost) (ρ:Nat→D) (tmps:Array Value):Prop:=∀t,VR w g (ρ t) (tmps.getD t Go.undef)
mutual
theorem fj:∀(v:Value) (d:D),bw v=some d→∀w g,VR w g d v
 | .bool b,d,h,w,g=>by simp[bw]at h;subst h;exact .bool b
 | .int k n,d,h,w,g=>by simp[bw]at h;subst h;exact .int k n
 | .string s,d,h,w,g=>by simp[bw]at h;subst h;exact .str s
 | .pointer none,d,h,w,g=>by simp[bw]at h;subst h;exact .nilptr
 | .pointer (some a),d,h,w,g=>by simp[bw]at h
 | .slice none 0 0,d,h,w,g=>by
   simp[bw]at h
   subst h
   exact .slice .isnil 0 [] none 0 0 (fun _ _=>Go.undef) rfl (Nat.le_refl _) ⟨rfl,rfl,rfl⟩ (fun i x h=>by simp at h) (fun i x j c h=>by simp at h) (fun i x j c h=>by simp at h)
 | .slice (some a) l c,d,h,w,g=>by simp[bw]at h
 | .slice none (l+1) c,d,h,w,g=>by simp[bw]at h
 | .slice none 0 (c+1),d,h,w,g=>by simp[bw]at h
 | .map none,d,h,w,g=>by simp[bw]at h;subst h;exact .nilmap
 | .map (some a),d,h,w,g=>by simp[bw]at h
 | .nilFunc,d,h,w,g=>by simp[bw]at h;subst h;exact .nilfunc
 | .agg ⟨l⟩,d,h,w,g=>by
   simp[bw]at h
   obtain⟨ds,h1,rfl⟩:=h
   obtain⟨h2,h3,h4⟩:=oY l ds h1 w g
   exact .agg ds ⟨l⟩ (by simpa using h2) h3 (fun j c v a b=>h4 j c v a (by simpa using b))
 | .float _ _,d,h,w,g=>by simp[bw]at h
 | .complex _ _ _,d,h,w,g=>by simp[bw]at h
 | .chan _,d,h,w,g=>by simp[bw]at h
 | .func _ _ _,d,h,w,g=>by simp[bw]at h
 | .iface _ _,d,h,w,g=>by simp[bw]at h
 | .nilIface,d,h,w,g=>by simp[bw]at h
 | .tuple _,d,h,w,g=>by simp[bw]at h
theorem oY:∀(vs:List Value) (ds:List D),jW vs=some ds→∀w g,ds.length=vs.length∧(∀c∈ds,c.one=true)∧∀(j:Nat) c v,ds[j]?=some c→vs[j]?=some v→VR w g c v
 |[],ds,h,w,g=>by simp[jW]at h;subst h;simp
 |v::r,ds,h,w,g=>by
  simp only[jW]at h
  cases hv:bw v with
  |none=>simp[hv]at h
  |some d=>
   cases hr:jW r with
   |none=>simp[hv,hr]at h
   |some ds'=>
    simp[hv,hr]at h
    obtain⟨h1,rfl⟩:=h
    obtain⟨h2,h3,h4⟩:=oY r ds' hr w g
    refine⟨by simp[h2],fun c hc=>?_,fun j c u a b=>?_⟩
    ·rcases List.mem_cons.1 hc with rfl|hc
     ·exact h1
     ·exact h3 c hc
    ·cases j with
     |zero=>simp at a b;subst a;subst b;exact fj v d hv w g
     |succ j=>exact h4 j c u (by simpa using a) (by simpa using b)
end
theorem co {w:World} {g:Ghost} {ρ:Nat→D} {a:Act} (he:EnvR w g ρ a.tmps) {x:Operand} {y:A} (h:aT x=some y):VR w g (y.ev ρ) (a.eval x):=by
 cases x with
 |tmp t=>simp[aT]at h;subst h;exact he t
 |const v=>simp[aT]at h;obtain⟨d,h1,rfl⟩:=h;exact fj v d h1 w g
 |global n=>simp[aT]at h
 |func f=>simp[aT]at h;subst h;exact .func f [] #[] rfl (fun j c v h=>by simp at h)
theorem rR {w:World} {g:Ghost} {ρ:Nat→D} {a:Act} (he:EnvR w g ρ a.tmps):∀{xs:List Operand} {ys:List A},kF xs=some ys→VRs w g (ys.map (·.ev ρ)) (xs.map a.eval)
 |[],ys,h=>by simp[kF]at h;subst h;exact⟨rfl,fun j d v h=>by simp at h⟩
 |x::xs,ys,h=>by
  simp only[kF,List.mapM_cons,Option.pure_def,Option.bind_eq_bind,Option.bind_eq_some_iff]at h
  obtain⟨y,h1,ys',h2,h3⟩:=h
  simp at h3
  subst h3
  obtain⟨h4,h5⟩:=rR he (xs:=xs) (ys:=ys') h2
  refine⟨by simpa using h4,fun j d v a' b'=>?_⟩
  cases j with
  |zero=>simp at a' b';subst a';subst b';exact co he h1
  |succ j=>exact h5 j d v (by simpa using a') (by simpa using b')
end Go.Ev
namespace Go.Ev
open Go.RowKit
theorem HK (P:Program) (op:BinOp) (t:TypeId) (x y:Operand) (k:IntKind) (a:Int) (v:Value) (w:World):(eqGuard op t x y (.int k a) v).run P w=.ok () w:=by
 unfold eqGuard
 split<;>simp
theorem kg (P:Program) (op:BinOp) (t:TypeId) (x y:Operand) (a:Bool) (v:Value) (w:World):(eqGuard op t x y (.bool a) v).run P w=.ok () w:=by
 unfold eqGuard
 split<;>simp
theorem dY (P:Program) (op:BinOp) (t:TypeId) (x y:Operand) (a:Option Addr) (l c:Nat) (v:Value) (w:World):(eqGuard op t x y (.slice a l c) v).run P w=.ok () w:=by
 unfold eqGuard
 split<;>simp
theorem fe (P:Program) (op:BinOp) (t:TypeId) (x y:Operand) (a:Option Addr) (v:Value) (w:World):(eqGuard op t x y (.pointer a) v).run P w=.ok () w:=by
 unfold eqGuard
 split<;>simp
theorem E0 (P:Program) (op:BinOp) (T:TypeId) {a b d:D} (h:il op a b=some d) {w:World} {g:Ghost} {u v:Value} (ha:VR w g a u) (hb:VR w g b v):
  ∃r,VR w g d r∧(∃k n,u=.int k n)∧∀w',(binOp op T u v).run P w'=.ok r w':=by
 cases a<;>try (simp[il]at h;done)
 cases b<;>try (simp[il]at h;done)
 rename_i k x k' y
 cases ha.int_inv
 cases hb.int_inv
 cases op<;>simp only[il]at h
 case shl=>
  by_cases hy:0≤y
  ·simp[hy]at h;subst h
   exact⟨_,.int _ _,⟨k,x,rfl⟩,fun w'=>by simp[binOp,Op.shift,show¬y<0 by omega]⟩
  ·simp[hy]at h
 case shr=>
  by_cases hy:0≤y
  ·simp[hy]at h;subst h
   exact⟨_,.int _ _,⟨k,x,rfl⟩,fun w'=>by simp[binOp,Op.shift,show¬y<0 by omega]⟩
  ·simp[hy]at h
 all_goals
  rcases Classical.em (k=k')with hk|hk
  ·subst hk
   simp at h<;>first
   |(subst h;exact⟨_,.int _ _,⟨k,x,rfl⟩,fun w'=>by simp[binOp,Op.intArith,Op.intBits,Op.intCmp]⟩)
   |(subst h;exact⟨_,.bool _,⟨k,x,rfl⟩,fun w'=>by simp[binOp,Op.intArith,Op.intBits,Op.intCmp]⟩)
   |(obtain⟨h0,rfl⟩:=h;exact⟨_,.int _ _,⟨k,x,rfl⟩,fun w'=>by simp[binOp,Op.intDiv,h0]⟩)
  ·simp[hk]at h
/-! ### Cells, loads -/
theorem cq {P:Program} {t:TypeId} {b:Bool} (h:bN P t=some b) (w:World):(isAgg t).run P w=.ok b w:=by
 unfold bN at h
 cases hu:P.underlying t with
 |none=>simp[hu]at h
 |some u=>
  unfold isAgg
  simp only[Sem.run_bind,run_underlying hu,Result.andThen_ok]
  rw[hu]at h
  cases u<;>simp_all
theorem bO {P:Program} {t:TypeId} {n:Nat} (h:eO P t=some n) (w:World):(sizeOf t).run P w=.ok n w:=by
 unfold eO at h
 cases hi:P.info? t with
 |none=>simp[hi]at h
 |some i=>simp[hi]at h;simp[sizeOf,typeInfo,hi,h]
theorem dj (ad:Addr) (hs:ad.spot=none) (k:Nat):ad.add k=⟨ad.block,ad.off+k,none⟩:=by
 unfold Addr.add
 split
 ·rename_i h;subst h;cases ad;simp_all
 ·rfl
theorem tS {P:Program} {T:TypeId} {agg:Bool} {sz:Nat} (hA:bN P T=some agg) (hz:eO P T=some sz) {w:World} {g:Ghost} (b off:Nat) (cs:List D) (vals:Nat→Value) {d:D}
  (hd:cut agg sz off cs=some d) (ho:∀c∈cs,c.one=true) (hv:∀(j:Nat) c,cs[j]?=some c→VR w g c (vals j)):
  ∃r,VR w g d r∧∀(w':World) (base:Nat),(∀j,j<cs.length→w'.cell? ⟨b,base+j,none⟩=some (vals j))→(Instr.loadAt T (.pointer (some ⟨b,base+off,none⟩))).run P w'=.ok r w':=by
 unfold cut at hd
 split at hd<;>try contradiction
 rename_i hle
 cases agg with
 |true=>
  simp at hd
  subst hd
  refine⟨.agg ((List.range sz).map fun j=>vals (off+j)).toArray,?_,fun w' base hc=>?_⟩
  ·refine .agg _ _ (by simp;omega) (fun c hc=>ho c (List.mem_of_mem_drop (List.mem_of_mem_take hc))) (fun j c v h1 h2=>?_)
   have hj:j<sz:=by
    have:=(List.getElem?_eq_some_iff.1 h1).1
    simp at this;omega
   rw[List.getElem?_take_of_lt hj,List.getElem?_drop]at h1
   simp[hj]at h2
   subst h2
   exact hv _ _ h1
  ·simp only[Instr.loadAt,Instr.sureAddr,loadVar,Sem.run_bind,Sem.run_pure,Result.andThen_ok,cq hA,if_true,bO hz]
   rw[run_loadCells w' ⟨b,base+off,none⟩ sz (fun j=>vals (off+j)) (fun j hj=>by
    rw[dj _ rfl]
    have:=hc (off+j) (by omega)
    simpa[Nat.add_assoc]using this)]
   rfl
 |false=>
  simp at hd
  obtain⟨h1,h2⟩:=hd
  subst h1
  refine⟨vals off,hv _ _ h2,fun w' base hc=>?_⟩
  simp only[Instr.loadAt,Instr.sureAddr,loadVar,Sem.run_bind,Sem.run_pure,Result.andThen_ok,cq hA]
  simp[run_load,hc off (by omega)]
end Go.Ev
namespace Go.Ev
open Go.RowKit
section
variable {P:Program} {B:Nat} {w:World} {g:Ghost} {ρ:Nat→D} {st st':Store} {a:Act} {d:D} {o:Oper} {x:O}
theorem Bm {y:Operand} (ho:o.op=.move y∨o.op=.assign y) (hc:aq P o.op=some x) (hr:x.run ρ st=some (d,st')) (he:EnvR w g ρ a.tmps):st'=st∧QG P w g st (execOp a.eval o) d:=by
 rcases ho with ho|ho
 all_goals
  rw[ho]at hc
  simp[aq,Option.bind_eq_some_iff]at hc
  obtain⟨y',hy,rfl⟩:=hc
  simp[O.run]at hr
  obtain⟨rfl,rfl⟩:=hr
  exact⟨rfl,_,co he hy,fun w' _=>by simp[execOp,ho]⟩
theorem Fv {c y z:Operand} (ho:o.op=.pick c y z) (hc:aq P o.op=some x) (hr:x.run ρ st=some (d,st')) (he:EnvR w g ρ a.tmps):st'=st∧QG P w g st (execOp a.eval o) d:=by
 rw[ho]at hc
 simp[aq,Option.bind_eq_some_iff]at hc
 obtain⟨c',hc',y',hy,z',hz,rfl⟩:=hc
 have h1:=co he hc'
 simp only[O.run]at hr
 cases hcv:c'.ev ρ<;>simp[hcv]at hr
 rename_i t
 obtain⟨rfl,rfl⟩:=hr
 rw[hcv]at h1
 have h1:=h1.bool_inv
 refine⟨rfl,if t then a.eval y else a.eval z,?_,fun w' _=>by simp[execOp,ho,h1,asBool]⟩
 cases t
 ·exact co he hz
 ·exact co he hy
theorem VR.slice_inv {t:Tok} {sz:Nat} {xs:List D} {v:Value} (h:VR w g (.slice t sz xs) v):∃(A:Option Addr) (cap:Nat) (vals:Nat→Nat→Value),v=.slice A xs.length cap∧xs.length≤cap∧TokOK g.τ t sz A xs.length cap∧
  (∀(i:Nat) (x:D),xs[i]?=some x→x.cells.length=sz∧∀c∈x.cells,c.plain=true)∧
  (∀(i:Nat) (x:D) (j:Nat) (c:D),xs[i]?=some x→x.cells[j]?=some c→∃ad,A=some ad∧g.S ad.block (ad.off+(i*sz+j))∧ad.spot=none∧w.cell? ⟨ad.block,ad.off+(i*sz+j),none⟩=some (vals i j))∧
  (∀(i:Nat) (x:D) (j:Nat) (c:D),xs[i]?=some x→x.cells[j]?=some c→VR w g c (vals i j)):=by
 cases h with
 |slice t sz xs A len cap vals hl hc ht hs hA hv=>subst hl;exact⟨A,cap,vals,rfl,hc,ht,hs,hA,hv⟩
theorem VR.eptr_inv {sz i off:Nat} {xs:List D} {v:Value} (h:VR w g (.eptr sz xs i off) v):∃(ad:Addr) (vals:Nat→Nat→Value),v=.pointer (some ⟨ad.block,ad.off+(i*sz+off),none⟩)∧ad.spot=none∧
  (∀(i:Nat) (x:D),xs[i]?=some x→x.cells.length=sz∧∀c∈x.cells,c.plain=true)∧
  (∀(i:Nat) (x:D) (j:Nat) (c:D),xs[i]?=some x→x.cells[j]?=some c→g.S ad.block (ad.off+(i*sz+j))∧w.cell? ⟨ad.block,ad.off+(i*sz+j),none⟩=some (vals i j))∧
  (∀(i:Nat) (x:D) (j:Nat) (c:D),xs[i]?=some x→x.cells[j]?=some c→VR w g c (vals i j)):=by
 cases h with
 |eptr sz xs i off ad vals hs hsp hA hv=>exact⟨ad,vals,rfl,hsp,hs,hA,hv⟩
theorem VR.ptr_inv {l off:Nat} {v:Value} (h:VR w g (.ptr l off) v):∃b,g.ι l=some b∧v=.pointer (some ⟨b,off,none⟩):=by cases h;exact⟨_,‹_›,rfl⟩
theorem VR.rs_inv {l off sz n c:Nat} {v:Value} (h:VR w g (.rs l off sz n c) v):∃(b o cap:Nat) (vs:Array Value) (T:TypeId),v=.slice (some ⟨b,o,none⟩) n cap∧g.ι l=some b∧w.heap[b]?=some (.cells vs T (0,0))∧(o=off∨cap=0)∧n≤c∧c≤cap∧off+cap*sz≤vs.size:=by
 cases h with
 |rs l off sz n c b o cap vs T h hb ho hn hc hk=>exact⟨b,o,cap,vs,T,rfl,h,hb,ho,hn,hc,hk⟩
theorem VR.nilptr_inv {v:Value} (h:VR w g .nilptr v):v=.pointer none:=by cases h;rfl
theorem Fe {op:UnOp} {T:TypeId} {y:Operand} (ho:o.op=.unOp op T y) (hc:aq P o.op=some x) (hr:x.run ρ st=some (d,st')) (he:EnvR w g ρ a.tmps):st'=st∧QG P w g st (execOp a.eval o) d:=by
 rw[ho]at hc
 simp[aq,Option.bind_eq_some_iff]at hc
 obtain⟨y',hy,hc⟩:=hc
 have h1:=co he hy
 cases op<;>simp at hc
 all_goals
  subst hc
  simp only[O.run]at hr
  cases hcv:y'.ev ρ<;>simp[hcv]at hr
  obtain⟨rfl,rfl⟩:=hr
  rw[hcv]at h1
 ·have h1:=h1.int_inv
  exact⟨rfl,_,.int _ _,fun w' _=>by simp[execOp,ho,h1,Op.unary,Op.intArith]⟩
 ·have h1:=h1.bool_inv
  exact⟨rfl,_,.bool _,fun w' _=>by simp[execOp,ho,h1,Op.unary]⟩
theorem EP {s t:TypeId} {y:Operand} (ho:o.op=.convert s t y) (hc:aq P o.op=some x) (hr:x.run ρ st=some (d,st')) (he:EnvR w g ρ a.tmps):st'=st∧QG P w g st (execOp a.eval o) d:=by
 rw[ho]at hc
 simp only[aq]at hc
 split at hc<;>try contradiction
 rename_i ks kt hs ht
 simp[Option.bind_eq_some_iff]at hc
 obtain⟨y',hy,rfl⟩:=hc
 have h1:=co he hy
 simp only[O.run]at hr
 cases hcv:y'.ev ρ<;>simp[hcv]at hr
 obtain⟨rfl,rfl⟩:=hr
 rw[hcv]at h1
 have h1:=h1.int_inv
 exact⟨rfl,_,.int _ _,fun w' _=>by simp[execOp,ho,h1,convert,run_underlying hs,run_underlying ht,Conv.intToInt]⟩
theorem xK {y:Operand} (ho:o.op=.nilCheck y) (hc:aq P o.op=some x) (hr:x.run ρ st=some (d,st')) (he:EnvR w g ρ a.tmps):st'=st∧QG P w g st (execOp a.eval o) d:=by
 rw[ho]at hc
 simp[aq,Option.bind_eq_some_iff]at hc
 obtain⟨y',hy,rfl⟩:=hc
 have h1:=co he hy
 simp only[O.run]at hr
 cases hcv:y'.ev ρ<;>simp[hcv]at hr
 all_goals
  obtain⟨rfl,rfl⟩:=hr
  rw[hcv]at h1
  refine⟨rfl,_,h1,fun w' _=>?_⟩
  generalize hu:a.eval y=u at h1
  cases h1
  simp[execOp,ho,hu]
theorem Ae {y:Operand} {i:Nat} (ho:o.op=.extract y i) (hc:aq P o.op=some x) (hr:x.run ρ st=some (d,st')) (he:EnvR w g ρ a.tmps):st'=st∧QG P w g st (execOp a.eval o) d:=by
 rw[ho]at hc
 simp[aq,Option.bind_eq_some_iff]at hc
 obtain⟨y',hy,rfl⟩:=hc
 have h1:=co he hy
 simp only[O.run]at hr
 cases hcv:y'.ev ρ<;>simp[hcv]at hr
 rename_i vs
 obtain⟨r,hr,rfl,rfl⟩:=hr
 rw[hcv]at h1
 generalize hu:a.eval y=u at h1
 cases h1
 rename_i us hl hv
 have hi:i<us.size:=by have:=(List.getElem?_eq_some_iff.1 hr).1;omega
 have hui:us[i]?=some us[i]:=Array.getElem?_eq_getElem hi
 exact⟨rfl,us[i],hv i r _ hr hui,fun w' _=>by simp[execOp,ho,hu,Instr.extract,hui]⟩
theorem xv {f:Fn} {fi caps:Array Operand} (ho:o.op=.makeFunc f fi caps) (hc:aq P o.op=some x) (hr:x.run ρ st=some (d,st')) (he:EnvR w g ρ a.tmps):st'=st∧QG P w g st (execOp a.eval o) d:=by
 rw[ho]at hc
 cases f<;>simp[aq,Option.bind_eq_some_iff]at hc
 rename_i f
 obtain⟨hf,ys,hy,rfl⟩:=hc
 obtain⟨h1,h2⟩:=rR he hy
 simp[O.run]at hr
 obtain⟨rfl,rfl⟩:=hr
 subst hf
 exact⟨rfl,_,.func f _ (caps.map a.eval) (by simpa using h1) (fun j c v h3 h4=>h2 j c v h3 (by simpa using h4)),fun w' _=>by simp[execOp,ho,Instr.makeFunc]⟩
theorem TokOK.strip {τ:Nat→Option RowInfo} {t:Tok} {sz:Nat} {A:Option Addr} {len cap:Nat} (h:TokOK τ t sz A len cap):TokOK τ t.strip sz A len cap:=by
 cases t<;>first|exact trivial|exact h
theorem VR.strip1 {c:D} {v:Value} (h:VR w g c v):VR w g c.strip1 v:=by
 cases h<;>first|(constructor<;>assumption)|skip
 rename_i t sz xs A len cap vals hl hc ht hs hA hv
 exact .slice t.strip sz xs A len cap vals hl hc ht.strip hs hA hv
theorem D.one_strip1 {c:D} (h:c.one=true):c.strip1.one=true:=by cases c<;>simp_all[D.strip1,D.one]
theorem bK {w:World} {b:Nat} {vs:Array Value} {T:TypeId} {fr:Nat×Nat} (h:w.heap[b]?=some (.cells vs T fr)) (j:Nat):w.cell? ⟨b,j,none⟩=vs[j]?:=by simp[World.cell?,h]
theorem BoxR.cs_inv {b:Nat} {x:Box} {cs:List D} (h:BoxR w g b x) (hx:x.cs=some cs):
  ∃(vs:Array Value) (T:TypeId),w.heap[b]?=some (.cells vs T (0,0))∧cs.length≤vs.size∧(∀c∈cs,c.one=true)∧(∀(j:Nat) c v,cs[j]?=some c→vs[j]?=some v→VR w g c v):=by
 cases x with
 |cells cs'=>cases hx;obtain⟨vs,T,h1,h2,h3⟩:=h;exact⟨vs,T,h1,by omega,h3⟩
 |row cs'=>cases hx;exact h
 |map kv=>cases hx
 |mapE kv es cl=>cases hx
 |iter m es cl ks=>cases hx
theorem mz (hrel:Rel B w g st) {l b:Nat} {cs:List D} (hcs:st.cellsAt l=some cs) (hb:g.ι l=some b):
  ∃(vs:Array Value) (T:TypeId),w.heap[b]?=some (.cells vs T (0,0))∧cs.length≤vs.size∧(∀c∈cs,c.one=true)∧(∀(j:Nat) c,cs[j]?=some c→VR w g c (vs.getD j Go.undef))∧∃x,st.boxes l=some x:=by
 unfold Store.cellsAt at hcs
 cases hbx:st.boxes l with
 |none=>simp[hbx]at hcs
 |some bx=>
  cases hcs0:bx.cs with
  |none=>simp[hbx,hcs0]at hcs
  |some cs0=>
   simp[hbx,hcs0]at hcs
   obtain⟨b',hb',_,_,hbr⟩:=hrel.box _ _ hbx
   obtain⟨vs,T',hh,hl,ho,hv⟩:=BoxR.cs_inv hbr hcs0
   have:b'=b:=by rw[hb]at hb';exact(Option.some.inj hb').symm
   subst this
   have hv':∀(j:Nat) c,cs0[j]?=some c→VR w g c (vs.getD j Go.undef):=fun j c hj=>by
    have hlt:j<vs.size:=by have:=(List.getElem?_eq_some_iff.1 hj).1;omega
    exact hv j c _ hj (by simp[Array.getD,hlt])
   refine⟨vs,T',hh,?_,?_,?_,_,rfl⟩
   ·subst hcs;split<;>simp[hl]
   ·subst hcs
    split
    ·intro c hc
     obtain⟨c0,h0,rfl⟩:=List.mem_map.1 hc
     exact D.one_strip1 (ho c0 h0)
    ·exact ho
   ·subst hcs
    split
    ·intro j c hj
     simp at hj
     obtain⟨c0,h0,rfl⟩:=hj
     exact(hv' j c0 h0).strip1
    ·exact hv'
theorem EH {T:TypeId} {y:Operand} (ho:o.op=.load T y) (hc:aq P o.op=some x) (hr:x.run ρ st=some (d,st')) (he:EnvR w g ρ a.tmps) (hrel:Rel B w g st):st'=st∧QG P w g st (execOp a.eval o) d:=by
 rw[ho]at hc
 simp only[aq,Option.bind_eq_bind,Option.bind_eq_some_iff,Option.some.injEq]at hc
 obtain⟨ag,hag,sz,hsz,y',hy,rfl⟩:=hc
 have h1:=co he hy
 simp only[O.run]at hr
 cases hcv:y'.ev ρ<;>simp[hcv,Option.bind_eq_some_iff]at hr
 case ptr l off=>
  obtain⟨cs,hcs,d',hd,rfl,rfl⟩:=hr
  rw[hcv]at h1
  obtain⟨b,hb,hu⟩:=VR.ptr_inv h1
  obtain⟨vs,T',hh,hl,ho',hv,bx,hbx⟩:=mz hrel hcs hb
  obtain⟨r,hr1,hr2⟩:=tS (P:=P) (T:=T) hag hsz b off cs (fun j=>vs.getD j Go.undef) hd ho' hv
  refine⟨rfl,r,hr1,fun w' hs=>?_⟩
  have hh':=(hs.box l b bx hbx hb).trans hh
  have:=hr2 w' 0 (fun j hj=>by
   have hlt:j<vs.size:=by omega
   simp[bK hh',Array.getD,hlt])
  simp only[Nat.zero_add]at this
  simp[execOp,ho,hu,this]
 case eptr s xs i off=>
  obtain⟨x,hx,d',hd,rfl,rfl⟩:=hr
  rw[hcv]at h1
  obtain⟨ad,vals,hu,hsp,hs,hA,hv⟩:=h1.eptr_inv
  obtain⟨r,hr1,hr2⟩:=tS (P:=P) (T:=T) (w:=w) (g:=g) hag hsz ad.block off x.cells (fun j=>vals i j) hd (fun c hc=>D.plain_one ((hs i x hx).2 c hc)) (fun j c hj=>hv i x j c hx hj)
  refine⟨rfl,r,hr1,fun w' hsm=>?_⟩
  have:=hr2 w' (ad.off+i*s) (fun j hj=>by
   have h3:=hA i x j (x.cells[j]) hx (List.getElem?_eq_getElem hj)
   have h4:=(hsm.cell _ _ h3.1).trans h3.2
   simpa[Nat.add_assoc]using h4)
  simp only[Nat.add_assoc]at this
  simp[execOp,ho,hu,Nat.add_assoc,this]
theorem wv {T:TypeId} {y:Operand} {f:Nat} (ho:o.op=.fieldAddr T y f) (hc:aq P o.op=some x) (hr:x.run ρ st=some (d,st')) (he:EnvR w g ρ a.tmps):st'=st∧QG P w g st (execOp a.eval o) d:=by
 rw[ho]at hc
 simp only[aq,Option.bind_eq_bind,Option.bind_eq_some_iff]at hc
 split at hc<;>try contradiction
 rename_i fs hfs
 simp only[Option.bind_eq_some_iff]at hc
 obtain⟨fd,hfd,sz,hsz,hc⟩:=hc
 split at hc<;>try contradiction
 rename_i hnz
 simp only[Option.bind_eq_some_iff,Option.some.injEq]at hc
 obtain⟨y',hy,rfl⟩:=hc
 have h1:=co he hy
 simp only[O.run]at hr
 have hrun:∀(ad:Addr) (w':World),(Instr.fieldAt T (.pointer (some ad)) f).run P w'=.ok (.pointer (some (ad.add fd.offset))) w':=fun ad w'=>by
  simp[Instr.fieldAt,run_underlying hfs,hfd,Instr.sureAddr,fieldPlace,bO hsz,hnz]
 cases hcv:y'.ev ρ<;>simp[hcv]at hr
 case ptr l off=>
  obtain⟨rfl,rfl⟩:=hr
  rw[hcv]at h1
  obtain⟨b,hb,hu⟩:=VR.ptr_inv h1
  exact⟨rfl,_,.ptr l (off+fd.offset) b hb,fun w' _=>by simp[execOp,ho,hu,hrun,dj]⟩
 case eptr s xs i off=>
  obtain⟨rfl,rfl⟩:=hr
  rw[hcv]at h1
  obtain⟨ad,vals,hu,hsp,hs,hA,hv⟩:=h1.eptr_inv
  exact⟨rfl,_,.eptr s xs i (off+fd.offset) ad vals hs hsp hA hv,fun w' _=>by simp[execOp,ho,hu,hrun,dj,Nat.add_assoc]⟩
theorem dL {c:D} {n:Nat} (h:bL c=some n) {v:Value} (hv:VR w g c v):∃k,v=.int k (n:Int):=by
 cases c<;>simp[bL]at h
 rename_i k m
 obtain⟨h1,h2⟩:=h
 cases hv.int_inv
 exact⟨k,by rw[←h2];simp;omega⟩
theorem vO {T:TypeId} {y z:Operand} (ho:o.op=.indexAddr T y z) (hc:aq P o.op=some x) (hr:x.run ρ st=some (d,st')) (he:EnvR w g ρ a.tmps):st'=st∧QG P w g st (execOp a.eval o) d:=by
 rw[ho]at hc
 simp only[aq,Option.bind_eq_bind,Option.bind_eq_some_iff]at hc
 split at hc<;>try contradiction
 ·rename_i e he'
  simp only[Option.bind_eq_some_iff]at hc
  obtain⟨sz,hsz,hc⟩:=hc
  split at hc<;>try contradiction
  rename_i hnz
  simp only[Option.bind_eq_some_iff,Option.some.injEq]at hc
  obtain⟨y',hy,z',hz,rfl⟩:=hc
  have h1:=co he hy
  have h2:=co he hz
  simp only[O.run]at hr
  split at hr<;>try contradiction
  ·rename_i t s xs i hcv hi
   split at hr<;>try contradiction
   rename_i hlt
   obtain⟨hlt,rfl⟩:=hlt
   simp at hr
   obtain⟨rfl,rfl⟩:=hr
   obtain⟨k,hk⟩:=dL hi h2
   rw[hcv]at h1
   obtain⟨A,cap,vals,hu,hcp,ht,hs,hA,hv⟩:=h1.slice_inv
   have hxi:xs[i]?=some xs[i]:=List.getElem?_eq_getElem hlt
   have h0:=(hs i xs[i] hxi).1
   obtain⟨ad,rfl,_,hsp,_⟩:=hA i xs[i] 0 (xs[i].cells[0]'(by omega)) hxi (List.getElem?_eq_getElem (by omega))
   refine⟨rfl,_,.eptr s xs i 0 ad vals hs hsp (fun i x j c p q=>?_) hv,fun w' _=>?_⟩
   ·obtain⟨ad',e1,e2,_,e3⟩:=hA i x j c p q
    cases e1
    exact⟨e2,e3⟩
   ·simp[execOp,ho,hu,hk,Instr.indexAt,asIntOf,run_underlying he',hlt,bO hsz,dj,hsp]
  ·rename_i l off s n c i hcv hi
   split at hr<;>try contradiction
   rename_i hlt
   obtain⟨hlt,rfl⟩:=hlt
   simp at hr
   obtain⟨rfl,rfl⟩:=hr
   obtain⟨k,hk⟩:=dL hi h2
   rw[hcv]at h1
   obtain⟨b,o',cap,vs,T',hu,hb,_,hoo,hn,hcc,_⟩:=h1.rs_inv
   have:o'=off:=by omega
   subst this
   exact⟨rfl,_,.ptr l (o'+i*s) b hb,fun w' _=>by simp[execOp,ho,hu,hk,Instr.indexAt,asIntOf,run_underlying he',hlt,bO hsz,dj]⟩
 ·rename_i n e he'
  split at hc<;>try contradiction
  rename_i hn1
  simp only[Option.bind_eq_some_iff,Option.some.injEq]at hc
  obtain⟨sz,hsz,y',hy,z',hz,rfl⟩:=hc
  have h1:=co he hy
  have h2:=co he hz
  simp only[O.run]at hr
  have hrun:∀(ad:Addr) (k:IntKind) (i:Nat) (w':World),i<n→(Instr.indexAt T (.pointer (some ad)) (.int k (i:Int))).run P w'=.ok (.pointer (some (ad.add (i*sz)))) w':=fun ad k i w' hi=>by
   simp[Instr.indexAt,asIntOf,run_underlying he',Instr.sureAddr,hi,bO hsz]
  split at hr<;>try contradiction
  ·rename_i l off i hcv hi
   split at hr<;>try contradiction
   rename_i hlt
   simp at hr
   obtain⟨rfl,rfl⟩:=hr
   obtain⟨k,hk⟩:=dL hi h2
   rw[hcv]at h1
   obtain⟨b,hb,hu⟩:=VR.ptr_inv h1
   exact⟨rfl,_,.ptr l (off+i*sz) b hb,fun w' _=>by simp[execOp,ho,hu,hk,hrun _ _ _ _ hlt,dj]⟩
  ·rename_i s xs m off i hcv hi
   split at hr<;>try contradiction
   rename_i hlt
   simp at hr
   obtain⟨rfl,rfl⟩:=hr
   obtain⟨k,hk⟩:=dL hi h2
   rw[hcv]at h1
   obtain⟨ad,vals,hu,hsp,hs,hA,hv⟩:=h1.eptr_inv
   exact⟨rfl,_,.eptr s xs m (off+i*sz) ad vals hs hsp hA hv,fun w' _=>by simp[execOp,ho,hu,hk,hrun _ _ _ _ hlt,dj,Nat.add_assoc]⟩
end
end Go.Ev
namespace Go.Ev
open Go.RowKit
section
variable {P:Program} {B:Nat} {w:World} {g:Ghost} {ρ:Nat→D} {st st':Store} {a:Act} {d:D} {o:Oper} {x:O}
theorem VR.agg_inv {cs:List D} {v:Value} (h:VR w g (.agg cs) v):∃vs:Array Value,v=.agg vs∧cs.length=vs.size∧(∀c∈cs,c.one=true)∧∀(j:Nat) c v,cs[j]?=some c→vs[j]?=some v→VR w g c v:=by
 cases h with
 |agg cs vs hl ho hv=>exact⟨vs,rfl,hl,ho,hv⟩
theorem C8 {T:TypeId} {agg:Bool} {sz:Nat} (hA:bN P T=some agg) (hz:eO P T=some sz) {cs:List D} {vs:Array Value} (hl:cs.length=vs.size) (ho:∀c∈cs,c.one=true)
  (hv:∀(j:Nat) c v,cs[j]?=some c→vs[j]?=some v→VR w g c v) {off:Nat} (hd:cut agg sz off cs=some d):∃r,VR w g d r∧∀w',(part T vs off).run P w'=.ok r w':=by
 unfold cut at hd
 split at hd<;>try contradiction
 rename_i hle
 cases agg with
 |true=>
  simp at hd
  subst hd
  refine⟨.agg (vs.extract off (off+sz)),.agg _ _ (by simp;omega) (fun c hc=>ho c (List.mem_of_mem_drop (List.mem_of_mem_take hc))) (fun j c v h1 h2=>?_),fun w'=>by simp[part,cq hA,bO hz]⟩
  have hj:j<sz:=by
   have:=(List.getElem?_eq_some_iff.1 h1).1
   simp at this;omega
  rw[List.getElem?_take_of_lt hj,List.getElem?_drop]at h1
  rw[Array.getElem?_extract]at h2
  split at h2<;>try contradiction
  exact hv _ _ _ h1 h2
 |false=>
  simp at hd
  obtain⟨h1,h2⟩:=hd
  have hlt:=(List.getElem?_eq_some_iff.1 h2).1
  have hvo:vs[off]?=some vs[off]:=Array.getElem?_eq_getElem (by omega)
  exact⟨vs[off],hv _ _ _ h2 hvo,fun w'=>by simp[part,cq hA,hvo]⟩
theorem CR {T:TypeId} {y z:Operand} (ho:o.op=.index T y z) (hc:aq P o.op=some x) (hr:x.run ρ st=some (d,st')) (he:EnvR w g ρ a.tmps):st'=st∧QG P w g st (execOp a.eval o) d:=by
 rw[ho]at hc
 simp only[aq,Option.bind_eq_bind,Option.bind_eq_some_iff]at hc
 split at hc<;>try contradiction
 rename_i n e he'
 simp only[Option.bind_eq_some_iff,Option.some.injEq]at hc
 obtain⟨sz,hsz,ag,hag,y',hy,z',hz,rfl⟩:=hc
 have h1:=co he hy
 have h2:=co he hz
 simp only[O.run]at hr
 split at hr<;>try contradiction
 rename_i cs i hcv hi
 split at hr<;>try contradiction
 rename_i hlt
 simp at hr
 obtain⟨d',hd,rfl,rfl⟩:=hr
 obtain⟨k,hk⟩:=dL hi h2
 rw[hcv]at h1
 obtain⟨vs,hu,hl,ho',hv⟩:=h1.agg_inv
 obtain⟨r,hr1,hr2⟩:=C8 (P:=P) hag hsz hl ho' hv hd
 exact⟨rfl,r,hr1,fun w' _=>by simp[execOp,ho,hu,hk,Instr.index,asIntOf,run_underlying he',hlt,bO hsz,hr2]⟩
theorem tw {isS:Bool} {len cap l hh mm:Nat} {lo hi mx:Option D} {vlo vhi vmx:Option Value}
  (h1:∀c,lo=some c→∃x,vlo=some x∧VR w g c x) (h1':lo=none→vlo=none) (h2:∀c,hi=some c→∃x,vhi=some x∧VR w g c x) (h2':hi=none→vhi=none)
  (h3:∀c,mx=some c→∃x,vmx=some x∧VR w g c x) (h3':mx=none→vmx=none) (hmh:mx.isSome=true→hi.isSome=true)
  (L:(match (generalizing:=false) lo with|none=>some 0|some x=>bL x)=some l) (H:(match (generalizing:=false) hi with|none=>some len|some x=>bL x)=some hh) (M0:mx=none→mm=cap) (M1:∀c,mx=some c→bL c=some mm∧mm≤cap)
  (b1:l≤hh) (b2:hh≤mm) (w':World):(Instr.sliceBounds isS len cap vlo vhi vmx).run P w'=.ok (l,hh,mm) w':=by
 have L':(vlo=none∧l=0)∨∃k,vlo=some (.int k (l:Int)):=by
  cases lo with
  |none=>simp at L;exact .inl ⟨h1' rfl,L.symm⟩
  |some c=>
   obtain⟨x,hx,hx'⟩:=h1 c rfl
   simp at L
   obtain⟨kk,rfl⟩:=dL L hx'
   exact .inr ⟨kk,hx⟩
 have H':(vhi=none∧hi=none∧hh=len)∨∃k,vhi=some (.int k (hh:Int)):=by
  cases hi with
  |none=>simp at H;exact .inl ⟨h2' rfl,rfl,H.symm⟩
  |some c=>
   obtain⟨x,hx,hx'⟩:=h2 c rfl
   simp at H
   obtain⟨kk,rfl⟩:=dL H hx'
   exact .inr ⟨kk,hx⟩
 cases mx with
 |none=>
  have:=h3' rfl
  subst this
  have:=M0 rfl
  subst this
  rcases H' with⟨rfl,_,rfl⟩|⟨kh,rfl⟩<;>rcases L' with⟨rfl,rfl⟩|⟨kl,rfl⟩<;>simp[Instr.sliceBounds,Instr.sliceBound,asIntOf,b1,b2]
 |some c=>
  obtain⟨x,rfl,hx'⟩:=h3 c rfl
  obtain⟨M2,M3⟩:=M1 c rfl
  obtain⟨kk,rfl⟩:=dL M2 hx'
  rcases H' with⟨rfl,rfl,rfl⟩|⟨kh,rfl⟩
  ·have:=hmh rfl
   simp at this
  ·rcases L' with⟨rfl,rfl⟩|⟨kl,rfl⟩<;>simp[Instr.sliceBounds,Instr.sliceBound,asIntOf,b1,b2,M3]
theorem VR.rs_part {l b o cap off sz c a h m mm:Nat} {vs:Array Value} {T:TypeId} (hb:g.ι l=some b) (hh:w.heap[b]?=some (.cells vs T (0,0))) (ho:o=off∨cap=0) (hc:c≤cap) (hk:off+cap*sz≤vs.size)
  (b1:a≤h) (b2:h≤m) (b3:m≤mm) (b4:mm≤cap):VR w g (.rs l (off+a*sz) sz (h - a) (m - a)) (.slice (if mm=a then some ⟨b,o,none⟩else some ⟨b,o+a*sz,none⟩) (h - a) (mm - a)):=by
 have hk':off+a*sz+(mm - a)*sz≤vs.size:=by
  have h1:a*sz+(mm - a)*sz=mm*sz:=by rw[←Nat.add_mul];congr 1;omega
  have h2:=Nat.mul_le_mul_right sz b4
  omega
 split
 ·exact .rs l _ sz _ _ b o _ vs T hb hh (.inr (by omega)) (by omega) (by omega) hk'
 ·refine .rs l _ sz _ _ b _ _ vs T hb hh (.inl ?_) (by omega) (by omega) hk'
  rcases ho with rfl|h0
  ·rfl
  ·omega
theorem Bf {sz:Nat} {u d:D} {lo hi mx:Option D} (h:lc sz u lo hi mx=some d) {v:Value} (hv:VR w g u v) {vlo vhi vmx:Option Value}
  (h1:∀c,lo=some c→∃x,vlo=some x∧VR w g c x) (h1':lo=none→vlo=none) (h2:∀c,hi=some c→∃x,vhi=some x∧VR w g c x) (h2':hi=none→vhi=none)
  (h3:∀c,mx=some c→∃x,vmx=some x∧VR w g c x) (h3':mx=none→vmx=none) (hmh:mx.isSome=true→hi.isSome=true) {T e:TypeId} (hT:P.underlying T=some (.slice e)) (hz:eO P e=some sz):
  ∃r,VR w g d r∧∀w',(Instr.sliceAt T v vlo vhi vmx).run P w'=.ok r w':=by
 by_cases hrs:∃l off s n c,u=.rs l off s n c
 ·obtain⟨l,off,s,n,c,rfl⟩:=hrs
  simp only[lc]at h
  split at h<;>try contradiction
  rename_i hsz
  split at h<;>try contradiction
  rename_i a hh m hl hhh hm
  split at h<;>try contradiction
  rename_i hb
  obtain⟨b1,b2,b3⟩:=hb
  have hsz:s=sz:=by simpa using hsz
  subst hsz
  injection h with h
  subst h
  obtain⟨b,o,cap,vs,T',rfl,hb,hbk,hoo,hn,hc,hk⟩:=hv.rs_inv
  obtain⟨mm,M0,M1,b4,b5⟩:∃mm,(mx=none→mm=cap)∧(∀c,mx=some c→bL c=some mm∧mm≤cap)∧m≤mm∧mm≤cap:=by
   cases mx with
   |none=>simp at hm;exact⟨cap,fun _=>rfl,fun c h=>by simp at h,by omega,Nat.le_refl _⟩
   |some c'=>simp at hm;exact⟨m,fun h=>by simp at h,fun c h=>by cases h;exact⟨hm,by omega⟩,Nat.le_refl _,by omega⟩
  refine⟨_,VR.rs_part hb hbk hoo hc hk b1 b2 b4 b5,fun w'=>?_⟩
  have hrun:=tw (P:=P) (isS:=true) (len:=n) (cap:=cap) h1 h1' h2 h2' h3 h3' hmh hl hhh M0 M1 b1 (by omega) w'
  simp only[Instr.sliceAt,Instr.slice,run_underlying hT,Sem.run_bind,Result.andThen_ok,hrun,bO hz,Sem.run_pure]
  split<;>simp[dj]
 unfold lc at h
 split at h<;>try contradiction
 case h_2=>exact absurd ⟨_,_,_,_,_,rfl⟩ hrs
 rename_i t s xs
 split at h<;>try contradiction
 rename_i hsz
 split at h<;>try contradiction
 rename_i l hh m hl hhh hm
 split at h<;>try contradiction
 rename_i hb
 obtain⟨b1,b2,b3,b4⟩:=hb
 injection h with h
 obtain⟨A,cap,vals,rfl,hcp,ht,hs,hA,hvv⟩:=hv.slice_inv
 have hrun:∀w',(Instr.sliceBounds true xs.length cap vlo vhi vmx).run P w'=.ok (l,hh,m.getD cap) w':=by
  intro w'
  have L:(vlo=none∧l=0)∨∃k,vlo=some (.int k (l:Int)):=by
   cases lo with
   |none=>simp at hl;exact .inl ⟨h1' rfl,hl.symm⟩
   |some c=>
    obtain⟨x,hx,hx'⟩:=h1 c rfl
    simp at hl
    obtain⟨kk,rfl⟩:=dL hl hx'
    exact .inr ⟨kk,hx⟩
  have H:(vhi=none∧hi=none∧hh=xs.length)∨∃k,vhi=some (.int k (hh:Int)):=by
   cases hi with
   |none=>simp at hhh;exact .inl ⟨h2' rfl,rfl,hhh.symm⟩
   |some c=>
    obtain⟨x,hx,hx'⟩:=h2 c rfl
    simp at hhh
    obtain⟨kk,rfl⟩:=dL hhh hx'
    exact .inr ⟨kk,hx⟩
  have M:(vmx=none∧m=none)∨∃k mm,vmx=some (.int k ((mm:Nat):Int))∧m=some mm∧mx.isSome=true:=by
   cases mx with
   |none=>simp at hm;exact .inl ⟨h3' rfl,hm.symm⟩
   |some c=>
    obtain⟨x,hx,hx'⟩:=h3 c rfl
    simp at hm
    obtain⟨mm,hm,rfl⟩:=hm
    obtain⟨kk,rfl⟩:=dL hm hx'
    exact .inr ⟨kk,mm,hx,rfl,rfl⟩
  clear h1 h1' h2 h2' h3 h3' hl hhh hm h
  rcases M with⟨rfl,rfl⟩|⟨km,mm,rfl,rfl,hms⟩
  ·have hc':hh≤cap:=by omega
   rcases H with⟨rfl,_,rfl⟩|⟨kh,rfl⟩<;>rcases L with⟨rfl,rfl⟩|⟨kl,rfl⟩<;>simp[Instr.sliceBounds,Instr.sliceBound,asIntOf,b1,hc']
  ·simp at b3 b4
   have hc':mm≤cap:=by omega
   rcases H with⟨rfl,rfl,rfl⟩|⟨kh,rfl⟩
   ·have:=hmh hms
    simp at this
   ·rcases L with⟨rfl,rfl⟩|⟨kl,rfl⟩<;>simp[Instr.sliceBounds,Instr.sliceBound,asIntOf,b1,hc',b4]
 refine⟨.slice (if m.getD cap=l then A else A.map (·.add (l*sz))) (hh - l) (m.getD cap - l),?_,fun w'=>?_⟩
 ·subst h
  have hlen:((xs.take hh).drop l).length=hh - l:=by simp;omega
  have hmc:hh≤m.getD cap:=by
   cases m with
   |none=>simp;omega
   |some m=>simpa using b4
  have hget:∀i,((xs.take hh).drop l)[i]?=if i<hh - l then xs[l+i]? else none:=by
   intro i
   rw[List.getElem?_drop]
   by_cases hi:i<hh - l
   ·rw[if_pos hi,List.getElem?_take_of_lt (by omega)]
   ·rw[if_neg hi];simp;omega
  have hszs:∀(i:Nat) (x:D),xs[i]?=some x→s=sz:=fun i x hx=>by
   have:xs.isEmpty=false:=by cases xs<;>simp_all
   simpa[this]using hsz
  have some_of:∀(i:Nat) (x:D),((xs.take hh).drop l)[i]?=some x→i<hh - l∧xs[l+i]?=some x:=fun i x hx=>by
   rw[hget]at hx
   by_cases hi:i<hh - l
   ·rw[if_pos hi]at hx;exact⟨hi,hx⟩
   ·rw[if_neg hi]at hx;cases hx
  refine .slice _ sz _ _ (hh - l) _ (fun i j=>vals (l+i) j) hlen (by omega) ?_ (fun i x hx=>?_) (fun i x j c hx hc=>?_) (fun i x j c hx hc=>hvv _ x j c (some_of i x hx).2 hc)
  · -- the token
    split
    ·rename_i hm1;rw[hm1];simp[TokOK]
    ·split
     ·trivial
     ·rename_i hmn hms
      have hmn:m=none:=by cases m<;>simp_all
      subst hmn
      simp only[Option.getD_none]
      split
      ·rename_i hxl
       split
       ·rename_i hte
        subst hte
        simp only[TokOK]at ht ⊢
        omega
       ·split
        ·rename_i hte
         subst hte
         simp only[TokOK]at ht ⊢
         obtain⟨rfl,h1,h2⟩:=ht
         refine⟨?_,by omega,by omega⟩
         split<;>rfl
        split
        ·rename_i hls
         obtain⟨rfl,rfl⟩:=hls
         subst hxl
         simp only[Nat.zero_mul,Nat.sub_zero]
         have:(if cap=0 then A else A.map (·.add 0))=A:=by
          split
          ·rfl
          ·cases A<;>simp[Addr.add]
         rw[this]
         exact ht
        ·trivial
      ·trivial
  ·have:=hs _ x (some_of i x hx).2
   rw[hszs _ x (some_of i x hx).2]at this
   exact this
  ·obtain⟨hi,hx'⟩:=some_of i x hx
   obtain⟨ad,rfl,e1,e2,e3⟩:=hA _ x j c hx' hc
   have hss:=hszs _ x hx'
   subst hss
   refine⟨ad.add (l*s),by rw[if_neg (by omega)];rfl,?_,?_,?_⟩
   ·rw[dj _ e2];simpa[Nat.add_mul,Nat.add_assoc]using e1
   ·rw[dj _ e2]
   ·rw[dj _ e2];simpa[Nat.add_mul,Nat.add_assoc]using e3
 ·simp[Instr.sliceAt,Instr.slice,run_underlying hT,hrun,bO hz]
end
end Go.Ev
namespace Go.Ev
open Go.RowKit
section
variable {P:Program} {B:Nat} {w:World} {g:Ghost} {ρ:Nat→D} {st st':Store} {a:Act} {d:D} {o:Oper} {x:O}
theorem ou (he:EnvR w g ρ a.tmps) {y:Option Operand} {y':Option A} (h:jH y=some y'):
  (∀c,y'.map (·.ev ρ)=some c→∃x,y.map a.eval=some x∧VR w g c x)∧(y'.map (·.ev ρ)=none→y.map a.eval=none)∧y'.isSome=y.isSome:=by
 cases y with
 |none=>simp[jH]at h;subst h;simp
 |some z=>
  simp[jH]at h
  obtain⟨z',hz,rfl⟩:=h
  refine⟨fun c hc=>?_,fun hc=>by simp at hc,rfl⟩
  simp at hc
  subst hc
  exact⟨_,rfl,co he hz⟩
theorem Dm {T:TypeId} {y:Operand} {lo hi mx:Option Operand} (ho:o.op=.slice T y lo hi mx) (hc:aq P o.op=some x) (hr:x.run ρ st=some (d,st')) (he:EnvR w g ρ a.tmps) (hrel:Rel B w g st):st'=st∧QG P w g st (execOp a.eval o) d:=by
 rw[ho]at hc
 simp only[aq,Option.bind_eq_bind,Option.bind_eq_some_iff]at hc
 split at hc<;>try contradiction
 rename_i e he'
 case h_2=>
  rename_i n e he'
  split at hc<;>try contradiction
  rename_i hmx
  simp only[Option.bind_eq_some_iff,Option.some.injEq]at hc
  obtain⟨sz,hsz,y',hy,lo',hlo,hi',hhi,rfl⟩:=hc
  have hmn:mx=none:=by cases mx<;>simp_all
  subst hmn
  simp only[O.run]at hr
  have h0:=co he hy
  split at hr<;>try contradiction
  rename_i l off hcv
  rw[hcv]at h0
  obtain⟨b,hb,hu⟩:=VR.ptr_inv h0
  obtain⟨cs,hcs,hr⟩:=Option.bind_eq_some_iff.1 hr
  split at hr<;>try contradiction
  rename_i a1 h1 hla hlh
  split at hr<;>try contradiction
  rename_i hcond
  obtain⟨b1,b2,b3⟩:=hcond
  simp only[Option.some.injEq,Prod.mk.injEq]at hr
  obtain⟨rfl,rfl⟩:=hr
  obtain⟨vs,T',hh,hl,ho',hv,bx,hbx⟩:=mz hrel hcs hb
  obtain⟨q1,q2,_⟩:=ou he hlo
  obtain⟨q3,q4,_⟩:=ou he hhi
  refine⟨rfl,_,VR.rs_part (cap:=n) (mm:=n) (o:=off) hb hh (.inl rfl) (Nat.le_refl n) (by omega) b1 b2 (Nat.le_refl _) (Nat.le_refl _),fun w' _=>?_⟩
  have hrun:=tw (P:=P) (w:=w) (g:=g) (isS:=false) (len:=n) (cap:=n) (mx:=none) (vmx:=none) (mm:=n) q1 q2 q3 q4 (fun c h=>by simp at h) (fun _=>rfl) (fun h=>by simp at h) hla hlh (fun _=>rfl) (fun c h=>by simp at h) b1 (by omega) w'
  simp only[execOp,ho,hu,Instr.sliceAt,Instr.sureAddr,run_underlying he',Sem.run_bind,Result.andThen_ok,hrun,bO hsz,Sem.run_pure,Option.map_none]
  split<;>simp[dj]
 simp only[Option.bind_eq_some_iff]at hc
 obtain⟨lo',hlo,hi',hhi,mx',hmx,hc⟩:=hc
 split at hc<;>try contradiction
 rename_i hmh
 simp only[Option.bind_eq_some_iff,Option.some.injEq]at hc
 obtain⟨sz,hsz,y',hy,rfl⟩:=hc
 simp only[O.run,Option.map_eq_some_iff]at hr
 obtain⟨d',hd,he2⟩:=hr
 cases he2
 obtain⟨l1,l2,l3⟩:=ou he hlo
 obtain⟨h1,h2,h3⟩:=ou he hhi
 obtain⟨m1,m2,m3⟩:=ou he hmx
 obtain⟨r,hr1,hr2⟩:=Bf (P:=P) hd (co he hy) l1 l2 h1 h2 m1 m2 (by
  intro hm
  simp only[Option.isSome_map]at hm ⊢
  rw[m3]at hm
  rw[h3]
  cases hi<;>simp_all) he' hsz
 exact⟨rfl,r,hr1,fun w' _=>by simp[execOp,ho,hr2]⟩
theorem VR.map_inv {l:Nat} {v:Value} (h:VR w g (.map l) v):∃b,g.ι l=some b∧v=.map (some b):=by cases h;exact⟨_,‹_›,rfl⟩
theorem VR.nilmap_inv {v:Value} (h:VR w g .nilmap v):v=.map none:=by cases h;rfl
theorem y5 (hrel:Rel B w g st) {l b:Nat} {kv:List (Int×D)} (hbx:st.boxes l=some (.map kv)) (hb:g.ι l=some b):
  ∃(es:Array MapEntry) (clock:Nat),w.heap[b]?=some (.map es clock)∧MapR w g kv es clock:=by
 obtain⟨b',hb',_,_,hR⟩:=hrel.box _ _ hbx
 rw[hb]at hb'
 cases hb'
 exact hR
theorem dN {k:Int}:∀{kv:List (Int×D)},(kv.map (·.1)).Nodup→∀{d:D},aZ k kv=some d↔(k,d)∈kv
 |[],_,d=>by simp[aZ]
 |(k',d')::r,hn,d=>by
  simp only[List.map_cons,List.nodup_cons]at hn
  simp only[aZ,List.mem_cons,Prod.mk.injEq]
  by_cases h:k'=k
  ·subst h
   rw[if_pos rfl]
   constructor
   ·intro e;exact .inl ⟨rfl,by cases e;rfl⟩
   ·rintro (⟨_,e⟩|e)
    ·rw[e]
    ·exact absurd (List.mem_map_of_mem e) hn.1
  ·rw[if_neg h,dN hn.2]
   constructor
   ·exact .inr
   ·rintro (⟨e,_⟩|e)
    ·exact absurd e.symm h
    ·exact e
theorem qI {kv kv0:List (Int×D)} (hp:kv0.Perm kv) (hn:(kv.map (·.1)).Nodup) (k:Int):aZ k kv0=aZ k kv:=by
 have hn0:(kv0.map (·.1)).Nodup:=(hp.map _).nodup_iff.2 hn
 cases h:aZ k kv with
 |some d=>exact(dN hn0).2 (hp.mem_iff.2 ((dN hn).1 h))
 |none=>
  cases h0:aZ k kv0 with
  |none=>rfl
  |some d=>rw[(dN hn).2 (hp.mem_iff.1 ((dN hn0).1 h0))]at h;cases h
theorem By:∀(xs:List D) (c d:D),zN c xs=some d→∀(u:Value) (vs:List Value),VR w g c u→VRs w g xs vs→∃r,VR w g d r∧∀w',(vs.foldlM Builtin.min2 u).run P w'=.ok r w'
 |[],c,d,h,u,vs,hu,hvs=>by
  cases c<;>simp[zN]at h
  subst h
  have:vs=[]:=List.eq_nil_of_length_eq_zero hvs.1.symm
  subst this
  exact⟨u,hu,fun w'=>by simp⟩
 |e::xs,c,d,h,u,vs,hu,hvs=>by
  cases c<;>cases e<;>simp[zN]at h
  cases hu.int_inv
  cases vs with
  |nil=>simp[VRs]at hvs
  |cons v vs=>
   have h0:=hvs.2 0 _ v rfl rfl
   cases h0.int_inv
   obtain⟨r,hr1,hr2⟩:=By xs _ d h _ vs (.int _ _) ⟨by have:=hvs.1;simpa using this,fun j d v p q=>hvs.2 (j+1) d v (by simpa using p) (by simpa using q)⟩
   exact⟨r,hr1,fun w'=>by simp[List.foldlM_cons,Builtin.min2,hr2]⟩
theorem Cw:∀(xs:List D) (c d:D),Aq c xs=some d→∀(u:Value) (vs:List Value),VR w g c u→VRs w g xs vs→∃r,VR w g d r∧∀w',(vs.foldlM Builtin.max2 u).run P w'=.ok r w'
 |[],c,d,h,u,vs,hu,hvs=>by
  cases c<;>simp[Aq]at h
  subst h
  have:vs=[]:=List.eq_nil_of_length_eq_zero hvs.1.symm
  subst this
  exact⟨u,hu,fun w'=>by simp⟩
 |e::xs,c,d,h,u,vs,hu,hvs=>by
  cases c<;>cases e<;>simp[Aq]at h
  cases hu.int_inv
  cases vs with
  |nil=>simp[VRs]at hvs
  |cons v vs=>
   have h0:=hvs.2 0 _ v rfl rfl
   cases h0.int_inv
   obtain⟨r,hr1,hr2⟩:=Cw xs _ d h _ vs (.int _ _) ⟨by have:=hvs.1;simpa using this,fun j d v p q=>hvs.2 (j+1) d v (by simpa using p) (by simpa using q)⟩
   exact⟨r,hr1,fun w'=>by simp[List.foldlM_cons,Builtin.max2,hr2]⟩
theorem zG {c:Call} (ho:o.op=.call c) (hq:x.quiet=true) (hb:∃b,c.callee=.builtin b) (hc:aq P o.op=some x) (hr:x.run ρ st=some (d,st')) (he:EnvR w g ρ a.tmps) (hrel:Rel B w g st):st'=st∧QG P w g st (execOp a.eval o) d:=by
 rw[ho]at hc
 obtain⟨b,hb⟩:=hb
 obtain⟨callee,args,argTypes⟩:=c
 simp only at hb
 subst hb
 simp only[aq]at hc
 cases b<;>simp only[kn]at hc<;>try contradiction
 case len=>
  unfold mG at hc
  simp only[Option.bind_eq_bind]at hc
  split at hc<;>try contradiction
  rename_i y t ts hargs htys
  obtain⟨args⟩:=args
  obtain⟨argTypes⟩:=argTypes
  simp at hargs htys
  subst hargs htys
  split at hc<;>try contradiction
  ·rename_i e he'
   simp only[Option.bind_eq_some_iff,Option.some.injEq]at hc
   obtain⟨y',hy,rfl⟩:=hc
   simp only[O.run]at hr
   split at hr<;>try contradiction
   ·rename_i hcv
    simp at hr
    obtain⟨rfl,rfl⟩:=hr
    have h1:=co he hy
    rw[hcv]at h1
    obtain⟨A,cap,vals,hu,_⟩:=h1.slice_inv
    exact⟨rfl,_,.int _ _,fun w' _=>by simp[execOp,ho,resolve,invoke,builtin,Builtin.len_,run_underlying he',hu,goInt]⟩
   ·rename_i hcv
    simp at hr
    obtain⟨rfl,rfl⟩:=hr
    have h1:=co he hy
    rw[hcv]at h1
    obtain⟨b,o',cap,vs,T',hu,_⟩:=h1.rs_inv
    exact⟨rfl,_,.int _ _,fun w' _=>by simp[execOp,ho,resolve,invoke,builtin,Builtin.len_,run_underlying he',hu,goInt]⟩
  ·rename_i kt e he'
   simp only[Option.bind_eq_some_iff,Option.some.injEq]at hc
   obtain⟨y',hy,rfl⟩:=hc
   have h1:=co he hy
   simp only[O.run]at hr
   split at hr<;>try contradiction
   ·rename_i l hcv
    split at hr<;>try contradiction
    rename_i kv hbx
    simp at hr
    obtain⟨rfl,rfl⟩:=hr
    rw[hcv]at h1
    obtain⟨b,hb,hu⟩:=h1.map_inv
    obtain⟨es,clock,hh,⟨kv0,hp,hl0,_⟩,_⟩:=y5 hrel hbx hb
    have hl:kv.length=es.size:=hp.length_eq.symm.trans hl0
    refine⟨rfl,_,.int _ _,fun w' hs=>?_⟩
    have hh':=(hs.box _ _ _ hbx hb).trans hh
    simp[execOp,ho,resolve,invoke,builtin,Builtin.len_,run_underlying he',hu,goInt,getObj,Sem.run,hh',hl]
   ·rename_i hcv
    simp at hr
    obtain⟨rfl,rfl⟩:=hr
    rw[hcv]at h1
    have hu:=h1.nilmap_inv
    exact⟨rfl,_,.int _ _,fun w' _=>by simp[execOp,ho,resolve,invoke,builtin,Builtin.len_,run_underlying he',hu,goInt]⟩
 case cap=>
  unfold mD at hc
  simp only[Option.bind_eq_bind]at hc
  split at hc<;>try contradiction
  rename_i y t ts hargs htys
  obtain⟨args⟩:=args
  obtain⟨argTypes⟩:=argTypes
  simp at hargs htys
  subst hargs htys
  split at hc<;>try contradiction
  rename_i e he'
  simp only[Option.bind_eq_some_iff,Option.some.injEq]at hc
  obtain⟨y',hy,rfl⟩:=hc
  have h1:=co he hy
  simp only[O.run]at hr
  split at hr<;>try contradiction
  ·rename_i hcv
   simp at hr
   obtain⟨rfl,rfl⟩:=hr
   rw[hcv]at h1
   obtain⟨A,cap,vals,hu,_,hto,_⟩:=h1.slice_inv
   simp only[TokOK]at hto
   subst hto
   exact⟨rfl,_,.int _ _,fun w' _=>by simp[execOp,ho,resolve,invoke,builtin,Builtin.cap_,run_underlying he',hu,goInt]⟩
  ·rename_i hcv
   simp at hr
   obtain⟨rfl,rfl⟩:=hr
   rw[hcv]at h1
   obtain⟨A,cap,vals,hu,_,hto,_⟩:=h1.slice_inv
   simp only[TokOK]at hto
   obtain⟨_,h2,h3⟩:=hto
   subst h3
   exact⟨rfl,_,.int _ _,fun w' _=>by simp[execOp,ho,resolve,invoke,builtin,Builtin.cap_,run_underlying he',hu,goInt,h2]⟩
 case clear=>
  exfalso
  unfold Io at hc
  simp only[Option.bind_eq_bind]at hc
  split at hc<;>try contradiction
  split at hc<;>try contradiction
  simp only[Option.bind_eq_some_iff,Option.some.injEq]at hc
  obtain⟨_,_,_,_,rfl⟩:=hc
  simp[O.quiet]at hq
 case append=>
  exfalso
  unfold gD at hc
  simp only[Option.bind_eq_bind]at hc
  repeat' (split at hc)
  all_goals try contradiction
  all_goals
   simp only[Option.bind_eq_some_iff,Option.some.injEq]at hc
   obtain⟨_,_,_,_,rfl⟩:=hc
   simp[O.quiet]at hq
 case min=>
  obtain⟨ys,hy,rfl⟩:=Option.map_eq_some_iff.1 hc
  have h1:=rR he hy
  simp only[O.run]at hr
  split at hr<;>try contradiction
  rename_i y r
  simp at hr
  obtain⟨d',hd,rfl,rfl⟩:=hr
  generalize hvs:args.toList.map a.eval=vs at h1
  cases vs with
  |nil=>simp[VRs]at h1
  |cons v vs=>
   obtain⟨q,hq1,hq2⟩:=By (P:=P) _ _ _ hd v vs (h1.2 0 _ v rfl rfl) ⟨by have:=h1.1;simpa using this,fun j d v p q=>h1.2 (j+1) d v (by simpa using p) (by simpa using q)⟩
   refine⟨rfl,q,hq1,fun w' _=>?_⟩
   simp[execOp,ho,resolve,invoke,builtin,Builtin.min_,hvs,hq2]
 case max=>
  obtain⟨ys,hy,rfl⟩:=Option.map_eq_some_iff.1 hc
  have h1:=rR he hy
  simp only[O.run]at hr
  split at hr<;>try contradiction
  rename_i y r
  simp at hr
  obtain⟨d',hd,rfl,rfl⟩:=hr
  generalize hvs:args.toList.map a.eval=vs at h1
  cases vs with
  |nil=>simp[VRs]at h1
  |cons v vs=>
   obtain⟨q,hq1,hq2⟩:=Cw (P:=P) _ _ _ hd v vs (h1.2 0 _ v rfl rfl) ⟨by have:=h1.1;simpa using this,fun j d v p q=>h1.2 (j+1) d v (by simpa using p) (by simpa using q)⟩
   refine⟨rfl,q,hq1,fun w' _=>?_⟩
   simp[execOp,ho,resolve,invoke,builtin,Builtin.max_,hvs,hq2]
theorem AQ {T:TypeId} {z:D} (h:mV P T=some z):∃v,(∀w g,VR w g z v)∧∀w',(zeroValue T).run P w'=.ok v w':=by
 unfold mV at h
 cases hi:P.info? T with
 |none=>simp[hi]at h
 |some i=>
  cases hz:i.zero with
  |none=>simp[hi,hz]at h
  |some v=>
   simp[hi,hz]at h
   exact⟨v,fun w g=>fj v z h w g,fun w'=>by simp[zeroValue,typeInfo,hi,hz]⟩
theorem y9 (kd:IntKind) (i:Int):∀(kv:List (Int×D)) (es:List MapEntry) (n:Nat),kv.length=es.length→(∀(j:Nat) k d e,kv[j]?=some (k,d)→es[j]?=some e→e.key=.int .i64 k∧VR w g d e.val)→
  (match aZ i kv with
   |none=>Instr.findNow (.int kd) (.int .i64 i) es n=some none
   |some d=>∃m v,Instr.findNow (.int kd) (.int .i64 i) es n=some (some (m,v))∧VR w g d v)
 |[],es,n,hl,h=>by
  have:es=[]:=List.eq_nil_of_length_eq_zero hl.symm
  subst this
  simp[aZ,Instr.findNow]
 |(k,d)::kv,[],n,hl,h=>by simp at hl
 |(k,d)::kv,e::es,n,hl,h=>by
  obtain⟨h1,h2⟩:=h 0 k d e rfl rfl
  have ih:=y9 kd i kv es (n+1) (by simpa using hl) (fun j k d e p q=>h (j+1) k d e (by simpa using p) (by simpa using q))
  simp only[aZ,Instr.findNow,h1,Instr.sameNow,if_true]
  by_cases hk:k=i
  ·subst hk
   simp only[if_true,beq_self_eq_true]
   exact⟨n,e.val,rfl,h2⟩
  ·have:(i==k)=false:=by simp;exact fun h=>hk h.symm
   simp only[if_neg hk,this]
   exact ih
theorem Ce {T:TypeId} {y z:Operand} {ok:Bool} (ho:o.op=.lookup T y z ok) (hc:aq P o.op=some x) (hr:x.run ρ st=some (d,st')) (he:EnvR w g ρ a.tmps) (hrel:Rel B w g st):st'=st∧QG P w g st (execOp a.eval o) d:=by
 rw[ho]at hc
 simp only[aq,Option.bind_eq_bind]at hc
 split at hc<;>try contradiction
 rename_i kt e hT
 split at hc<;>try contradiction
 rename_i hK
 simp only[Option.bind_eq_some_iff,Option.some.injEq]at hc
 obtain⟨zd,hzd,y',hy,z',hz,rfl⟩:=hc
 obtain⟨zv,hzv,hzr⟩:=AQ hzd
 have h1:=co he hy
 have h2:=co he hz
 have hck:∀e v w',(Instr.checkKey e 10000 kt v).run P w'=.ok () w':=fun e v w'=>by
  show (Instr.checkKey e (9999+1) kt v).run P w'=_
  unfold Instr.checkKey
  simp[run_underlying hK]
 have tail:∀(d:D) (b:Bool) (v:Value),VR w g d v→VR w g (if ok then .tuple [d,.bool b]else d) (if ok then .tuple #[v,.bool b]else v):=by
  intro d b v hv
  cases ok
  ·exact hv
  ·refine .tuple _ _ rfl (fun j c u p q=>?_)
   match j with
   |0=>simp at p q;subst p;subst q;exact hv
   |1=>simp at p q;subst p;subst q;exact .bool b
   |j+2=>simp at p
 simp only[O.run]at hr
 split at hr<;>try contradiction
 ·rename_i l i hcv hcz
  rw[hcv]at h1
  rw[hcz]at h2
  have hi:=h2.int_inv
  split at hr<;>try contradiction
  rename_i kv hbx
  obtain⟨b,hb,hu⟩:=h1.map_inv
  obtain⟨es,clock,hh,⟨kv0,hperm,hl,hes⟩,hnd,_⟩:=y5 hrel hbx hb
  rw[←qI hperm hnd]at hr
  have hf:=y9 (w:=w) (g:=g) .i64 i kv0 es.toList 0 (by simpa using hl) (fun j k d e p q=>hes j k d e p (by simpa using q))
  split at hr
  ·rename_i d0 hget
   injection hr with hr
   cases hr
   rw[hget]at hf
   obtain⟨m,v,hf1,hf2⟩:=hf
   refine⟨rfl,_,tail d0 true v hf2,fun w' hs=>?_⟩
   have hh':=(hs.box _ _ _ hbx hb).trans hh
   cases ok<;>simp[execOp,ho,hu,hi,Instr.lookup,run_underlying hT,getObj,Sem.run,hh',hck,Instr.findKey,run_underlying hK,hf1]
  ·rename_i hget
   injection hr with hr
   cases hr
   rw[hget]at hf
   refine⟨rfl,_,tail zd false zv (hzv w g),fun w' hs=>?_⟩
   have hh':=(hs.box _ _ _ hbx hb).trans hh
   simp only at hf
   cases ok<;>simp[execOp,ho,hu,hi,Instr.lookup,run_underlying hT,getObj,Sem.run,hh',hck,Instr.findKey,run_underlying hK,hf,hzr]
 ·rename_i i hcv hcz
  rw[hcv]at h1
  rw[hcz]at h2
  have hi:=h2.int_inv
  have hu:=h1.nilmap_inv
  injection hr with hr
  cases hr
  refine⟨rfl,_,tail zd false zv (hzv w g),fun w' hs=>?_⟩
  cases ok<;>simp[execOp,ho,hu,hi,Instr.lookup,run_underlying hT,hck,Instr.findKey,run_underlying hK,Instr.findNow,hzr]
end
end Go.Ev
