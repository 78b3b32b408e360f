/-
  Parts of the evaluator.
-/
import Derived.Test.YtcejefmekkiboaaEvEvA
set_option linter.unusedVariables false
set_option linter.unusedSimpArgs false
set_option linter.unnecessarySimpa false
namespace Go.Ev
open Go.RowKit
section
variable {P:Program} {B:Nat} {w w':World} {g g':Ghost} {ρ:Nat→D} {st st':Store} {a:Act} {d:D} {o:Oper} {x:O}
theorem qE (sz:Nat):∀(xs:List D) (k:Nat) (pre zs:List D),pre.length=k*sz→zs.length=xs.length*sz→(∀x∈xs,x.cells.length=sz∧∀c∈x.cells,c.one=true)→
  jt ((xs.zipIdx k).map fun p=>(p.2*sz,sz,p.1)) (pre++zs)=some (pre++xs.flatMap D.cells)
 |[],k,pre,zs,h1,h2,_=>by
  have:zs=[]:=List.eq_nil_of_length_eq_zero (by simpa using h2)
  subst this
  simp[jt]
 |x::xs,k,pre,zs,h1,h2,h3=>by
  obtain⟨c1,c2⟩:=h3 x (by simp)
  have hz:sz≤zs.length:=by rw[h2,List.length_cons,Nat.succ_mul];omega
  simp only[List.zipIdx_cons,List.map_cons,jt]
  rw[if_pos ⟨c1,by rw[List.length_append,h1];omega,List.all_eq_true.2 c2⟩]
  have e1:(pre++zs).take (k*sz)=pre:=by rw[←h1];simp
  have e2:(pre++zs).drop (k*sz+sz)=zs.drop sz:=by rw[←h1,List.drop_append];simp
  rw[e1,e2]
  have:=qE sz xs (k+1) (pre++x.cells) (zs.drop sz) (by rw[List.length_append,h1,c1,Nat.succ_mul]) (by rw[List.length_drop,h2,List.length_cons,Nat.succ_mul];omega) (fun y hy=>h3 y (by simp[hy]))
  rw[this]
  simp[List.flatMap_cons]
theorem Ci {T:TypeId} {n:Nat} {parts:Array (Nat×Operand)} (ho:o.op=.buildSlice T n parts) (hc:aq P o.op=some x) (hr:x.run ρ st=some (d,st')) (he:EnvR w g ρ a.tmps) (hrel:Rel B w g st):rJ P B w g st (execOp a.eval o) d st':=by
 rw[ho]at hc
 simp only[aq,Option.bind_eq_bind]at hc
 split at hc<;>try contradiction
 rename_i e hT
 simp only[Option.bind_eq_some_iff]at hc
 obtain⟨sz,hsz,z,hz,hc⟩:=hc
 split at hc<;>try contradiction
 rename_i hcond
 simp only[Bool.and_eq_true,decide_eq_true_eq,beq_iff_eq]at hcond
 obtain⟨⟨hidx,hzl⟩,hsz0⟩:=hcond
 simp only[Option.bind_eq_some_iff,Option.some.injEq]at hc
 obtain⟨ys,hys,rfl⟩:=hc
 obtain⟨it,zv,hit,hiz,hzv,hz1⟩:=kp hz
 obtain⟨zl,zr⟩:=(hzv w g).cells
 obtain⟨hl,hv⟩:=rR he hys
 simp only[O.run]at hr
 split at hr<;>try contradiction
 rename_i hck
 simp only[Bool.and_eq_true,List.all_eq_true,beq_iff_eq,decide_eq_true_eq]at hck
 obtain⟨hck,hbig⟩:=hck
 simp only[Option.some.injEq,Prod.mk.injEq]at hr
 obtain⟨rfl,rfl⟩:=hr
 have hn:ys.length=n:=by
  have:=congrArg List.length hidx
  simp at this hl
  omega
 generalize hds:(ys.map fun x=>(x.ev ρ).strip)=ds
 have hdl:ds.length=n:=by rw[←hds];simpa using hn
 have hdx:∀x∈ds,x.cells.length=sz∧∀c∈x.cells,c.plain=true:=fun x hx=>by
  rw[←hds]at hx
  obtain⟨y,hy,rfl⟩:=List.mem_map.1 hx
  exact hck y hy
 generalize hzs:(List.range (n*sz)).map (fun k=>z.cells.getD (k%sz) .undef)=zs
 have hzvs:zv.cells.size=sz:=by omega
 have hzn:it.size=sz:=by simp[eO,hit]at hsz;exact hsz
 obtain⟨arr0,harr0,hrun0⟩:∃arr0:Array Value,(arr0.size=n*sz∧∀(k:Nat) c v,zs[k]?=some c→arr0[k]?=some v→VR w g c v)∧
   ∀w',(do let zero ←if n*sz=0 then pure #[]else do pure (←zeroValue e).cells
           pure ((Array.range (n*sz)).map (zero[· %zero.size]!)):Sem (Array Value)).run P w'=.ok arr0 w':=by
  refine⟨(Array.range (n*sz)).map (zv.cells[· %zv.cells.size]!),⟨by simp,fun k c v p q=>?_⟩,fun w'=>?_⟩
  ·rw[←hzs]at p
   simp only[List.getElem?_map,Option.map_eq_some_iff]at p
   obtain⟨k',hk',rfl⟩:=p
   have hlt:k<n*sz:=by have:=(List.getElem?_eq_some_iff.1 hk').1;simpa using this
   rw[List.getElem?_range hlt]at hk'
   cases hk'
   have hm:k%sz<sz:=Nat.mod_lt _ hsz0
   rw[Array.getElem?_map,Array.getElem?_range,if_pos hlt]at q
   simp only[Option.map_some,Option.some.injEq,hzvs]at q
   subst q
   have h1:z.cells[k%sz]?=some (z.cells[k%sz]'(by omega)):=List.getElem?_eq_getElem (by omega)
   have h2:zv.cells[k%sz]?=some (zv.cells[k%sz]'(by omega)):=Array.getElem?_eq_getElem (by omega)
   rw[List.getD,h1,getElem!_pos zv.cells (k%sz) (by omega)]
   exact zr _ _ _ h1 h2
  ·by_cases h0:n*sz=0
   ·simp[h0]
   ·simp[h0,zeroValue,typeInfo,hit,hiz]
 have hzsl:zs.length=ds.length*sz:=by rw[←hzs,hdl];simp
 have hfd:=qE sz ds 0 [] zs (by simp) hzsl (fun x hx=>⟨(hdx x hx).1,fun c hc=>D.plain_one ((hdx x hx).2 c hc)⟩)
 simp only[List.nil_append]at hfd
 have hpl:parts.toList.length=n:=by have:=congrArg List.length hidx;simpa using this
 obtain⟨arr,ha1,ha2,ha3,ha4⟩:=tL (w:=w) (g:=g) (fun i=>some (i*sz,sz)) _ (parts.toList.map fun p=>(p.1,a.eval p.2)) zs _ arr0 hfd (by simp[hdl,hpl])
  (fun j f p p1 p2=>by
   simp only[List.getElem?_map,Option.map_eq_some_iff]at p1 p2
   obtain⟨⟨dx,i⟩,q1,rfl⟩:=p1
   obtain⟨p0,q2,rfl⟩:=p2
   rw[List.getElem?_zipIdx]at q1
   simp only[Option.map_eq_some_iff]at q1
   obtain⟨dx',q3,q4⟩:=q1
   cases q4
   have hj:j<n:=by have:=(List.getElem?_eq_some_iff.1 q2).1;omega
   have hp0:p0.1=j:=by
    have:(parts.toList.map (·.1))[j]?=some p0.1:=by simp[q2]
    rw[hidx,List.getElem?_range hj]at this
    exact(Option.some.inj this).symm
   simp only[Nat.zero_add,hp0,true_and]
   rw[←hds]at q3
   simp only[List.getElem?_map,Option.map_eq_some_iff]at q3
   obtain⟨y,q5,rfl⟩:=q3
   exact(hv j _ _ (by simp[q5]) (by simp[q2])).strip)
  (by rw[hzsl,hdl,harr0.1]) (fun c hc=>by
   rw[←hzs]at hc
   obtain⟨k,_,rfl⟩:=List.mem_map.1 hc
   have hm:k%sz<z.cells.length:=by rw[hzl];exact Nat.mod_lt _ hsz0
   rw[List.getD,List.getElem?_eq_getElem hm]
   exact hz1 _ (List.getElem_mem hm)) harr0.2
 have hrun:(execOp a.eval o).run P w=.ok (.value (.slice (some ⟨w.heap.size,0,none⟩) n n)) (w.alloc (.cells arr e)):=by
  have hb:¬(n*sz>2 ^ 24):=by rw[hn]at hbig;omega
  have hr0:=hrun0 w
  have hfill:Instr.fill (fun i=>some (i*sz,sz)) arr0 (parts.map fun p=>(p.1,a.eval p.2)).toList=some arr:=by rw[Array.toList_map];exact ha1
  simp only[execOp,ho,Instr.buildSlice,Sem.run_bind,run_underlying hT,Result.andThen_ok,bO hsz,hb,if_false]
  clear hr0
  by_cases h0:n*sz=0
  ·have hr0:=hrun0 w
   simp only[h0,if_true,Sem.run_bind,Sem.run_pure,Result.andThen_ok,pure_bind,Result.ok.injEq,and_true]at hr0 ⊢
   simp only[hr0,hfill,Sem.run_bind,newRow,newObj,Sem.run_pure]
   rfl
  ·have hr0:=hrun0 w
   have hzz:(zeroValue e).run P w=.ok zv w:=by simp[zeroValue,typeInfo,hit,hiz]
   simp only[h0,if_false,Sem.run_bind,Sem.run_pure,Result.andThen_ok,pure_bind,hzz,Result.ok.injEq,and_true]at hr0 ⊢
   simp only[hr0,hfill,Sem.run_bind,newRow,newObj,Sem.run_pure]
   rfl
 have hb2:arr.size=n*sz:=by
  rw[←ha2,gN D.cells sz ds (fun x hx=>(hdx x hx).1),hdl]
 have hds2:(ds.flatMap D.cells).length=n*sz:=by rw[gN D.cells sz ds (fun x hx=>(hdx x hx).1),hdl]
 have hheap:(w.alloc (.cells arr e)).heap[w.heap.size]?=some (.cells arr e (0,0)):=heap_alloc_new w _
 have hw1:=Step.below_ hrel (fu w (.cells arr e))
 have nob:∀l,g.ι l≠some w.heap.size:=fun l h=>by have:=hrel.ltι l _ h;omega
 have noτ:∀t r',st.toks t=true→g.τ t=some r'→r'.b≠w.heap.size:=fun t r' h1 h2 h3=>by
  obtain⟨_,_,h4,_⟩:=hrel.tok t r' h1 h2
  have:=(Array.getElem?_eq_some_iff.1 h4).1
  omega
 have hw2:=Step.settle hw1.rel (lo:=0) (hi:=n*sz) hrel.base hheap (by rw[hb2];exact Nat.le_refl _) (fun l _ _=>nob l) (fun t r' h1 h2 h3=>absurd h3 (noτ t r' h1 h2))
 have hall:=hw1.trans hrel hw2
 refine⟨_,_,_,_,hrun,.inl rfl,?_,hall⟩
 have:=VR.row (w:=w.alloc (.cells arr e)) (g:=g.more w.heap.size 0 (n*sz)) (t:=.exact) (sz:=sz) (xs:=ds) (ad:=⟨w.heap.size,0,none⟩) (cap:=n) (cells:=arr.toList)
  hsz0 rfl (by rw[hdl];exact Nat.le_refl _) hdl.symm hdx (by rw[hdl];simpa using hb2) (fun k v hk=>?_) (fun k c v p q=>(ha4 k c v p (by simpa using q)).mono hall.ext)
 ·rw[hdl]at this
  exact this
 ·have hkl:=(List.getElem?_eq_some_iff.1 hk).1
  simp only[Array.length_toList,hb2]at hkl
  simp only[Nat.zero_add]
  exact⟨.inr ⟨rfl,by omega,by omega⟩,by rw[bK hheap];simpa using hk⟩
end
end Go.Ev
/-
  What a call hands back: names of boxes and rows of the callee's do not stand in it, but for one row, which the caller takes over.
-/
namespace Go.Ev
open Go.RowKit
section
variable {P:Program} {B:Nat} {w w' w1:World} {g g' g1:Ghost} {ρ:Nat→D} {st st' st1:Store} {a:Act} {d:D} {o:Oper} {x:O}
theorem VR.plain_ {v:Value} (h:VR w g d v):d.plain=true→∀g',(∀b o,g.S b o→g'.S b o)→VR w g' d v:=by
 induction h with
 |undef=>intro h;simp[D.plain]at h
 |bool b=>intro _ _ _;exact .bool b
 |int k n=>intro _ _ _;exact .int k n
 |str s=>intro _ _ _;exact .str s
 |slice t sz xs A len cap vals hl hc ht hs hA hv ih=>
  intro hp g' hS
  have hto:TokOK g'.τ t sz A len cap:=by
   cases t<;>first|trivial|exact ht|(simp[D.plain]at hp)
  refine .slice t sz xs A len cap vals hl hc hto hs (fun i x j c h1 h2=>?_) (fun i x j c h1 h2=>ih i x j c h1 h2 ((hs i x h1).2 c (List.mem_of_getElem? h2)) g' hS)
  obtain⟨ad,e1,e2,e3,e4⟩:=hA i x j c h1 h2
  exact⟨ad,e1,hS _ _ e2,e3,e4⟩
 |agg cs vs hl ho hv ih=>intro h;simp[D.plain]at h
 |tuple cs vs hl hv ih=>intro h;simp[D.plain]at h
 |ptr l off b h=>intro h;simp[D.plain]at h
 |nilptr=>intro _ _ _;exact .nilptr
 |eptr sz xs i off ad vals hs hsp hA hv ih=>intro h;simp[D.plain]at h
 |func f cs vs hl hv ih=>
  intro hp g' hS
  have:cs=[]:=by cases cs<;>simp_all[D.plain]
  subst this
  exact .func f [] vs hl (fun j c v h1 h2=>by simp at h1)
 |nilfunc=>intro _ _ _;exact .nilfunc
 |map l b h=>intro h;simp[D.plain]at h
 |nilmap=>intro _ _ _;exact .nilmap
 |rs=>intro h;simp[D.plain]at h
theorem VR.slice_to {t t':Tok} {sz:Nat} {xs:List D} {v:Value} (h:VR w g (.slice t sz xs) v) (hS:∀b o,g.S b o→g'.S b o)
  (ht:∀A cap,TokOK g.τ t sz A xs.length cap→TokOK g'.τ t' sz A xs.length cap):VR w g' (.slice t' sz xs) v:=by
 obtain⟨A,cap,vals,rfl,hc,h0,hs,hA,hv⟩:=h.slice_inv
 refine .slice t' sz xs A _ cap vals rfl hc (ht A cap h0) hs (fun i x j c h1 h2=>?_) (fun i x j c h1 h2=>(hv i x j c h1 h2).plain_ ((hs i x h1).2 c (List.mem_of_getElem? h2)) g' hS)
 obtain⟨ad,e1,e2,e3,e4⟩:=hA i x j c h1 h2
 exact⟨ad,e1,hS _ _ e2,e3,e4⟩
theorem VR.free1_ {v:Value} (h:VR w g d v) (hf:d.free1=true) (hS:∀b o,g.S b o→g'.S b o):VR w g' d.strip1 v:=by
 cases d with
 |undef=>cases h;exact .undef
 |bool b=>cases h;exact .bool b
 |int k n=>cases h;exact .int k n
 |str s=>cases h;exact .str s
 |slice t sz xs=>exact h.slice_to hS (fun _ _ h=>by cases t<;>first|trivial|exact h)
 |agg cs=>simp[D.free1]at hf
 |tuple cs=>simp[D.free1]at hf
 |ptr l o=>simp[D.free1]at hf
 |nilptr=>cases h;exact .nilptr
 |eptr sz xs i off=>
  obtain⟨ad,vals,rfl,hsp,hs,hA,hv⟩:=h.eptr_inv
  refine .eptr sz xs i off ad vals hs hsp (fun i x j c h1 h2=>?_) (fun i x j c h1 h2=>(hv i x j c h1 h2).plain_ ((hs i x h1).2 c (List.mem_of_getElem? h2)) g' hS)
  obtain⟨e2,e4⟩:=hA i x j c h1 h2
  exact⟨hS _ _ e2,e4⟩
 |func f cs=>
  cases cs with
  |nil=>exact h.plain_ rfl g' hS
  |cons c r=>simp[D.free1]at hf
 |nilfunc=>cases h;exact .nilfunc
 |map l=>simp[D.free1]at hf
 |nilmap=>cases h;exact .nilmap
 |rs l off sz n c=>simp[D.free1]at hf
theorem A8 (t0:Nat) {d:D} (h:d.one=true):(rF t0 d).one=true:=by
 unfold rF
 split
 ·rfl
 ·exact h
theorem rN (d:D):fK d.strip1=false:=by
 cases d<;>first|rfl|skip
 rename_i t sz xs
 cases t<;>rfl
theorem lS (hf:d.free1=true):d.strip=d.strip1:=by cases d<;>simp_all[D.free1,D.strip,D.strip1]
def kB (st1:Store) (c:D):D:=(a8 st1 c).getD c.strip1
theorem yI {c:D} {v:Value} (hv:VR w1 g1 c v) (hf:c.free1=true):
  (fK (kB st1 c)=false∧∀g':Ghost,(∀b o,g1.S b o→g'.S b o)→VR w1 g' (kB st1 c) v)∨
  (fK (kB st1 c)=true∧∃oR:Option RowInfo,(∀r,oR=some r→∃k,st1.toks k=true∧st1.tlim≤k∧g1.τ k=some r)∧∀(g':Ghost) t0,(∀b o,g1.S b o→g'.S b o)→g'.τ t0=oR→VR w1 g' (rF t0 (kB st1 c)) v):=by
 have no:a8 st1 c=none→fK (kB st1 c)=false∧∀g':Ghost,(∀b o,g1.S b o→g'.S b o)→VR w1 g' (kB st1 c) v:=fun h=>by
  simp only[kB,h,Option.getD_none]
  exact⟨rN c,fun g' hS=>hv.free1_ hf hS⟩
 cases c with
 |slice t sz xs=>
  cases t with
  |own k=>
   by_cases hk:(st1.toks k&&decide (st1.tlim≤k))=true
   ·have e:kB st1 (.slice (.own k) sz xs)=.slice .fresh sz xs:=by simp[kB,a8,hk]
    rw[e]
    simp only[Bool.and_eq_true,decide_eq_true_eq]at hk
    refine .inr ⟨rfl,g1.τ k,fun r hr=>⟨k,hk.1,hk.2,hr⟩,fun g' t0 hS ht=>?_⟩
    refine hv.slice_to hS (fun A cap h=>?_)
    simp only[TokOK]at h ⊢
    rw[ht]
    exact h
   ·exact .inl (no (by simp only[a8,hk];rfl))
  |exact=>exact .inl ⟨rfl,fun g' hS=>hv.slice_to hS (fun A cap h=>h)⟩
  |isnil=>exact .inl (no rfl)
  |no=>exact .inl (no rfl)
  |fresh=>exact .inl (no rfl)
  |row=>exact .inl (no rfl)
  |nonnil=>exact .inl (no rfl)
 |_=>exact .inl (no rfl)
theorem iX:∀(d:D) (v:Value),VR w1 g1 d v→(match (generalizing:=false) d with| .agg cs=>cs.all D.free1|d=>d.free1)=true→∀g':Ghost,(∀b o,g1.S b o→g'.S b o)→VR w1 g' d.strip v:=by
 intro d v hv hf g' hS
 by_cases hd:∃cs,d=.agg cs
 ·obtain⟨cs,rfl⟩:=hd
  obtain⟨vs,rfl,hl,ho,hc⟩:=hv.agg_inv
  simp only[List.all_eq_true]at hf
  refine .agg _ vs (by simpa using hl) (fun c h=>?_) (fun j c' v' p q=>?_)
  ·obtain⟨c0,h0,rfl⟩:=List.mem_map.1 h
   exact D.one_strip1 (ho c0 h0)
  ·simp only[List.getElem?_map,Option.map_eq_some_iff]at p
   obtain⟨c0,h0,rfl⟩:=p
   exact(hc j c0 v' h0 q).free1_ (hf c0 (List.mem_of_getElem? h0)) hS
 ·have hfr1:d.free1=true:=by
   cases d<;>first|exact absurd ⟨_,rfl⟩ hd|exact hf
  rw[lS hfr1]
  exact hv.free1_ hfr1 hS
theorem Fh {r:D} {v:Value} (hv:VR w1 g1 r v) (hf:r.free=true):
  (aF (fv st1 r)=false∧∀g':Ghost,(∀b o,g1.S b o→g'.S b o)→VR w1 g' (fv st1 r) v)∨
  (aF (fv st1 r)=true∧∃oR:Option RowInfo,(∀r,oR=some r→∃k,st1.toks k=true∧st1.tlim≤k∧g1.τ k=some r)∧∀(g':Ghost) t0,(∀b o,g1.S b o→g'.S b o)→g'.τ t0=oR→VR w1 g' (wS t0 (fv st1 r)) v):=by
 have one:∀(d:D) (v:Value),VR w1 g1 d v→(match (generalizing:=false) d with| .agg cs=>cs.all D.free1|d=>d.free1)=true→(∀vs,d≠.tuple vs)→
   (bX (aU st1 d)=false∧∀g':Ghost,(∀b o,g1.S b o→g'.S b o)→VR w1 g' (aU st1 d) v)∨
   (bX (aU st1 d)=true∧∃oR:Option RowInfo,(∀r,oR=some r→∃k,st1.toks k=true∧st1.tlim≤k∧g1.τ k=some r)∧∀(g':Ghost) t0,(∀b o,g1.S b o→g'.S b o)→g'.τ t0=oR→VR w1 g' (dl t0 (aU st1 d)) v):=by
  intro d v hv hf hnt
  by_cases hd:∃cs,d=.agg cs
  ·obtain⟨cs,rfl⟩:=hd
   obtain⟨vs,rfl,hl,ho,hc⟩:=hv.agg_inv
   simp only[List.all_eq_true]at hf
   cases cs with
   |nil=>
    refine .inl ⟨rfl,fun g' hS=>?_⟩
    exact .agg [] vs hl (fun c h=>by simp at h) (fun j c v p q=>by simp at p)
   |cons c cs=>
    have hvs:∃v0,vs[0]?=some v0:=⟨vs[0]'(by simp at hl;omega),Array.getElem?_eq_getElem _⟩
    obtain⟨v0,hv0⟩:=hvs
    have hoS:∀c',c'.one=true→∀c''∈c'::cs.map D.strip1,c''.one=true:=fun c' h c'' h'=>by
     rcases List.mem_cons.1 h' with rfl|h'
     ·exact h
     ·obtain⟨c0,h0,rfl⟩:=List.mem_map.1 h'
      exact D.one_strip1 (ho c0 (by simp[h0]))
    have hos:(kB st1 c).one=true:=by
     have:=ho c (by simp)
     unfold kB
     cases hfr:a8 st1 c with
     |none=>exact D.one_strip1 this
     |some c'=>
      cases c with
      |slice t sz xs=>cases t<;>simp[a8]at hfr<;>first|(obtain⟨_,rfl⟩:=hfr;rfl)|(subst hfr;rfl)
      |_=>simp[a8]at hfr
    have rest:∀g':Ghost,(∀b o,g1.S b o→g'.S b o)→∀(j:Nat) c' v',(cs.map D.strip1)[j]?=some c'→vs[j+1]?=some v'→VR w1 g' c' v':=fun g' hS j c' v' p q=>by
     simp only[List.getElem?_map,Option.map_eq_some_iff]at p
     obtain⟨c0,h0,rfl⟩:=p
     exact(hc (j+1) c0 v' (by simpa using h0) q).free1_ (hf c0 (List.mem_cons_of_mem _ (List.mem_of_getElem? h0))) hS
    rcases yI (st1:=st1) (hc 0 c v0 rfl hv0) (hf c (by simp))with⟨h1,h2⟩|⟨h1,oR,h2,h3⟩
    ·refine .inl ⟨h1,fun g' hS=>.agg _ vs (by simpa using hl) (hoS _ hos) (fun j c' v' p q=>?_)⟩
     cases j with
     |zero=>simp only[List.getElem?_cons_zero,Option.some.injEq]at p;rw[hv0]at q;cases q;rw[←p];exact h2 g' hS
     |succ j=>exact rest g' hS j c' v' (by simpa using p) q
    ·refine .inr ⟨h1,oR,h2,fun g' t0 hS ht=>.agg _ vs (by simpa using hl) (hoS _ ?_) (fun j c' v' p q=>?_)⟩
     ·exact A8 t0 hos
     ·cases j with
      |zero=>simp only[List.getElem?_cons_zero,Option.some.injEq]at p;rw[hv0]at q;cases q;rw[←p];exact h3 g' t0 hS ht
      |succ j=>exact rest g' hS j c' v' (by simpa using p) q
  ·have hfr1:d.free1=true:=by
    cases d<;>first|exact absurd ⟨_,rfl⟩ hd|exact hf
   have e:aU st1 d=kB st1 d:=by
    rw[kB,←lS hfr1]
    cases d<;>first|exact absurd ⟨_,rfl⟩ hd|rfl
   have e2:bX (kB st1 d)=fK (kB st1 d):=by
    cases d<;>first|exact absurd ⟨_,rfl⟩ hd|rfl|skip
    rename_i t sz xs
    cases t<;>simp only[kB,a8]<;>(try rfl)
    split<;>rfl
   have e3:∀t0,dl t0 (kB st1 d)=rF t0 (kB st1 d):=fun t0=>by
    cases d<;>first|exact absurd ⟨_,rfl⟩ hd|rfl|skip
    rename_i t sz xs
    cases t<;>simp only[kB,a8]<;>(try rfl)
    split<;>rfl
   rw[e,e2]
   simp only[e3]
   exact yI hv hfr1
 have strip_:=@iX w1 g1
 by_cases ht:∃vs,r=.tuple vs
 ·obtain⟨cs,rfl⟩:=ht
  obtain⟨vs,rfl,hl,hc⟩:∃vs:Array Value,v=.tuple vs∧cs.length=vs.size∧∀(j:Nat) c v,cs[j]?=some c→vs[j]?=some v→VR w1 g1 c v:=by
   cases hv with
   |tuple cs vs hl hc=>exact⟨vs,rfl,hl,hc⟩
  have hfa:∀d∈cs,(match (generalizing:=false) d with| .agg cs=>cs.all D.free1|d=>d.free1)=true:=List.all_eq_true.1 hf
  cases cs with
  |nil=>
   refine .inl ⟨rfl,fun g' hS=>.tuple [] vs hl (fun j c v p q=>by simp at p)⟩
  |cons c cs=>
   obtain⟨v0,hv0⟩:∃v0,vs[0]?=some v0:=⟨vs[0]'(by simp at hl;omega),Array.getElem?_eq_getElem _⟩
   have rest:∀g':Ghost,(∀b o,g1.S b o→g'.S b o)→∀(j:Nat) c' v',(cs.map D.strip)[j]?=some c'→vs[j+1]?=some v'→VR w1 g' c' v':=fun g' hS j c' v' p q=>by
    simp only[List.getElem?_map,Option.map_eq_some_iff]at p
    obtain⟨c0,h0,rfl⟩:=p
    exact strip_ c0 v' (hc (j+1) c0 v' (by simpa using h0) q) (hfa c0 (List.mem_cons_of_mem _ (List.mem_of_getElem? h0))) g' hS
   have hc0:=hfa c (by simp)
   rcases one c v0 (hc 0 c v0 rfl hv0) hc0 (fun vs h=>by subst h;simp[D.free1]at hc0)with⟨h1,h2⟩|⟨h1,oR,h2,h3⟩
   ·refine .inl ⟨h1,fun g' hS=>.tuple _ vs (by simpa using hl) (fun j c' v' p q=>?_)⟩
    cases j with
    |zero=>simp only[List.getElem?_cons_zero,Option.some.injEq]at p;rw[hv0]at q;cases q;rw[←p];exact h2 g' hS
    |succ j=>exact rest g' hS j c' v' (by simpa using p) q
   ·refine .inr ⟨h1,oR,h2,fun g' t0 hS ht=>.tuple _ vs (by simpa using hl) (fun j c' v' p q=>?_)⟩
    cases j with
    |zero=>simp only[List.getElem?_cons_zero,Option.some.injEq]at p;rw[hv0]at q;cases q;rw[←p];exact h3 g' t0 hS ht
    |succ j=>exact rest g' hS j c' v' (by simpa using p) q
 ·have e1:fv st1 r=aU st1 r:=by
   cases r<;>first|exact absurd ⟨_,rfl⟩ ht|rfl
  have hf':(match (generalizing:=false) r with| .agg cs=>cs.all D.free1|d=>d.free1)=true:=by
   cases r<;>first|exact absurd ⟨_,rfl⟩ ht|exact hf
  have e2:aF (aU st1 r)=bX (aU st1 r)∧∀t0,wS t0 (aU st1 r)=dl t0 (aU st1 r):=by
   cases r with
   |tuple cs=>exact absurd ⟨_,rfl⟩ ht
   |slice t sz xs=>
    cases t<;>simp only[aU,a8]<;>(try exact⟨rfl,fun _=>rfl⟩)
    split<;>exact⟨rfl,fun _=>rfl⟩
   |agg cs=>cases cs<;>exact⟨rfl,fun _=>rfl⟩
   |_=>exact⟨rfl,fun _=>rfl⟩
  rw[e1,e2.1]
  simp only[e2.2]
  exact one r v hv hf' (fun vs h=>ht ⟨vs,h⟩)
theorem G0 (hrel:Rel B w g st) (hs:Step B w g {st with lim:=st.next,tlim:=st.ntok} w1 g1 st1):Step B w g st w1 ⟨g1.S,g.ι,g.τ⟩ st∧Same w g st w1:=by
 have hlt:∀l b,g.ι l=some b→l<st.next:=fun l b h=>by
  rcases Nat.lt_or_ge l st.next with h'|h'
  ·exact h'
  ·rw[hrel.newι l h']at h;cases h
 have hltτ:∀t r,g.τ t=some r→t<st.ntok:=fun t r h=>by
  rcases Nat.lt_or_ge t st.ntok with h'|h'
  ·exact h'
  ·rw[hrel.newτ t h']at h;cases h
 have hblk:∀l b x,st.boxes l=some x→g.ι l=some b→w1.heap[b]?=w.heap[b]?:=fun l b x hx h=>hs.lock l b x (hlt l b h) hx h
 have hext:Ext B w g w1 ⟨g1.S,g.ι,g.τ⟩:=⟨hs.ext.below,hs.ext.S,hs.ext.cell,hs.ext.whole,fun _ _ h=>h,fun _ _ h=>h,hs.ext.new,hs.ext.keep⟩
 have htk:∀t r,st.toks t=true→g.τ t=some r→st1.toks t=true∧g1.τ t=some r:=fun t r h1 h2=>⟨(hs.toks t (hltτ t r h2)).trans h1,hs.ext.τ t r h2⟩
 refine⟨⟨hext,⟨hs.rel.base,hs.rel.S,fun l x hx=>?_,hrel.inj,fun t r p q=>?_,hrel.uniq,hrel.apart,hrel.newι,hrel.newτ,fun l b h=>?_,hrel.limι,hrel.limτ⟩,fun l b x _ hx h=>hblk l b x hx h,fun t r _ h1 h2=>hs.lockτ t r (hltτ t r h2) h1 h2,fun _ _=>rfl,fun _ _=>rfl,rfl,rfl,Nat.le_refl _,Nat.le_refl _,fun _ _=>rfl,fun _ _=>rfl⟩,⟨hs.ext.cell,hblk⟩⟩
 ·obtain⟨b,h1,h2,h3,h4⟩:=hrel.box l x hx
  have hl:=hlt l b h1
  obtain⟨b',k1,k2,k3,k4⟩:=hs.rel.box l x ((hs.boxes l hl).trans hx)
  rw[hs.eqι l hl,h1]at k1
  cases k1
  exact⟨b,h1,h2,k3,h4.mono hext (hblk l b x hx h1)⟩
 ·obtain⟨cs,h1,h2,h3,h4,h5⟩:=hrel.tok t r p q
  obtain⟨k1,k2⟩:=htk t r p q
  obtain⟨cs',_,_,_,_,q5⟩:=hs.rel.tok t r k1 k2
  exact⟨cs,h1,(hs.lockτ t r (hltτ t r q) p q).trans h2,h3,h4,q5⟩
 ·exact Nat.lt_of_lt_of_le (hrel.ltι l b h) hs.ext.below.size
theorem yU (hrel:Rel B w g st) {g0:Ghost} (hg0:g0.S=g.S) (hs:Step w.heap.size w g0 Store.empty w1 g1 st1):Step B w g st w1 ⟨g1.S,g.ι,g.τ⟩ st∧Same w g st w1:=by
 have hblk:∀b,b<w.heap.size→w1.heap[b]?=w.heap[b]?:=fun b h=>hs.ext.below.block b h
 have hcell:∀b o,g.S b o→w1.cell? ⟨b,o,none⟩=w.cell? ⟨b,o,none⟩:=fun b o h=>hs.ext.cell b o (by rw[hg0];exact h)
 have htb:∀t r,st.toks t=true→g.τ t=some r→r.b<w.heap.size:=fun t r h1 h2=>by
  obtain⟨cs,_,h3,_⟩:=hrel.tok t r h1 h2
  exact(Array.getElem?_eq_some_iff.1 h3).1
 have hnew:∀b o,g1.S b o→b<w.heap.size→g.S b o:=fun b o h hb=>by
  rcases hs.ext.new b o h with h|h
  ·rw[←hg0];exact h
  ·omega
 have hext:Ext B w g w1 ⟨g1.S,g.ι,g.τ⟩:=⟨hs.ext.below.mono hrel.base,fun b o h=>hs.ext.S b o (by rw[hg0];exact h),hcell,fun b h=>hs.ext.whole b (by rw[hg0];exact h),fun _ _ h=>h,fun _ _ h=>h,fun b o h=>by
  rcases hs.ext.new b o h with h|h
  ·exact .inl (by rw[←hg0];exact h)
  ·exact .inr (Nat.le_trans hrel.base h),fun l b vs T fr hl hv=>⟨vs,(hblk b (hrel.ltι l b hl)).trans hv,rfl⟩⟩
 refine⟨⟨hext,⟨Nat.le_trans hrel.base hs.ext.below.size,hs.rel.S,fun l x hx=>?_,hrel.inj,fun t r p q=>?_,hrel.uniq,hrel.apart,hrel.newι,hrel.newτ,fun l b h=>?_,hrel.limι,hrel.limτ⟩,fun l b x _ _ h=>hblk b (hrel.ltι l b h),fun t r _ h1 h2=>hblk _ (htb t r h1 h2),fun _ _=>rfl,fun _ _=>rfl,rfl,rfl,Nat.le_refl _,Nat.le_refl _,fun _ _=>rfl,fun _ _=>rfl⟩,⟨hcell,fun l b x _ h=>hblk b (hrel.ltι l b h)⟩⟩
 ·obtain⟨b,h1,h2,h3,h4⟩:=hrel.box l x hx
  exact⟨b,h1,h2,fun o h=>h3 o (hnew b o h (hrel.ltι l b h1)),h4.mono hext (hblk b (hrel.ltι l b h1))⟩
 ·obtain⟨cs,h1,h2,h3,h4,h5⟩:=hrel.tok t r p q
  exact⟨cs,h1,(hblk _ (htb t r p q)).trans h2,h3,h4,fun o ho h=>h5 o ho (hnew _ o h (htb t r p q))⟩
 ·exact Nat.lt_of_lt_of_le (hrel.ltι l b h) hs.ext.below.size
def ei (B:Nat) (w:World) (g:Ghost) (st:Store) (r:D):Ending→World→Prop:=fun e w'=>∃v,e=.returned v∧Same w g st w'∧∀mv,∃g',VR w' g' (aw mv r st).1 v∧Step B w g st w' g' (aw mv r st).2
theorem fp (st:Store) (mv:Bool) {d:D} (h:∀sz xs,d≠.slice .row sz xs):ej st mv d=(d,st):=by
 unfold ej
 split
 ·exact absurd rfl (h _ _)
 ·rfl
theorem HH (st1:Store) (d:D):∀sz xs,aU st1 d≠.slice .row sz xs:=by
 intro sz xs
 cases d with
 |agg cs=>cases cs<;>simp[aU,a8,D.strip]
 |slice t sz' xs'=>
  cases t<;>simp[aU,a8,D.strip,Tok.strip]<;>split<;>simp
 |_=>simp[aU,a8,D.strip]
theorem xz (st st1:Store) (mv:Bool) (r:D) (h:aF (fv st1 r)=false):aw mv (fv st1 r) st=(fv st1 r,st):=by
 unfold aw
 rw[if_neg (by simp[h])]
 split
 ·rename_i v vs hr
  have:∀sz xs,v≠.slice .row sz xs:=by
   cases r with
   |tuple us=>
    cases us with
    |nil=>simp[fv,aU,a8,D.strip]at hr
    |cons u us=>
     simp only[fv,D.tuple.injEq,List.cons.injEq]at hr
     rw[←hr.1]
     exact HH st1 u
   |agg cs=>cases cs<;>simp[fv,aU,a8,D.strip]at hr
   |slice t sz' xs'=>cases t<;>simp[fv,aU,a8,D.strip]at hr<;>(try (split at hr<;>simp at hr))
   |_=>simp[fv,aU,a8,D.strip]at hr
  rw[fp st mv this,hr]
 ·rename_i hnt
  refine fp st mv ?_
  cases r with
  |tuple us=>
   cases us with
   |nil=>intro sz xs;simp[fv,aU,a8,D.strip]
   |cons u us=>intro sz xs;simp[fv]
  |_=>intro sz xs;simp only[fv];exact HH st1 _ sz xs
theorem yh (hb:Step B w g st w1 ⟨g1.S,g.ι,g.τ⟩ st) (hsame:Same w g st w1) (hrel:Rel B w g st)
  (htok:∀k ri,st1.toks k=true→st1.tlim≤k→g1.τ k=some ri→∃cs,B≤ri.b∧w1.heap[ri.b]?=some (.cells cs ri.T (0,0))∧cs.size=ri.n∧ri.e≤ri.n∧(∀o,ri.e≤o→¬g1.S ri.b o)∧(∀l,g.ι l≠some ri.b)∧∀t r',st.toks t=true→g.τ t=some r'→r'.b≠ri.b)
  {r:D} {v:Value} (hv:VR w1 g1 r v) (hf:r.free=true):ei B w g st (fv st1 r) (.returned v) w1:=by
 refine⟨v,rfl,hsame,fun mv=>?_⟩
 rcases Fh (st1:=st1) hv hf with⟨h1,h2⟩|⟨h1,oR,h2,h3⟩
 ·rw[xz st st1 mv r h1]
  exact⟨⟨g1.S,g.ι,g.τ⟩,h2 _ (fun _ _ h=>h),hb⟩
 ·have e:aw mv (fv st1 r) st=(wS st.ntok (fv st1 r),{st with toks:=ap st.toks st.ntok true,ntok:=st.ntok+1}):=by simp only[aw,h1,if_true]
  rw[e]
  cases oR with
  |none=>exact⟨⟨g1.S,g.ι,g.τ⟩,h3 _ _ (fun _ _ h=>h) (hrel.newτ _ (Nat.le_refl _)),hb.trans hrel (Step.tokBare hb.rel)⟩
  |some ri=>
   obtain⟨k,k1,k2,k3⟩:=h2 ri rfl
   obtain⟨cs,t1,t2,t3,t4,t5,t6,t7⟩:=htok k ri k1 k2 k3
   have htok:=Step.tokRow hb.rel (r:=ri) t1 t2 t3 t4 t5 t6 t7
   exact⟨{S:=g1.S,ι:=g.ι,τ:=ap g.τ st.ntok (some ri)},h3 _ _ (fun _ _ h=>h) (ae _ _ _),hb.trans hrel htok⟩
theorem A6 (hrel:Rel B w g st) (hs:Step B w g {st with lim:=st.next,tlim:=st.ntok} w1 g1 st1) {r:D} {v:Value} (hv:VR w1 g1 r v) (hf:r.free=true):ei B w g st (fv st1 r) (.returned v) w1:=by
 obtain⟨hb,hsame⟩:=G0 hrel hs
 refine yh hb hsame hrel (fun k ri k1 k2 k3=>?_) hv hf
 obtain⟨cs,t1,t2,t3,t4,t5⟩:=hs.rel.tok k ri k1 k3
 have hk:st.ntok≤k:=by have:=hs.tlim;simp only at this;omega
 refine⟨cs,t1,t2,t3,t4,t5,fun l hl=>hs.rel.apart k ri l ri.b k1 k3 (hs.ext.ι l _ hl) rfl,fun t r' p q e=>?_⟩
 have hlt:t<st.ntok:=by
  rcases Nat.lt_or_ge t st.ntok with h'|h'
  ·exact h'
  ·rw[hrel.newτ t h']at q;cases q
 have:=hs.rel.uniq t k r' ri ((hs.toks t hlt).trans p) k1 (hs.ext.τ t r' q) k3 e
 omega
theorem lY {sz:Nat} (hz:0<sz) {cs:List D} (hp:∀c∈cs,c.plain=true):∀(n:Nat),n*sz≤cs.length→(∀x∈ct sz n cs,x.cells.length=sz∧∀c∈x.cells,c.plain=true)∧(ct sz n cs).flatMap D.cells=cs.take (n*sz):=by
 have piece:∀i,(i+1)*sz≤cs.length→(sy ((cs.drop (i*sz)).take sz)).cells=(cs.drop (i*sz)).take sz:=fun i hi=>by
  have hl:((cs.drop (i*sz)).take sz).length=sz:=by rw[Nat.succ_mul]at hi;simp;omega
  generalize hq:(cs.drop (i*sz)).take sz=q at*
  have hqp:∀c∈q,c.plain=true:=fun c hc=>hp c (List.mem_of_mem_drop (List.mem_of_mem_take (hq▸hc)))
  match q,hl with
  |[],hl=>simp at hl;omega
  |[c],_=>have:=hqp c (by simp);cases c<;>simp_all[sy,D.cells,D.plain]
  |a::b::r,_=>rfl
 intro n
 induction n with
 |zero=>intro _;simp[ct]
 |succ n ih=>
  intro hn
  have hn':n*sz≤cs.length:=by rw[Nat.succ_mul]at hn;omega
  obtain⟨h1,h2⟩:=ih hn'
  have e:ct sz (n+1) cs=ct sz n cs++[sy ((cs.drop (n*sz)).take sz)]:=by simp[ct,List.range_succ]
  have hl:((cs.drop (n*sz)).take sz).length=sz:=by rw[Nat.succ_mul]at hn;simp;omega
  refine⟨fun x hx=>?_,?_⟩
  ·rw[e]at hx
   rcases List.mem_append.1 hx with hx|hx
   ·exact h1 x hx
   ·simp at hx
    subst hx
    rw[piece n hn]
    exact⟨hl,fun c hc=>hp c (List.mem_of_mem_drop (List.mem_of_mem_take hc))⟩
  ·rw[e,List.flatMap_append,h2,List.flatMap_cons,piece n hn,Nat.succ_mul,List.take_add]
   simp
theorem xU (hrel:Rel B w g st) {g0:Ghost} (hg0:g0.S=g.S) (hs:Step w.heap.size w g0 Store.empty w1 g1 st1) {c c':D} {v:Value} (hv:VR w1 g1 c v) (hr:eR st1 c=some c') (mv:Bool):
  ∃g',VR w1 g' (ej st mv c').1 v∧Step B w1 ⟨g1.S,g.ι,g.τ⟩ st w1 g' (ej st mv c').2:=by
 obtain⟨hb,hsame⟩:=yU hrel hg0 hs
 unfold eR at hr
 split at hr<;>try contradiction
 rename_i l off sz n c0
 split at hr<;>try contradiction
 rename_i cs hbx
 split at hr<;>try contradiction
 rename_i hc
 obtain⟨rfl,hle,hz,hp⟩:=hc
 cases hr
 have hp':∀c∈cs,c.plain=true:=List.all_eq_true.1 hp
 obtain⟨b,o,cap,vs,T,rfl,hbb,hh,hoo,hn,hcc,hk⟩:=hv.rs_inv
 obtain⟨b',hb',hB,hS,vs',T',hh',hl,hone,hvv⟩:=hs.rel.box l _ hbx
 rw[hbb]at hb'
 cases hb'
 rw[hh]at hh'
 cases hh'
 obtain⟨q1,q2⟩:=lY hz hp' n hle
 have hlen:(ct sz n cs).length=n:=by simp[ct]
 have nob:∀l,g.ι l≠some b:=fun l h=>by have:=hrel.ltι l _ h;omega
 have noτ:∀t r',st.toks t=true→g.τ t=some r'→r'.b≠b:=fun t r' h1 h2 h3=>by
  obtain⟨_,_,h4,_⟩:=hrel.tok t r' h1 h2
  have:=(Array.getElem?_eq_some_iff.1 h4).1
  omega
 have hBb:B≤b:=Nat.le_trans hrel.base hB
 have hcv:∀(g':Ghost),(∀b o,g1.S b o→g'.S b o)→∀(j:Nat) d u,(cs.take (n*sz))[j]?=some d→vs[j]?=some u→VR w1 g' d u:=fun g' hS' j d u p q=>by
  have hj:j<n*sz:=by have:=(List.getElem?_eq_some_iff.1 p).1;simp at this;omega
  rw[List.getElem?_take_of_lt hj]at p
  exact(hvv j d u p q).plain_ (hp' d (List.mem_of_getElem? p)) g' hS'
 cases mv with
 |true=>
  have hs3:=Step.name hb.rel (b:=b) (x:=.row ((ct sz n cs).flatMap D.cells)) (Array.getElem?_eq_some_iff.1 hh).1 hBb hS (fun l _ _=>nob l) noτ ⟨vs,T,hh,by rw[q2];simp;omega,fun c hc=>by
   rw[q2]at hc
   exact hone c (List.mem_of_mem_take hc),fun j d u p q=>by
   rw[q2]at p
   exact hcv ⟨g1.S,g.ι,g.τ⟩ (fun _ _ h=>h) j d u p q⟩
  refine⟨{S:=g1.S,ι:=ap g.ι st.next (some b),τ:=g.τ},?_,hs3⟩
  simp only[ej,if_true,hlen]
  exact .rs st.next 0 sz n n b o cap vs T (ae _ _ _) hh hoo (Nat.le_refl _) (by omega) hk
 |false=>
  have hs3:=Step.settle hb.rel (lo:=0) (hi:=n*sz) hBb hh (by omega) (fun l _ _=>nob l) (fun t r' h1 h2 h3=>absurd h3 (noτ t r' h1 h2))
  refine⟨_,?_,hs3⟩
  simp only[ej,Bool.false_eq_true,if_false]
  rcases Nat.eq_zero_or_pos n with h0|h0
  ·subst h0
   exact .slice .no sz _ _ 0 cap (fun _ _=>Go.undef) hlen (by omega) trivial (fun i x h=>by simp[ct]at h) (fun i x j c h=>by simp[ct]at h) (fun i x j c h=>by simp[ct]at h)
  ·have ho0:o=0:=by
    rcases hoo with h|h
    ·exact h
    ·omega
   subst ho0
   have:=VR.row (w:=w1) (g:=Ghost.more ⟨g1.S,g.ι,g.τ⟩ b 0 (n*sz)) (t:=.no) (sz:=sz) (xs:=ct sz n cs) (ad:=⟨b,0,none⟩) (cap:=cap) (cells:=vs.toList.take (n*sz)) hz rfl (by omega) trivial q1 (by simp[hlen];omega) (fun k u hk=>by
    have hkl:k<n*sz:=by have:=(List.getElem?_eq_some_iff.1 hk).1;simp at this;omega
    rw[List.getElem?_take_of_lt hkl]at hk
    simp only[Nat.zero_add]
    exact⟨.inr ⟨rfl,by omega,hkl⟩,by rw[bK hh];simpa using hk⟩) (fun k d u p q=>by
    rw[q2]at p
    have hkl:k<n*sz:=by have:=(List.getElem?_eq_some_iff.1 p).1;simp at this;omega
    rw[List.getElem?_take_of_lt hkl]at q
    exact hcv (Ghost.more ⟨g1.S,g.ι,g.τ⟩ b 0 (n*sz)) (fun _ _ h=>Or.inl h) k d u p (by simpa using q))
   rw[hlen]at this
   exact this
theorem B9 (hrel:Rel B w g st) {g0:Ghost} (hg0:g0.S=g.S) (hs:Step w.heap.size w g0 Store.empty w1 g1 st1) {r r':D} {v:Value} (hv:VR w1 g1 r v) (hf:eE st1 r=some r'):ei B w g st r' (.returned v) w1:=by
 obtain⟨hb,hsame⟩:=yU hrel hg0 hs
 unfold eE at hf
 split at hf
 ·rename_i hfree
  cases hf
  refine yh hb hsame hrel (fun k ri k1 k2 k3=>?_) hv hfree
  obtain⟨cs,t1,t2,t3,t4,t5⟩:=hs.rel.tok k ri k1 k3
  refine⟨cs,Nat.le_trans hrel.base t1,t2,t3,t4,t5,fun l hl=>?_,fun t r' p q e=>?_⟩
  ·have:=hrel.ltι l _ hl;omega
  ·obtain⟨_,_,h4,_⟩:=hrel.tok t r' p q
   have:=(Array.getElem?_eq_some_iff.1 h4).1
   omega
 ·refine⟨v,rfl,hsame,fun mv=>?_⟩
  by_cases ht:∃u us,r=.tuple (u::us)
  ·obtain⟨u,us,rfl⟩:=ht
   simp only[Cf]at hf
   split at hf<;>try contradiction
   rename_i hfr
   obtain⟨u',hu',rfl⟩:=Option.map_eq_some_iff.1 hf
   obtain⟨cs,vs,rfl,hl,hcv⟩:∃(cs:List D) (vs:Array Value),v=.tuple vs∧(u::us).length=vs.size∧∀(j:Nat) c v,(u::us)[j]?=some c→vs[j]?=some v→VR w1 g1 c v:=by
    cases hv with
    |tuple cs vs hl hc=>exact⟨[],vs,rfl,hl,hc⟩
   obtain⟨v0,hv0⟩:∃v0,vs[0]?=some v0:=⟨vs[0]'(by simp at hl;omega),Array.getElem?_eq_getElem _⟩
   obtain⟨g',h1,h2⟩:=xU hrel hg0 hs (hcv 0 u v0 rfl hv0) hu' mv
   have hrow:∃sz xs,u'=.slice .row sz xs:=by
    unfold eR at hu'
    split at hu'<;>try contradiction
    split at hu'<;>try contradiction
    split at hu'<;>try contradiction
    cases hu'
    exact⟨_,_,rfl⟩
   have hab:aw mv (.tuple (u'::us.map D.strip)) st=(.tuple ((ej st mv u').1::us.map D.strip),(ej st mv u').2):=by
    obtain⟨sz,xs,rfl⟩:=hrow
    simp[aw,aF,bX,fK]
   rw[hab]
   refine⟨g',.tuple _ vs (by simpa using hl) (fun j c' v' p q=>?_),hb.trans hrel h2⟩
   cases j with
   |zero=>simp only[List.getElem?_cons_zero,Option.some.injEq]at p;rw[hv0]at q;cases q;rw[←p];exact h1
   |succ j=>
    simp only[List.getElem?_cons_succ,List.getElem?_map,Option.map_eq_some_iff]at p
    obtain⟨c0,h0,rfl⟩:=p
    have hfa:(match (generalizing:=false) c0 with| .agg cs=>cs.all D.free1|d=>d.free1)=true:=(List.all_eq_true.1 hfr) c0 (List.mem_of_getElem? h0)
    exact(iX c0 v' (hcv (j+1) c0 v' (by simpa using h0) q) hfa ⟨g1.S,g.ι,g.τ⟩ (fun _ _ h=>h)).mono h2.ext
  ·have e:Cf st1 r=eR st1 r:=by
    unfold Cf
    split
    ·exact absurd ⟨_,_,rfl⟩ ht
    ·rfl
   rw[e]at hf
   obtain⟨g',h1,h2⟩:=xU hrel hg0 hs hv hf mv
   have hab:aw mv r' st=ej st mv r':=by
    unfold eR at hf
    split at hf<;>try contradiction
    split at hf<;>try contradiction
    split at hf<;>try contradiction
    cases hf
    simp[aw,aF,bX,fK]
   rw[hab]
   exact⟨g',h1,hb.trans hrel h2⟩
/-! ### What is the same everywhere -/
theorem oX {d:D} (h:d.ground1=true) {v v':Value} (h1:VR w g d v) (h2:VR w' g' d v'):v=v':=by
 cases d<;>simp[D.ground1]at h<;>cases h1<;>cases h2<;>rfl
theorem jf {d:D} (h:d.ground1=true) {v:Value} (h1:VR w g d v) (w':World) (g':Ghost):VR w' g' d v:=by
 cases d<;>simp[D.ground1]at h<;>cases h1<;>constructor
theorem oQ {d:D} (h:(match (generalizing:=false) d with| .agg cs=>cs.all D.ground1|d=>d.ground1)=true) {v:Value} (h1:VR w g d v) (w':World) (g':Ghost):VR w' g' d v∧∀{v'},VR w' g' d v'→v=v':=by
 by_cases hd:∃cs,d=.agg cs
 ·obtain⟨cs,rfl⟩:=hd
  obtain⟨vs,rfl,hl,ho,hc⟩:=h1.agg_inv
  simp only[List.all_eq_true]at h
  refine⟨.agg cs vs hl ho (fun j c v p q=>jf (h c (List.mem_of_getElem? p)) (hc j c v p q) w' g'),fun{v'} h2=>?_⟩
  obtain⟨vs',rfl,hl',_,hc'⟩:=h2.agg_inv
  congr 1
  apply Array.ext (by omega)
  intro j p q
  have hj:j<cs.length:=by omega
  exact oX (h _ (List.getElem_mem hj)) (hc j _ _ (List.getElem?_eq_getElem hj) (Array.getElem?_eq_getElem p)) (hc' j _ _ (List.getElem?_eq_getElem hj) (Array.getElem?_eq_getElem q))
 ·have hg:d.ground1=true:=by
   cases d<;>first|exact absurd ⟨_,rfl⟩ hd|exact h
  exact⟨jf hg h1 w' g',fun{v'} h2=>oX hg h1 h2⟩
theorem oG {d:D} (h:d.ground=true) {v:Value} (h1:VR w g d v) (w':World) (g':Ghost):VR w' g' d v∧∀{v'},VR w' g' d v'→v=v':=by
 by_cases ht:∃vs,d=.tuple vs
 ·obtain⟨cs,rfl⟩:=ht
  have hfa:∀d∈cs,(match (generalizing:=false) d with| .agg cs=>cs.all D.ground1|d=>d.ground1)=true:=List.all_eq_true.1 h
  cases h1 with
  |tuple cs vs hl hc=>
   refine⟨.tuple cs vs hl (fun j c v p q=>(oQ (hfa c (List.mem_of_getElem? p)) (hc j c v p q) w' g').1),fun{v'} h2=>?_⟩
   cases h2 with
   |tuple cs vs' hl' hc'=>
    congr 1
    apply Array.ext (by omega)
    intro j p q
    have hj:j<cs.length:=by omega
    exact(oQ (hfa _ (List.getElem_mem hj)) (hc j _ _ (List.getElem?_eq_getElem hj) (Array.getElem?_eq_getElem p)) w' g').2 (hc' j _ _ (List.getElem?_eq_getElem hj) (Array.getElem?_eq_getElem q))
 ·have hf':(match (generalizing:=false) d with| .agg cs=>cs.all D.ground1|d=>d.ground1)=true:=by
   cases d<;>first|exact absurd ⟨_,rfl⟩ ht|exact h
  exact oQ hf' h1 w' g'
theorem rI {d:D} (h:d.ground=true) (mv:Bool) (st:Store):aw mv d st=(d,st):=by
 have:aF d=false:=by
  cases d with
  |tuple vs=>
   cases vs with
   |nil=>rfl
   |cons v r=>
    have hv:(match (generalizing:=false) v with| .agg cs=>cs.all D.ground1|d=>d.ground1)=true:=(List.all_eq_true.1 h) v (by simp)
    cases v with
    |agg cs=>cases cs with
     |nil=>rfl
     |cons c _=>have:=(List.all_eq_true.1 hv) c (by simp);cases c<;>simp_all[aF,bX,fK,D.ground1]
    |_=>simp_all[aF,bX,fK,D.ground1]
  |agg cs=>cases cs with
   |nil=>rfl
   |cons c _=>have:=(List.all_eq_true.1 h) c (by simp);cases c<;>simp_all[aF,bX,fK,D.ground1]
  |_=>simp_all[aF,bX,fK,D.ground,D.ground1]
 unfold aw
 rw[if_neg (by simp[this])]
 split
 ·rename_i v vs
  have hv:(match (generalizing:=false) v with| .agg cs=>cs.all D.ground1|d=>d.ground1)=true:=(List.all_eq_true.1 h) v (by simp)
  rw[fp st mv (fun sz xs e=>by subst e;simp[D.ground1]at hv)]
 ·exact fp st mv (fun sz xs e=>by subst e;simp[D.ground,D.ground1]at h)
end
end Go.Ev
