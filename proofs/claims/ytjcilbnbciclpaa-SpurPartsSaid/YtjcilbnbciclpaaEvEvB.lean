/-
  A part of the evaluator.
-/
import Derived.Test.YtjcilbnbciclpaaEvEvA
set_option linter.unusedVariables false
set_option linter.unusedSimpArgs false
set_option linter.unnecessarySimpa false
namespace Go.Ev
open Go.RowKit
section
variable {P:Program} {B:Nat} {w w':World} {g g':Ghost} {ρ:Nat→D} {st st':Store} {a:Act} {d:D} {o:Oper} {x:O}
theorem mt (sz:Nat):∀(xs:List D) (k:Nat) (pre zs:List D),pre.length=k*sz→zs.length=xs.length*sz→(∀x∈xs,x.cells.length=sz∧∀c∈x.cells,c.one=true)→
  gA ((xs.zipIdx k).map fun p=>(p.2*sz,sz,p.1)) (pre++zs)=some (pre++xs.flatMap D.cells)
 |[],k,pre,zs,h1,h2,_=>by
  have:zs=[]:=List.eq_nil_of_length_eq_zero (by simpa using h2)
  subst this
  simp[gA]
 |x::xs,k,pre,zs,h1,h2,h3=>by
  obtain⟨c1,c2⟩:=h3 x (by simp)
  have hz:sz≤zs.length:=by rw[h2,List.length_cons,Nat.succ_mul];omega
  simp only[List.zipIdx_cons,List.map_cons,gA]
  rw[if_pos ⟨c1,by rw[List.length_append,h1];omega,List.all_eq_true.2 c2⟩]
  have e1:(pre++zs).take (k*sz)=pre:=by rw[←h1];simp
  have e2:(pre++zs).drop (k*sz+sz)=zs.drop sz:=by rw[←h1,List.drop_append];simp
  rw[e1,e2]
  have:=mt sz xs (k+1) (pre++x.cells) (zs.drop sz) (by rw[List.length_append,h1,c1,Nat.succ_mul]) (by rw[List.length_drop,h2,List.length_cons,Nat.succ_mul];omega) (fun y hy=>h3 y (by simp[hy]))
  rw[this]
  simp[List.flatMap_cons]
theorem w6 {T:TypeId} {n:Nat} {parts:Array (Nat×Operand)} (ho:o.op=.buildSlice T n parts) (hc:ao P o.op=some x) (hr:x.run ρ st=some (d,st')) (he:EnvR w g ρ a.tmps) (hrel:Rel B w g st):oe P B w g st (execOp a.eval o) d st':=by
 rw[ho]at hc
 simp only[ao,Option.bind_eq_bind]at hc
 split at hc<;>try contradiction
 rename_i e hT
 simp only[Option.bind_eq_some_iff]at hc
 obtain⟨sz,hsz,z,hz,hc⟩:=hc
 split at hc<;>try contradiction
 rename_i hcond
 simp only[Bool.and_eq_true,decide_eq_true_eq,beq_iff_eq]at hcond
 obtain⟨⟨hidx,hzl⟩,hsz0⟩:=hcond
 simp only[Option.bind_eq_some_iff,Option.some.injEq]at hc
 obtain⟨ys,hys,rfl⟩:=hc
 obtain⟨it,zv,hit,hiz,hzv,hz1⟩:=gP hz
 obtain⟨zl,zr⟩:=(hzv w g).cells
 obtain⟨hl,hv⟩:=o6 he hys
 simp only[O.run]at hr
 split at hr<;>try contradiction
 rename_i hck
 simp only[Bool.and_eq_true,List.all_eq_true,beq_iff_eq,decide_eq_true_eq]at hck
 obtain⟨hck,hbig⟩:=hck
 simp only[Option.some.injEq,Prod.mk.injEq]at hr
 obtain⟨rfl,rfl⟩:=hr
 have hn:ys.length=n:=by
  have:=congrArg List.length hidx
  simp at this hl
  omega
 generalize hds:(ys.map fun x=>(x.ev ρ).strip)=ds
 have hdl:ds.length=n:=by rw[←hds];simpa using hn
 have hdx:∀x∈ds,x.cells.length=sz∧∀c∈x.cells,c.plain=true:=fun x hx=>by
  rw[←hds]at hx
  obtain⟨y,hy,rfl⟩:=List.mem_map.1 hx
  exact hck y hy
 generalize hzs:(List.range (n*sz)).map (fun k=>z.cells.getD (k%sz) .undef)=zs
 have hzvs:zv.cells.size=sz:=by omega
 have hzn:it.size=sz:=by simp[dg,hit]at hsz;exact hsz
 obtain⟨arr0,harr0,hrun0⟩:∃arr0:Array Value,(arr0.size=n*sz∧∀(k:Nat) c v,zs[k]?=some c→arr0[k]?=some v→VR w g c v)∧
   ∀w',(do let zero ←if n*sz=0 then pure #[]else do pure (←zeroValue e).cells
           pure ((Array.range (n*sz)).map (zero[· %zero.size]!)):Sem (Array Value)).run P w'=.ok arr0 w':=by
  refine⟨(Array.range (n*sz)).map (zv.cells[· %zv.cells.size]!),⟨by simp,fun k c v p q=>?_⟩,fun w'=>?_⟩
  ·rw[←hzs]at p
   simp only[List.getElem?_map,Option.map_eq_some_iff]at p
   obtain⟨k',hk',rfl⟩:=p
   have hlt:k<n*sz:=by have:=(List.getElem?_eq_some_iff.1 hk').1;simpa using this
   rw[List.getElem?_range hlt]at hk'
   cases hk'
   have hm:k%sz<sz:=Nat.mod_lt _ hsz0
   rw[Array.getElem?_map,Array.getElem?_range,if_pos hlt]at q
   simp only[Option.map_some,Option.some.injEq,hzvs]at q
   subst q
   have h1:z.cells[k%sz]?=some (z.cells[k%sz]'(by omega)):=List.getElem?_eq_getElem (by omega)
   have h2:zv.cells[k%sz]?=some (zv.cells[k%sz]'(by omega)):=Array.getElem?_eq_getElem (by omega)
   rw[List.getD,h1,getElem!_pos zv.cells (k%sz) (by omega)]
   exact zr _ _ _ h1 h2
  ·by_cases h0:n*sz=0
   ·simp[h0]
   ·simp[h0,zeroValue,typeInfo,hit,hiz]
 have hzsl:zs.length=ds.length*sz:=by rw[←hzs,hdl];simp
 have hfd:=mt sz ds 0 [] zs (by simp) hzsl (fun x hx=>⟨(hdx x hx).1,fun c hc=>D.plain_one ((hdx x hx).2 c hc)⟩)
 simp only[List.nil_append]at hfd
 have hpl:parts.toList.length=n:=by have:=congrArg List.length hidx;simpa using this
 obtain⟨arr,ha1,ha2,ha3,ha4⟩:=pe (w:=w) (g:=g) (fun i=>some (i*sz,sz)) _ (parts.toList.map fun p=>(p.1,a.eval p.2)) zs _ arr0 hfd (by simp[hdl,hpl])
  (fun j f p p1 p2=>by
   simp only[List.getElem?_map,Option.map_eq_some_iff]at p1 p2
   obtain⟨⟨dx,i⟩,q1,rfl⟩:=p1
   obtain⟨p0,q2,rfl⟩:=p2
   rw[List.getElem?_zipIdx]at q1
   simp only[Option.map_eq_some_iff]at q1
   obtain⟨dx',q3,q4⟩:=q1
   cases q4
   have hj:j<n:=by have:=(List.getElem?_eq_some_iff.1 q2).1;omega
   have hp0:p0.1=j:=by
    have:(parts.toList.map (·.1))[j]?=some p0.1:=by simp[q2]
    rw[hidx,List.getElem?_range hj]at this
    exact(Option.some.inj this).symm
   simp only[Nat.zero_add,hp0,true_and]
   rw[←hds]at q3
   simp only[List.getElem?_map,Option.map_eq_some_iff]at q3
   obtain⟨y,q5,rfl⟩:=q3
   exact(hv j _ _ (by simp[q5]) (by simp[q2])).strip)
  (by rw[hzsl,hdl,harr0.1]) (fun c hc=>by
   rw[←hzs]at hc
   obtain⟨k,_,rfl⟩:=List.mem_map.1 hc
   have hm:k%sz<z.cells.length:=by rw[hzl];exact Nat.mod_lt _ hsz0
   rw[List.getD,List.getElem?_eq_getElem hm]
   exact hz1 _ (List.getElem_mem hm)) harr0.2
 have hrun:(execOp a.eval o).run P w=.ok (.value (.slice (some ⟨w.heap.size,0,none⟩) n n)) (w.alloc (.cells arr e)):=by
  have hb:¬(n*sz>2 ^ 24):=by rw[hn]at hbig;omega
  have hr0:=hrun0 w
  have hfill:Instr.fill (fun i=>some (i*sz,sz)) arr0 (parts.map fun p=>(p.1,a.eval p.2)).toList=some arr:=by rw[Array.toList_map];exact ha1
  simp only[execOp,ho,Instr.buildSlice,Sem.run_bind,run_underlying hT,Result.andThen_ok,bg hsz,hb,if_false]
  clear hr0
  by_cases h0:n*sz=0
  ·have hr0:=hrun0 w
   simp only[h0,if_true,Sem.run_bind,Sem.run_pure,Result.andThen_ok,pure_bind,Result.ok.injEq,and_true]at hr0 ⊢
   simp only[hr0,hfill,Sem.run_bind,newRow,newObj,Sem.run_pure]
   rfl
  ·have hr0:=hrun0 w
   have hzz:(zeroValue e).run P w=.ok zv w:=by simp[zeroValue,typeInfo,hit,hiz]
   simp only[h0,if_false,Sem.run_bind,Sem.run_pure,Result.andThen_ok,pure_bind,hzz,Result.ok.injEq,and_true]at hr0 ⊢
   simp only[hr0,hfill,Sem.run_bind,newRow,newObj,Sem.run_pure]
   rfl
 have hb2:arr.size=n*sz:=by
  rw[←ha2,eE D.cells sz ds (fun x hx=>(hdx x hx).1),hdl]
 have hds2:(ds.flatMap D.cells).length=n*sz:=by rw[eE D.cells sz ds (fun x hx=>(hdx x hx).1),hdl]
 have hheap:(w.alloc (.cells arr e)).heap[w.heap.size]?=some (.cells arr e (0,0)):=heap_alloc_new w _
 have hw1:=Step.below_ hrel (dE w (.cells arr e))
 have nob:∀l,g.ι l≠some w.heap.size:=fun l h=>by have:=hrel.ltι l _ h;omega
 have noτ:∀t r',st.toks t=true→g.τ t=some r'→r'.b≠w.heap.size:=fun t r' h1 h2 h3=>by
  obtain⟨_,_,h4,_⟩:=hrel.tok t r' h1 h2
  have:=(Array.getElem?_eq_some_iff.1 h4).1
  omega
 have hw2:=Step.settle hw1.rel (lo:=0) (hi:=n*sz) hrel.base hheap (by rw[hb2];exact Nat.le_refl _) (fun l _ _=>nob l) (fun t r' h1 h2 h3=>absurd h3 (noτ t r' h1 h2))
 have hall:=hw1.trans hrel hw2
 refine⟨_,_,_,_,hrun,.inl rfl,?_,hall⟩
 have:=VR.row (w:=w.alloc (.cells arr e)) (g:=g.more w.heap.size 0 (n*sz)) (t:=.exact) (sz:=sz) (xs:=ds) (ad:=⟨w.heap.size,0,none⟩) (cap:=n) (cells:=arr.toList)
  hsz0 rfl (by rw[hdl];exact Nat.le_refl _) hdl.symm hdx (by rw[hdl];simpa using hb2) (fun k v hk=>?_) (fun k c v p q=>(ha4 k c v p (by simpa using q)).mono hall.ext)
 ·rw[hdl]at this
  exact this
 ·have hkl:=(List.getElem?_eq_some_iff.1 hk).1
  simp only[Array.length_toList,hb2]at hkl
  simp only[Nat.zero_add]
  exact⟨.inr ⟨rfl,by omega,by omega⟩,by rw[bc hheap];simpa using hk⟩
end
end Go.Ev
