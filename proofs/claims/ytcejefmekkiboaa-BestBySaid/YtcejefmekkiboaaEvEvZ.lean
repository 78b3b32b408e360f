/-
  From the evaluator's answer to a row.
-/
import Derived.Test.YtcejefmekkiboaaEvEvY
import Derived.ProofKit
import Derived.ChangeSame
set_option linter.unusedVariables false
set_option linter.unusedSimpArgs false
set_option linter.unnecessarySimpa false
namespace Go.Ev
open Go.RowKit Go.WideShapes Go.ChangeShapes
section
variable {H:Type} {enc:TypeId×Value→H} {P:Program} {W W':World}
def HasArg (P:Program) (n:Nat) (t:TypeId) (d:D):Prop:=∃s cs,nQ P n t=some s∧HasShs s cs∧(∀c∈cs,c.plain=true)∧((bN P t=some true∧d=.agg cs)∨(bN P t=some false∧cs=[d]))
def HasArgs (P:Program) (n:Nat):List TypeId→List D→Prop
 |[],ds=>ds=[]
 |t::ts,ds=>∃d ds',ds=d::ds'∧HasArg P n t d∧HasArgs P n ts ds'
theorem EF {n base:Nat} {t:TypeId} {v:Value} {d:DataW H} {ps:List MemPlace} {s:List Sh} (hs:nQ P n t=some s) (h:DataW.Trod enc P W 0 (fun _=>true) true t v d ps) (hw:Value.okWide P W .any base t v):∃D,HasArg P n t D∧VR W (Cy W) D v:=by
 obtain⟨fuel,hf⟩:=h
 obtain⟨ds,h1,h2,h3⟩:=vz n t s hs _ _ ⟨fuel,hf⟩
 cases n with
 |zero=>simp[nQ]at hs
 |succ n=>
  have one:bN P t=some false→v.cells= #[v]→∃D,HasArg P (n+1) t D∧VR W (Cy W) D v:=fun ha hv=>by
   rw[hv]at h2
   have hl:=h2.1
   match ds,hl with
   |[d0],_=>exact⟨d0,⟨s,[d0],hs,h1,h3,.inr ⟨ha,rfl⟩⟩,h2.2 0 d0 v rfl rfl⟩
  have agg:bN P t=some true→(∃cs,v=.agg cs)→∃D,HasArg P (n+1) t D∧VR W (Cy W) D v:=fun ha ⟨cs,hv⟩=>by
   subst hv
   exact⟨.agg ds,⟨s,ds,hs,h1,h3,.inl ⟨ha,rfl⟩⟩,.agg ds cs (by simpa[Value.cells]using h2.1) (fun c hc=>D.plain_one (h3 c hc)) (fun j c u p q=>h2.2 j c u p (by simpa[Value.cells]using q))⟩
  simp only[nQ]at hs
  unfold Value.okWide at hw
  split at hs<;>try contradiction
  ·rename_i hT
   rw[hT]at hw
   exact one (by simp[bN,hT]) (by cases v<;>simp[Cell.okWide,hT,Cell.ok]at hw<;>rfl)
  ·rename_i k hT
   rw[hT]at hw
   exact one (by simp[bN,hT]) (by cases v<;>simp[Cell.okWide,hT,Cell.ok]at hw<;>rfl)
  ·rename_i hT
   rw[hT]at hw
   exact one (by simp[bN,hT]) (by cases v<;>simp[Cell.okWide,hT,Cell.ok]at hw<;>rfl)
  ·rename_i e hT
   rw[hT]at hw
   exact one (by simp[bN,hT]) (by cases v<;>simp[Cell.okWide,hT,Cell.ok]at hw<;>rfl)
  ·rename_i fs hT
   rw[hT]at hw
   obtain⟨cs,h,_⟩:=hw
   exact agg (by simp[bN,hT]) ⟨cs,h⟩
  ·rename_i m e hT
   rw[hT]at hw
   obtain⟨cs,h,_⟩:=hw
   exact agg (by simp[bN,hT]) ⟨cs,h⟩
theorem yB {n base:Nat}:∀{ts:List TypeId} {vs:List Value} {ds:List (DataW H)} {ps:List MemPlace},(∀t∈ts,∃s,nQ P n t=some s)→DataW.TrodAll enc P W 0 (fun _=>true) true ts vs ds ps→
  (∀(j:Nat) t v,ts[j]?=some t→vs[j]?=some v→Value.okWide P W .any base t v)→∃Ds,HasArgs P n ts Ds∧VRs W (Cy W) Ds vs
 |[],vs,ds,ps,_,h,_=>by
  cases vs with
  |nil=>exact⟨[],rfl,rfl,fun j d v p q=>by simp at p⟩
  |cons v vs=>cases ds<;>simp[DataW.TrodAll]at h
 |t::ts,vs,ds,ps,hs,h,hw=>by
  cases vs with
  |nil=>cases ds<;>simp[DataW.TrodAll]at h
  |cons v vs=>
   cases ds with
   |nil=>simp[DataW.TrodAll]at h
   |cons d ds=>
    obtain⟨p,q,h1,h2,_⟩:=h
    obtain⟨s,hs1⟩:=hs t (by simp)
    obtain⟨D1,h3,h4⟩:=EF (base:=base) hs1 h1 (hw 0 t v rfl rfl)
    obtain⟨Ds,h5,h6,h7⟩:=yB (fun t' ht'=>hs t' (by simp[ht'])) h2 (fun j t' v' p q=>hw (j+1) t' v' (by simpa using p) (by simpa using q))
    refine⟨D1::Ds,⟨D1,Ds,rfl,h3,h5⟩,by simp[h6],fun j d' v' p q=>?_⟩
    cases j with
    |zero=>simp at p q;subst p;subst q;exact h4
    |succ j=>exact h7 j d' v' (by simpa using p) (by simpa using q)
theorem jD {c:D} (h:c.plain=true):c.free1=true∧c.strip1=c:=by
 cases c<;>simp_all[D.plain,D.free1,D.strip1]
 ·rename_i t sz xs
  cases t<;>simp_all[Tok.strip]
 ·rename_i f caps
  cases caps<;>simp_all
theorem HasArg.pure_ {n:Nat} {t:TypeId} {d:D} (h:HasArg P n t d):d.freeA=true∧d.strip=d:=by
 obtain⟨s,cs,_,_,hp,h⟩:=h
 rcases h with⟨_,rfl⟩|⟨_,rfl⟩
 ·refine⟨List.all_eq_true.2 fun c hc=>(jD (hp c hc)).1,?_⟩
  simp only[D.strip,D.agg.injEq]
  exact(List.map_congr_left fun c hc=>(jD (hp c hc)).2).trans (by simp)
 ·have h1:=hp d (by simp)
  have h2:=jD h1
  refine⟨?_,?_⟩
  ·cases d<;>simp_all[D.freeA,D.plain]
  ·rw[lS h2.1];exact h2.2
theorem HasArgs.pure_ {n:Nat}:∀{ts:List TypeId} {ds:List D},HasArgs P n ts ds→∀d∈ds,d.freeA=true∧d.strip=d
 |[],ds,h,d,hd=>by simp[HasArgs]at h;subst h;simp at hd
 |t::ts,ds,h,d,hd=>by
  obtain⟨d0,ds',rfl,h1,h2⟩:=h
  rcases List.mem_cons.1 hd with rfl|hd
  ·exact h1.pure_
  ·exact h2.pure_ d hd
theorem Al {Γ:Nat→Option FD} (hk:Known P Γ) (hm:P.follows .mixedOrders=true) {f:FuncId} {n base:Nat} {ts:List TypeId} {args:Array Value} {ds:List (DataW H)} {ps:List MemPlace} (hs:ts.all (fun t=>(nQ P n t).isSome)=true)
  (hA:DataW.TrodAll enc P W 0 (fun _=>true) true ts args.toList ds ps) (hw:∀(j:Nat) t v,ts[j]?=some t→args.toList[j]?=some v→Value.okWide P W .any base t v)
  (law:∀Ds,HasArgs P n ts Ds→∃N,aM Γ N f Ds=some (.bool true)):Calls P f args W fun e W'=>e=.returned (.bool true)∧Below W.heap.size W W':=by
 obtain⟨Ds,h1,h2⟩:=yB (fun t ht=>Option.isSome_iff_exists.1 (List.all_eq_true.1 hs t ht)) hA hw
 obtain⟨N,hN⟩:=law Ds h1
 obtain⟨_,hC⟩:=(o8 hk hm N).pure_ hN h1.pure_ (tG W) h2
 refine hC.mono fun e W' hR=>?_
 obtain⟨v,rfl,_,hmv⟩:=hR
 obtain⟨g',hv,hst⟩:=hmv false
 have:v=.bool true:=VR.bool_inv hv
 subst this
 exact⟨rfl,hst.ext.below⟩
theorem mW (hl:laidOutB P=true) (hb:Below W.heap.size W W'):∀{ts:List TypeId} {vs:List Value} {ds:List (DataW H)} {ps:List MemPlace},(∀t∈ts,P.readableRec t=true∧t<P.types.size)→DataW.TrodAll enc P W 0 (fun _=>true) true ts vs ds ps→
  (∀x∈ps,x.block<W.heap.size)→∀sp:Nat→Bool,(∀x∈ps,sp x.block=true)→DataW.TrodAll enc P W' 0 sp true ts vs ds ps
 |[],vs,ds,ps,_,h,_,_,_=>by
  cases vs<;>cases ds<;>simp_all[DataW.TrodAll]
 |t::ts,vs,ds,ps,hr,h,hlt,sp,hsp=>by
  cases vs with
  |nil=>cases ds<;>simp[DataW.TrodAll]at h
  |cons v vs=>
   cases ds with
   |nil=>simp[DataW.TrodAll]at h
   |cons d ds=>
    obtain⟨p,q,h1,h2,rfl⟩:=h
    refine⟨p,q,?_,mW hl hb (fun t' ht'=>hr t' (by simp[ht'])) h2 (fun x hx=>hlt x (by simp[hx])) sp (fun x hx=>hsp x (by simp[hx])),rfl⟩
    exact WideElems.Trod_stays hl (hr t (by simp)).1 (hr t (by simp)).2 h1 (fun x hx=>hb.same (hlt x (by simp[hx]))) (fun x hx=>hsp x (by simp[hx]))
theorem B6 {f:Func} {s:ChangeSpec} {tb:TypeId} {args:Array Value} {ds gs:List (DataW H)} {before:List MemPlace} (hl:laidOutB P=true) (hrd:f.params.toList.all (fun t=>P.readableRec t&&decide (t<P.types.size))=true) (hvs:s.vars=[]) (hrt:f.resultTypes= #[tb]) (htb:P.underlying tb=some .bool)
  (hW:DataW.Whole enc P f.params.toList s.vars false W args.toList ds gs before) (hres:(s.fn H (ds++gs)).results=[.lit (.bool true)]) (hargs:(s.fn H (ds++gs)).args=ds) (hvars:(s.fn H (ds++gs)).vars=[]) (hb:Below W.heap.size W W'):s.post enc P f false true false false W args (.bool true) W':=by
 have hlt:∀p∈before,p.block<W.heap.size:=fun p hp=>hW.lt p hp
 have hW0:=hW
 obtain⟨p,q,hA,hV,hpq,_,_⟩:=hW0
 rw[hvs]at hV
 obtain⟨rfl,rfl⟩:=trodVars_none hV
 rw[List.append_nil]at hpq
 subst hpq
 refine⟨ds,[],before,[],before,[],hW,?_,?_,?_,World.keptBut_mono (fun p hp=>⟨hp,.inr (.inl hp)⟩) (hb.frame (· ∈before)),fun h=>by cases h⟩
 ·rw[hres,hrt]
  exact trodAll_mk1 (shut_bool htb _)
 ·rw[hargs]
  exact mW hl hb (fun t ht=>by simpa using List.all_eq_true.1 hrd t ht) hA hlt _ (fun p hp=>by simpa using hlt p hp)
 ·rw[hvs,hvars]
  exact rfl
end
end Go.Ev
