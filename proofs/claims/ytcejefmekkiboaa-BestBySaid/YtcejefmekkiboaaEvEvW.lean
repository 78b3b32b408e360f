/-
  The operations that make memory or write.
-/
import Derived.Test.YtcejefmekkiboaaEvEvQ5
import Derived.Laws.CopyRow
import Derived.Maps.AppendAt
set_option linter.unusedVariables false
set_option linter.unusedSimpArgs false
set_option linter.unnecessarySimpa false
namespace Go.Ev
open Go.RowKit
def rJ (P:Program) (B:Nat) (w:World) (g:Ghost) (st:Store) (s:Sem Next) (d:D) (st':Store):Prop:=
 ∃nx v w' g',s.run P w=.ok nx w'∧(nx=.value v∨(nx=.skip∧v=Go.undef))∧VR w' g' d v∧Step B w g st w' g' st'
section
variable {P:Program} {B:Nat} {w w':World} {g g':Ghost} {ρ:Nat→D} {st st':Store} {a:Act} {d:D} {o:Oper} {x:O}
theorem AG (h:Rel B w g st) {b o:Nat} (hS:g.S b o):b<w.heap.size:=by
 exact h.S b o hS
theorem MapR.mono (e:Ext B w g w' g') {kv:List (Int×D)} {es:Array MapEntry} {cl:Nat} (h:MapR w g kv es cl):MapR w' g' kv es cl:=by
 obtain⟨⟨kv0,h1,h2,h3⟩,h4,h5,h6⟩:=h
 exact⟨⟨kv0,h1,h2,fun j k d e' p q=>⟨(h3 j k d e' p q).1,(h3 j k d e' p q).2.mono e⟩⟩,h4,h5,h6⟩
theorem BoxR.mono (e:Ext B w g w' g') {b:Nat} (hb:w'.heap[b]?=w.heap[b]?) {x:Box} (h:BoxR w g b x):BoxR w' g' b x:=by
 cases x with
 |cells cs=>
  obtain⟨vs,T,h1,h2,h3,h4⟩:=h
  exact⟨vs,T,hb.trans h1,h2,h3,fun j c v p q=>(h4 j c v p q).mono e⟩
 |row cs=>
  obtain⟨vs,T,h1,h2,h3,h4⟩:=h
  exact⟨vs,T,hb.trans h1,h2,h3,fun j c v p q=>(h4 j c v p q).mono e⟩
 |map kv=>
  obtain⟨es,cl,h1,h2⟩:=h
  exact⟨es,cl,hb.trans h1,h2.mono e⟩
 |mapE kv es cl=>
  obtain⟨h1,h2⟩:=h
  exact⟨hb.trans h1,h2.mono e⟩
 |iter m es cl ks=>
  obtain⟨bm,seen,h1,h2,h3⟩:=h
  exact⟨bm,seen,e.ι _ _ h1,hb.trans h2,h3⟩
theorem Ext.below_ (h:Rel B w g st) (hb:Below w.heap.size w w'):Ext B w g w' g where
 below:=hb.mono h.base
 S _ _ h:=h
 cell b o hS:=hb.cell (p:=⟨b,o,none⟩) (AG h hS)
 whole b hS:=hb.block b (AG h (hS 0))
 ι _ _ h:=h
 τ _ _ h:=h
 new _ _ h:=.inl h
 keep l b vs T fr hl hv:=⟨vs,(hb.block b (h.ltι l b hl)).trans hv,rfl⟩
theorem Rel.below_ (h:Rel B w g st) (hb:Below w.heap.size w w'):Rel B w' g st where
 base:=Nat.le_trans h.base hb.size
 S b o hS:=by
   exact Nat.lt_of_lt_of_le (h.S b o hS) hb.size
 box l x hx:=by
  obtain⟨b,h1,h2,h3,h4⟩:=h.box l x hx
  exact⟨b,h1,h2,h3,h4.mono (Ext.below_ h hb) (hb.block b (h.ltι l b h1))⟩
 inj:=h.inj
 tok t r ht hr:=by
  obtain⟨cs,h1,h2,h3⟩:=h.tok t r ht hr
  have hlt:r.b<w.heap.size:=(Array.getElem?_eq_some_iff.1 h2).1
  exact⟨cs,h1,(hb.block _ hlt).trans h2,h3⟩
 uniq:=h.uniq
 apart:=h.apart
 newι:=h.newι
 newτ:=h.newτ
 ltι l b hl:=Nat.lt_of_lt_of_le (h.ltι l b hl) hb.size
 limι:=h.limι
 limτ:=h.limτ
theorem Step.below_ (h:Rel B w g st) (hb:Below w.heap.size w w'):Step B w g st w' g st where
 ext:=Ext.below_ h hb
 rel:=h.below_ hb
 lock l b x _ _ hl:=hb.block b (h.ltι l b hl)
 lockτ t r _ ht hr:=by
  obtain⟨cs,h1,h2,h3⟩:=h.tok t r ht hr
  exact hb.block _ (Array.getElem?_eq_some_iff.1 h2).1
 eqι _ _:=rfl
 eqτ _ _:=rfl
 lim:=rfl
 tlim:=rfl
 next:=Nat.le_refl _
 ntok:=Nat.le_refl _
 boxes _ _:=rfl
 toks _ _:=rfl
theorem fu (w:World) (o:Obj):Below w.heap.size w (w.alloc o):=(Below.refl _ _).alloc (Nat.le_refl _) o
theorem cP (w:World):Below w.heap.size w w.drew:=⟨rfl,rfl,rfl,Nat.le_refl _,fun _ _=>rfl⟩
theorem Step.name (h:Rel B w g st) {b:Nat} {x:Box} (hb:b<w.heap.size) (hB:B≤b) (hS:∀o,¬g.S b o) (hι:∀l y,st.boxes l=some y→g.ι l≠some b) (hτ:∀t r,st.toks t=true→g.τ t=some r→r.b≠b) (hx:BoxR w g b x):
  Step B w g st w {g with ι:=ap g.ι st.next (some b)} {st with boxes:=ap st.boxes st.next (some x),next:=st.next+1}:=by
 have hext:Ext B w g w {g with ι:=ap g.ι st.next (some b)}:=⟨Below.refl _ _,fun _ _ h=>h,fun _ _ _=>rfl,fun _ _=>rfl,fun l b' hl=>by
  have:l≠st.next:=by rintro rfl;rw[h.newι _ (Nat.le_refl _)]at hl;cases hl
  simpa[ab _ _ this]using hl,fun _ _ h=>h,fun _ _ h=>.inl h,fun _ _ vs _ _ _ h=>⟨vs,h,rfl⟩⟩
 refine⟨hext,⟨h.base,h.S,fun l y hy=>?_,fun l l' b' y y' hy hy' p q=>?_,fun t r p q=>h.tok t r p q,fun t t' r r' p q s u v=>h.uniq t t' r r' p q s u v,fun t r l b' p q s=>?_,fun l hl=>?_,h.newτ,fun l b' p=>?_,by have:=h.limι;show st.lim≤st.next+1;omega,h.limτ⟩,fun l b' _ _ _ _=>rfl,fun _ _ _ _ _=>rfl,fun l hl=>?_,fun _ _=>rfl,rfl,rfl,by show st.next≤st.next+1;omega,Nat.le_refl _,fun l hl=>?_,fun _ _=>rfl⟩
 ·by_cases e:l=st.next
  ·subst e
   simp only[ae]at hy ⊢
   cases hy
   exact⟨b,rfl,hB,hS,hx.mono hext rfl⟩
  ·simp only[ab _ _ e]at hy ⊢
   obtain⟨b',h1,h2,h3,h4⟩:=h.box l y hy
   exact⟨b',h1,h2,h3,h4.mono hext rfl⟩
 ·by_cases e:l=st.next<;>by_cases e':l'=st.next
  ·rw[e,e']
  ·subst e
   simp only[ae,ab _ _ e']at p q hy'
   cases p
   exact absurd q (hι l' y' hy')
  ·subst e'
   simp only[ae,ab _ _ e]at p q hy
   cases q
   exact absurd p (hι l y hy)
  ·simp only[ab _ _ e,ab _ _ e']at p q hy hy'
   exact h.inj l l' b' y y' hy hy' p q
 ·by_cases e:l=st.next
  ·subst e
   simp only[ae]at s
   cases s
   exact hτ t r p q
  ·simp only[ab _ _ e]at s
   exact h.apart t r l b' p q s
 ·have:l≠st.next:=by simp only at hl;omega
  simp only[ab _ _ this]
  exact h.newι l (by simp only at hl;omega)
 ·by_cases e:l=st.next
  ·subst e
   simp only[ae]at p
   cases p
   exact hb
  ·simp only[ab _ _ e]at p
   exact h.ltι l b' p
 ·have:l≠st.next:=by omega
  simp[ab _ _ this]
 ·have:l≠st.next:=by have:=h.limι;omega
  simp[ab _ _ this]
theorem Step.newBox (h:Rel B w g st) (ob:Obj) {x:Box} (hx:BoxR (w.alloc ob) g w.heap.size x):
  Step B w g st (w.alloc ob) {g with ι:=ap g.ι st.next (some w.heap.size)} {st with boxes:=ap st.boxes st.next (some x),next:=st.next+1}:=by
 have h1:=Step.below_ h (fu w ob)
 refine h1.trans h (Step.name h1.rel (by simp) h.base (fun o hS=>?_) (fun l y hy hl=>?_) (fun t r ht hr hb=>?_) hx)
 ·have:=AG h hS;omega
 ·have:=h.ltι l _ hl;omega
 ·obtain⟨cs,_,h2,_⟩:=h.tok t r ht hr
  have:=(Array.getElem?_eq_some_iff.1 h2).1
  omega
theorem Dp {T:TypeId} (ho:o.op=.alloc T) (hc:aq P o.op=some x) (hr:x.run ρ st=some (d,st')) (hrel:Rel B w g st):rJ P B w g st (execOp a.eval o) d st':=by
 rw[ho]at hc
 simp only[aq,Option.bind_eq_bind,Option.bind_eq_some_iff,Option.some.injEq]at hc
 obtain⟨z,hz,rfl⟩:=hc
 obtain⟨i,v,hi,hiz,hv,hone⟩:=kp hz
 simp only[O.run,Option.some.injEq,Prod.mk.injEq]at hr
 obtain⟨rfl,rfl⟩:=hr
 obtain⟨c1,c2⟩:=(hv (w.alloc (.cells v.cells T)) g).cells
 have hs:=Step.newBox hrel (.cells v.cells T) (x:=.cells z.cells) ⟨v.cells,T,heap_alloc_new w _,c1,hone,c2⟩
 exact⟨_,_,_,_,by simp[execOp,ho,Instr.alloc,zeroValue,typeInfo,hi,hiz,newVar,newRow,newObj,Sem.run],.inl rfl,.ptr _ 0 w.heap.size (by simp[ae]),hs⟩
theorem Gh {T:TypeId} {y:Operand} (ho:o.op=.box T y) (hc:aq P o.op=some x) (hr:x.run ρ st=some (d,st')) (he:EnvR w g ρ a.tmps) (hrel:Rel B w g st):rJ P B w g st (execOp a.eval o) d st':=by
 rw[ho]at hc
 simp only[aq,Option.bind_eq_bind,Option.bind_eq_some_iff,Option.some.injEq]at hc
 obtain⟨s,hs,y',hy,rfl⟩:=hc
 simp only[O.run]at hr
 split at hr<;>try contradiction
 rename_i hcc
 simp only[Option.some.injEq,Prod.mk.injEq]at hr
 obtain⟨rfl,rfl⟩:=hr
 have h1:=(co he hy).mono (Ext.below_ hrel (fu w (.cells (a.eval y).cells T)))
 obtain⟨c1,c2⟩:=h1.cells
 have hs:=Step.newBox hrel (.cells (a.eval y).cells T) (x:=.cells (y'.ev ρ).cells) ⟨_,T,heap_alloc_new w _,c1,fun c hc=>List.all_eq_true.1 hcc.2 c hc,c2⟩
 exact⟨_,_,_,_,by simp[execOp,ho,Instr.box,newVar,newRow,newObj,Sem.run],.inl rfl,.ptr _ 0 w.heap.size (by simp[ae]),hs⟩
theorem C0 {T:TypeId} {r:Option Operand} (ho:o.op=.makeMap T r) (hc:aq P o.op=some x) (hr:x.run ρ st=some (d,st')) (hrel:Rel B w g st):rJ P B w g st (execOp a.eval o) d st':=by
 rw[ho]at hc
 cases r<;>simp[aq]at hc
 split at hc<;>simp at hc
 subst hc
 simp only[O.run,Option.some.injEq,Prod.mk.injEq]at hr
 obtain⟨rfl,rfl⟩:=hr
 have hs:=Step.newBox hrel (.map #[] 0) (x:=.map []) ⟨#[],0,heap_alloc_new w _,⟨[],.refl _,rfl,fun j k d e p q=>by simp at p⟩,by simp,by simp,by simp⟩
 exact⟨_,_,_,_,by simp[execOp,ho,Instr.makeMap,newObj,Sem.run],.inl rfl,.map _ w.heap.size (by simp[ae]),hs⟩
structure Touch (b:Nat) (w w':World):Prop where
 os:w'.os=w.os
 tape:w'.tape=w.tape
 output:w'.output=w.output
 size:w'.heap.size=w.heap.size
 other:∀k,k≠b→w'.heap[k]?=w.heap[k]?
 kept:∀vs T fr,w.heap[b]?=some (.cells vs T fr)→∃vs':Array Value,w'.heap[b]?=some (.cells vs' T fr)∧vs'.size=vs.size
theorem Touch.keep {b:Nat} (ht:Touch b w w') (b':Nat) (vs:Array Value) (T:TypeId) (fr:Nat×Nat) (h:w.heap[b']?=some (.cells vs T fr)):∃vs':Array Value,w'.heap[b']?=some (.cells vs' T fr)∧vs'.size=vs.size:=by
 by_cases e:b'=b
 ·subst e;exact ht.kept vs T fr h
 ·exact⟨vs,(ht.other b' e).trans h,rfl⟩
theorem Ext.touch (h:Rel B w g st) {b:Nat} (hB:B≤b) (hS:∀o,¬g.S b o) (ht:Touch b w w'):Ext B w g w' g where
 below:=⟨ht.os,ht.tape,ht.output,by rw[ht.size];exact Nat.le_refl _,fun k hk=>ht.other k (by omega)⟩
 S _ _ h:=h
 cell b' o hb':=by
  have:b'≠b:=by rintro rfl;exact hS o hb'
  simp[World.cell?,ht.other b' this]
 whole b' hb':=ht.other b' (by rintro rfl;exact hS 0 (hb' 0))
 ι _ _ h:=h
 τ _ _ h:=h
 new _ _ h:=.inl h
 keep l b' vs T fr _ hv:=ht.keep b' vs T fr hv
theorem Step.setBox (h:Rel B w g st) {l b:Nat} {x0 x:Box} (hx0:st.boxes l=some x0) (hb:g.ι l=some b) (hlim:¬l<st.lim) (ht:Touch b w w') (hx:BoxR w' g b x):
  Step B w g st w' g {st with boxes:=ap st.boxes l (some x)}:=by
 obtain⟨b',hb',hB,hS,_⟩:=h.box l x0 hx0
 rw[hb]at hb'
 cases hb'
 have hext:=Ext.touch h hB hS ht
 have live:∀l' y,ap st.boxes l (some x) l'=some y→∃y0,st.boxes l'=some y0:=fun l' y hy=>by
  by_cases e:l'=l
  ·subst e;exact⟨x0,hx0⟩
  ·simp only[ab _ _ e]at hy;exact⟨y,hy⟩
 refine⟨hext,⟨by rw[ht.size];exact h.base,fun b' o hS'=>?_,fun l' y hy=>?_,fun l1 l2 b' y1 y2 hy1 hy2=>?_,fun t r p q=>?_,h.uniq,h.apart,h.newι,h.newτ,fun l' b' p=>by rw[ht.size];exact h.ltι l' b' p,h.limι,h.limτ⟩,fun l' b' y hl' hy hb'=>?_,fun t r h1 h2 h3=>?_,fun _ _=>rfl,fun _ _=>rfl,rfl,rfl,Nat.le_refl _,Nat.le_refl _,fun l' hl'=>?_,fun _ _=>rfl⟩
 ·rw[ht.size];exact h.S b' o hS'
 ·by_cases e:l'=l
  ·subst e
   simp only[ae]at hy
   cases hy
   exact⟨b,hb,hB,hS,hx⟩
  ·simp only[ab _ _ e]at hy
   obtain⟨b',h1,h2,h3,h4⟩:=h.box l' y hy
   have:b'≠b:=by rintro rfl;exact e (h.inj l' l _ _ _ hy hx0 h1 hb)
   exact⟨b',h1,h2,h3,h4.mono hext (ht.other b' this)⟩
 ·obtain⟨z1,hz1⟩:=live l1 y1 hy1
  obtain⟨z2,hz2⟩:=live l2 y2 hy2
  exact h.inj l1 l2 b' z1 z2 hz1 hz2
 ·obtain⟨cs,h1,h2,h3⟩:=h.tok t r p q
  have:r.b≠b:=h.apart t r l b p q hb
  exact⟨cs,h1,(ht.other _ this).trans h2,h3⟩
 ·have:b'≠b:=by
   rintro rfl
   have:=h.inj l' l _ _ _ hy hx0 hb' hb
   omega
  exact ht.other b' this
 ·exact ht.other _ (h.apart t r l b h2 h3 hb)
 ·have:l'≠l:=by omega
  simp[ab _ _ this]
theorem VR.one {c:D} {v:Value} (h:VR w g c v) (ho:c.one=true):v.oneCell'=true:=by
 cases h<;>first|rfl|(simp[D.one]at ho)
theorem dC (w:World) (b:Nat) (cs vs:Array Value) {T:TypeId} {fr:Nat×Nat} (hh:w.heap[b]?=some (.cells vs T fr)) (hn:cs.size=vs.size):Touch b w (w.setRow b cs):=
 ⟨rfl,rfl,rfl,by simp[World.setRow],fun k hk=>setRow_other w b k _ hk,fun vs' T' fr' h=>by
  rw[hh]at h
  cases h
  exact⟨cs,setRow_heap w b vs cs T fr hh,hn⟩⟩
theorem BoxR.set_ok {b:Nat} {x0:Box} {cs cs':List D} (h:BoxR w g b x0) (hx:x0.cs=some cs) (hlen:cs'.length=cs.length) {vs new:Array Value} {T T':TypeId} (hh:w.heap[b]?=some (.cells vs T (0,0)))
  (hh':w'.heap[b]?=some (.cells new T' (0,0))) (hn:new.size=vs.size) (ho:∀c∈cs',c.one=true) (hv:∀(j:Nat) c v,cs'[j]?=some c→new[j]?=some v→VR w' g' c v):BoxR w' g' b (x0.set cs'):=by
 cases x0 with
 |cells cs0=>
  cases hx
  obtain⟨vs',T'',h1,h2,_⟩:=h
  rw[hh]at h1
  cases h1
  exact⟨new,T',hh',by omega,ho,hv⟩
 |row cs0=>
  cases hx
  obtain⟨vs',T'',h1,h2,_⟩:=h
  rw[hh]at h1
  cases h1
  exact⟨new,T',hh',by omega,ho,hv⟩
 |map kv=>cases hx
 |mapE kv es cl=>cases hx
 |iter m es cl ks=>cases hx
theorem CY {T:TypeId} {y z:Operand} (ho:o.op=.store T y z) (hc:aq P o.op=some x) (hr:x.run ρ st=some (d,st')) (he:EnvR w g ρ a.tmps) (hrel:Rel B w g st):rJ P B w g st (execOp a.eval o) d st':=by
 rw[ho]at hc
 simp only[aq,Option.bind_eq_bind,Option.bind_eq_some_iff,Option.some.injEq]at hc
 obtain⟨s,hs,y',hy,z',hz,rfl⟩:=hc
 have h1:=co he hy
 have h2:=co he hz
 simp only[O.run]at hr
 split at hr<;>try contradiction
 rename_i l off hcv
 split at hr<;>try contradiction
 rename_i hlim
 obtain⟨x0,hbx,hr⟩:=Option.bind_eq_some_iff.1 hr
 obtain⟨cs,hcsx,hr⟩:=Option.bind_eq_some_iff.1 hr
 simp only[Option.map_eq_some_iff,Prod.mk.injEq]at hr
 obtain⟨cs',hf,rfl,rfl⟩:=hr
 rw[hcv]at h1
 obtain⟨b,hb,hu⟩:=VR.ptr_inv h1
 obtain⟨b',hb',hB,hS,hbr⟩:=hrel.box l _ hbx
 obtain⟨vs,T',hh,hl,hone,hv⟩:=hbr.cs_inv hcsx
 rw[hb]at hb'
 cases hb'
 obtain⟨c1,c2⟩:=h2.cells
 have hf':=hf
 simp only[jt]at hf'
 split at hf'<;>try contradiction
 rename_i hcc
 obtain⟨d1,d2,d3⟩:=hcc
 injection hf' with hf'
 have hst:=run_storeCells_at P b off T' (a.eval z).cells.toList 0 vs w hh (by simp;omega) (fun v hv=>by
  obtain⟨j,hj,rfl⟩:=List.getElem_of_mem hv
  have hj':j<(z'.ev ρ).cells.length:=by simp at hj;omega
  exact(c2 j _ _ (List.getElem?_eq_getElem hj') (by simpa using hj)).one (List.all_eq_true.1 d3 _ (List.getElem_mem hj')))
 simp only[Nat.add_zero]at hst
 generalize hnew:(vs.toList.take off++(a.eval z).cells.toList++vs.toList.drop (off+(a.eval z).cells.toList.length)).toArray=new at hst
 have hnl:new.size=vs.size:=by rw[←hnew];simp;omega
 have ht:=dC w b new vs hh hnl
 have hext:=Ext.touch hrel hB hS ht
 have hbox:BoxR (w.setRow b new) g b (x0.set cs'):=by
  refine hbr.set_ok hcsx ?_ hh (setRow_heap w b vs new T' (0,0) hh) hnl ?_ ?_
  ·rw[←hf'];simp;omega
  ·intro c hc
   rw[←hf']at hc
   rcases List.mem_append.1 hc with hc|hc
   ·rcases List.mem_append.1 hc with hc|hc
    ·exact hone c (List.mem_of_mem_take hc)
    ·exact List.all_eq_true.1 d3 c hc
   ·exact hone c (List.mem_of_mem_drop hc)
  ·intro j c v p q
   refine VR.mono hext ?_
   rw[←hf',List.append_assoc,List.getElem?_append]at p
   have q':(vs.toList.take off++((a.eval z).cells.toList++vs.toList.drop (off+(a.eval z).cells.toList.length)))[j]?=some v:=by
    rw[←hnew]at q
    simpa[List.append_assoc]using q
   rw[List.getElem?_append]at q'
   have t1:(cs.take off).length=off:=by simp;omega
   have t2:(vs.toList.take off).length=off:=by simp;omega
   rw[t1]at p
   rw[t2]at q'
   split at p
   ·rename_i hlt
    rw[if_pos hlt]at q'
    rw[List.getElem?_take_of_lt hlt]at p q'
    exact hv j c v p (by simpa using q')
   ·rename_i hlt
    rw[if_neg hlt]at q'
    rw[List.getElem?_append]at p q'
    rw[d1]at p
    simp only[Array.length_toList,←c1,d1]at q'
    split at p
    ·rename_i hlt2
     rw[if_pos hlt2]at q'
     exact c2 _ c v p (by simpa using q')
    ·rename_i hlt2
     rw[if_neg hlt2]at q'
     rw[List.getElem?_drop]at p q'
     exact hv _ c v p (by simpa using q')
 refine⟨.skip,Go.undef,w.setRow b new,g,?_,.inr ⟨rfl,rfl⟩,.undef,Step.setBox hrel hbx hb hlim ht hbox⟩
 have hsz:∀w',(sizeOf T).run P w'=.ok s w':=bO hs
 have hcs:(a.eval z).cells.size=s:=by omega
 simp[execOp,ho,hu,Instr.storeAt,Instr.sureAddr,storeVar,hsz,hcs,hst]
theorem i7 {α:Type} {cs ys:List α} {p j:Nat} (hp:p≤cs.length):(cs.take p++ys++cs.drop (p+ys.length))[j]?=if j<p then cs[j]? else if j<p+ys.length then ys[j - p]? else cs[j]?:=by
 have tl:(cs.take p).length=p:=by simp;omega
 rw[List.append_assoc,List.getElem?_append,tl]
 split
 ·rename_i h
  rw[List.getElem?_take_of_lt h]
 ·rename_i h
  rw[List.getElem?_append]
  by_cases h2:j<p+ys.length
  ·rw[if_pos (by omega),if_pos h2]
  ·rw[if_neg (by omega),if_neg h2,List.getElem?_drop]
   congr 1
   omega
theorem Ew (hrel:Rel B w g st) {l b off:Nat} {x0:Box} {cs ys:List D} {us:List Value} (hbx:st.boxes l=some x0) (hcs:x0.cs=some cs) (hb:g.ι l=some b) (hlim:¬l<st.lim) (hfit:off+ys.length≤cs.length)
  (hl:ys.length=us.length) (ho:∀c∈ys,c.one=true) (hv:∀(j:Nat) c u,ys[j]?=some c→us[j]?=some u→VR w g c u):
  ∃w',(storeCells ⟨b,off,none⟩ us).run P w=.ok () w'∧Step B w g st w' g {st with boxes:=ap st.boxes l (some (x0.set (cs.take off++ys++cs.drop (off+ys.length))))}:=by
 obtain⟨b',hb',hB,hS,hbr⟩:=hrel.box l _ hbx
 obtain⟨vs,T,hh,hle,hone,hvv⟩:=hbr.cs_inv hcs
 rw[hb]at hb'
 cases hb'
 have hst:=run_storeCells_at P b off T us 0 vs w hh (by omega) (fun u hu=>by
  obtain⟨j,hj,rfl⟩:=List.getElem_of_mem hu
  have hj':j<ys.length:=by omega
  exact(hv j _ _ (List.getElem?_eq_getElem hj') (List.getElem?_eq_getElem hj)).one (ho _ (List.getElem_mem hj')))
 simp only[Nat.add_zero]at hst
 generalize hnew:(vs.toList.take off++us++vs.toList.drop (off+us.length)).toArray=new at hst
 have hns:new.size=vs.size:=by rw[←hnew];simp;omega
 have hh2:=setRow_heap w b vs new T (0,0) hh
 have hext:=Ext.touch hrel hB hS (dC w b new vs hh hns)
 refine⟨_,hst,Step.setBox hrel hbx hb hlim (dC w b new vs hh hns) (hbr.set_ok hcs (by simp;omega) hh hh2 hns (fun c hc=>?_) (fun j c u p q=>VR.mono hext ?_))⟩
 ·rcases List.mem_append.1 hc with h|h
  ·rcases List.mem_append.1 h with h|h
   ·exact hone c (List.mem_of_mem_take h)
   ·exact ho c h
  ·exact hone c (List.mem_of_mem_drop h)
 ·rw[i7 (by omega)]at p
  rw[←hnew,List.getElem?_toArray,i7 (by simp;omega)]at q
  split at p
  ·rename_i h1
   rw[if_pos h1]at q
   exact hvv j c u p (by simpa using q)
  ·rename_i h1
   rw[if_neg h1]at q
   split at p
   ·rename_i h2
    rw[if_pos (by omega)]at q
    exact hv _ c u p q
   ·rename_i h2
    rw[if_neg (by omega)]at q
    exact hvv j c u p (by simpa using q)
theorem VR.strip {d:D} {v:Value} (h:VR w g d v):VR w g d.strip v:=by
 cases h with
 |slice t sz xs A len cap vals hl hc ht hs hA hv=>exact .slice t.strip sz xs A len cap vals hl hc ht.strip hs hA hv
 |agg cs vs hl ho hv=>
  refine .agg _ _ (by simpa using hl) (fun c hc=>?_) (fun j c v p q=>?_)
  ·obtain⟨c0,h0,rfl⟩:=List.mem_map.1 hc
   exact D.one_strip1 (ho c0 h0)
  ·simp at p
   obtain⟨c0,h0,rfl⟩:=p
   exact(hv j c0 v h0 q).strip1
 |tuple cs vs hl hv=>
  refine .tuple _ _ (by simpa using hl) (fun j c v p q=>?_)
  simp only[List.getElem?_map,Option.map_eq_some_iff]at p
  obtain⟨c0,h0,rfl⟩:=p
  have h1:=hv j c0 v h0 q
  split
  ·rename_i cs'
   cases h1 with
   |agg cs vs hl ho hv=>
    refine .agg _ _ (by simpa using hl) (fun c hc=>?_) (fun j c v p q=>?_)
    ·obtain⟨c0,h0,rfl⟩:=List.mem_map.1 hc
     exact D.one_strip1 (ho c0 h0)
    ·simp at p
     obtain⟨c0,h0,rfl⟩:=p
     exact(hv j c0 v h0 q).strip1
  ·exact h1.strip1
 |undef=>exact .undef
 |bool b=>exact .bool b
 |int k n=>exact .int k n
 |str s=>exact .str s
 |ptr l off b h=>exact .ptr l off b h
 |nilptr=>exact .nilptr
 |eptr sz xs i off ad vals hs hsp hA hv=>exact .eptr sz xs i off ad vals hs hsp hA hv
 |func f cs vs hl hv=>exact .func f cs vs hl hv
 |nilfunc=>exact .nilfunc
 |map l b h=>exact .map l b h
 |nilmap=>exact .nilmap
 |rs l off sz n c b o cap vs T h hb ho hn hc hk=>exact .rs l off sz n c b o cap vs T h hb ho hn hc hk
theorem iL (k:Int) (d:D):∀{kv:List (Int×D)},(kv.map (·.1)).Nodup→(cJ k d kv).Perm ((k,d)::kv.filter (fun p=>p.1!=k))
 |[],_=>by simp[cJ]
 |(k',d')::r,hn=>by
  simp only[List.map_cons,List.nodup_cons]at hn
  simp only[cJ]
  by_cases h:k'=k
  ·subst h
   rw[if_pos rfl,List.filter_cons_of_neg (by simp)]
   have:r.filter (fun p=>p.1!=k')=r:=List.filter_eq_self.2 fun p hp=>by
    simp only[bne_iff_ne,ne_eq]
    rintro rfl
    exact hn.1 (List.mem_map_of_mem hp)
   rw[this]
  ·rw[if_neg h,List.filter_cons_of_pos (by simpa using h)]
   exact((iL k d hn.2).cons _).trans (List.Perm.swap _ _ _)
theorem qH (k:Int) (d:D) {kv kv0:List (Int×D)} (hp:kv0.Perm kv) (hn:(kv.map (·.1)).Nodup):(cJ k d kv0).Perm (cJ k d kv):=
 (iL k d ((hp.map _).nodup_iff.2 hn)).trans (((hp.filter _).cons _).trans (iL k d hn).symm)
theorem nJ (k:Int) (d:D) {kv:List (Int×D)} (hn:(kv.map (·.1)).Nodup):((cJ k d kv).map (·.1)).Nodup:=by
 refine(((iL k d hn).map _).nodup_iff).2 ?_
 simp only[List.map_cons,List.nodup_cons]
 refine⟨fun h=>?_,(List.filter_sublist.map _).nodup hn⟩
 obtain⟨p,hp,e⟩:=List.mem_map.1 h
 have:=(List.mem_filter.1 hp).2
 simp[e]at this
theorem yk (kd:IntKind) (i:Int) (d':D):∀(kv:List (Int×D)) (es:List MapEntry) (n:Nat),kv.length=es.length→(∀(j:Nat) k d e,kv[j]?=some (k,d)→es[j]?=some e→e.key=.int .i64 k∧VR w g d e.val)→
  (Instr.findNow (.int kd) (.int .i64 i) es n=some none∧cJ i d' kv=kv++[(i,d')])∨
  ∃m v,m<kv.length∧Instr.findNow (.int kd) (.int .i64 i) es n=some (some (n+m,v))∧cJ i d' kv=kv.set m (i,d')∧∃d,kv[m]?=some (i,d)
 |[],es,n,hl,h=>by
  have:es=[]:=List.eq_nil_of_length_eq_zero hl.symm
  subst this
  exact .inl ⟨by simp[Instr.findNow],by simp[cJ]⟩
 |(k,d)::kv,[],n,hl,h=>by simp at hl
 |(k,d)::kv,e::es,n,hl,h=>by
  obtain⟨h1,h2⟩:=h 0 k d e rfl rfl
  simp only[cJ,Instr.findNow,h1,Instr.sameNow,if_true]
  by_cases hk:k=i
  ·subst hk
   exact .inr ⟨0,e.val,by simp,by simp,by simp,d,rfl⟩
  ·have:(i==k)=false:=by simp;exact fun h=>hk h.symm
   simp only[if_neg hk,this]
   rcases yk kd i d' kv es (n+1) (by simpa using hl) (fun j k d e p q=>h (j+1) k d e (by simpa using p) (by simpa using q))with⟨q1,q2⟩|⟨m,v,q0,q1,q2,q3⟩
   ·exact .inl ⟨q1,by rw[q2];rfl⟩
   ·exact .inr ⟨m+1,v,by simp;omega,by rw[q1];congr 3;omega,by rw[q2];rfl,q3⟩
theorem vX {T:TypeId} {m k v:Operand} (ho:o.op=.mapUpdate T m k v∨o.op=.insert T m k v) (hc:aq P o.op=some x) (hr:x.run ρ st=some (d,st')) (he:EnvR w g ρ a.tmps) (hrel:Rel B w g st):rJ P B w g st (execOp a.eval o) d st':=by
 have hc:aq P (.mapUpdate T m k v)=some x:=by rcases ho with ho|ho<;>rw[ho]at hc<;>exact hc
 have hex:execOp a.eval o=(do Instr.mapUpdate T (a.eval m) (a.eval k) (a.eval v);pure Next.skip):=by rcases ho with ho|ho<;>simp[execOp,ho]
 rw[hex]
 simp only[aq,Option.bind_eq_bind]at hc
 split at hc<;>try contradiction
 rename_i kt e hT
 split at hc<;>try contradiction
 rename_i hK
 simp only[Option.bind_eq_some_iff,Option.some.injEq]at hc
 obtain⟨s,hs,m',hm,k',hk,v',hv,rfl⟩:=hc
 have h1:=co he hm
 have h2:=co he hk
 have h3:=(co he hv).strip
 have hck:∀e v w',(Instr.checkKey e 10000 kt v).run P w'=.ok () w':=fun e v w'=>by
  show (Instr.checkKey e (9999+1) kt v).run P w'=_
  unfold Instr.checkKey
  simp[run_underlying hK]
 simp only[O.run]at hr
 split at hr<;>try contradiction
 rename_i l i hcm hck'
 rw[hcm]at h1
 rw[hck']at h2
 have hi:=h2.int_inv
 split at hr<;>try contradiction
 rename_i hlim
 split at hr<;>try contradiction
 rename_i kv hbx
 simp only[Option.some.injEq,Prod.mk.injEq]at hr
 obtain⟨rfl,rfl⟩:=hr
 obtain⟨b,hb,hu⟩:=h1.map_inv
 obtain⟨b',hb',hB,hS,es,clock,hh,⟨kv0,hperm,hl,hes⟩,hnd,hborn,hst⟩:=hrel.box l _ hbx
 rw[hb]at hb'
 cases hb'
 have hP':=qH i (v'.ev ρ).strip hperm hnd
 have hK':=nJ i (v'.ev ρ).strip hnd
 have hlt:b<w.heap.size:=hrel.ltι l b hb
 have touch:∀ob,Touch b w {w with heap:=w.heap.setIfInBounds b ob}:=fun ob=>⟨rfl,rfl,rfl,by simp,fun k hk=>by simp[Array.getElem?_setIfInBounds_ne (Ne.symm hk)],fun vs T fr h=>by rw[hh]at h;cases h⟩
 have at_b:∀ob,(w.heap.setIfInBounds b ob)[b]?=some ob:=fun ob=>Array.getElem?_setIfInBounds_self_of_lt hlt
 rcases yk (w:=w) (g:=g) .i64 i (v'.ev ρ).strip kv0 es.toList 0 (by simpa using hl) (fun j k d e p q=>hes j k d e p (by simpa using q))with⟨q1,q2⟩|⟨n,u,q0,q1,q2,dd,q3⟩
 ·rw[q2]at hP'
  have ht:=touch (.map (es.push {key:=.int .i64 i,val:=a.eval v,born:=clock}) (clock+1))
  have hext:=Ext.touch hrel hB hS ht
  refine⟨.skip,Go.undef,_,g,by simp[hu,hi,Instr.mapUpdate,run_underlying hT,getObj,setObj,Sem.run,hh,hck,Instr.findKey,run_underlying hK,q1],.inr ⟨rfl,rfl⟩,.undef,Step.setBox hrel hbx hb hlim ht ?_⟩
  refine⟨_,_,at_b _,⟨_,hP',by simp[hl],fun j k d e p q=>?_⟩,hK',fun x hx=>?_,?_⟩
  rotate_left
  ·simp only[Array.toList_push,List.mem_append,List.mem_singleton]at hx
   rcases hx with hx|rfl
   ·exact Nat.lt_succ_of_lt (hborn x hx)
   ·exact Nat.lt_succ_self _
  ·rw[Array.toList_push,List.map_append,List.nodup_append]
   refine⟨hst,by simp,fun a ha b hb e=>?_⟩
   subst e
   obtain⟨x,hx,rfl⟩:=List.mem_map.1 ha
   have:=hborn x hx
   simp at hb
   omega
  rw[List.getElem?_append]at p
  rw[Array.getElem?_push]at q
  split at p
  ·rename_i hj
   rw[if_neg (by omega)]at q
   exact⟨(hes j k d e p q).1,(hes j k d e p q).2.mono hext⟩
  ·rename_i hj
   have:j=kv0.length:=by
    rcases Nat.lt_or_ge j (kv0.length+1)with h|h
    ·omega
    ·rw[List.getElem?_eq_none (by simp;omega)]at p;cases p
   subst this
   simp at p
   obtain⟨rfl,rfl⟩:=p
   rw[if_pos hl]at q
   cases q
   exact⟨rfl,h3.mono hext⟩
 ·rw[q2]at hP'
  simp only[Nat.zero_add]at q1
  obtain⟨e0,he0⟩:∃e0,es[n]?=some e0:=⟨es[n],Array.getElem?_eq_getElem (by omega)⟩
  have hkey:=(hes n i dd e0 q3 he0).1
  have ht:=touch (.map (es.modify n fun e=>{e with key:=.int .i64 i,val:=a.eval v}) clock)
  have hext:=Ext.touch hrel hB hS ht
  have hstay:∀w',(Instr.keyThatStays (.int .i64 i) (.int .i64 i)).run P w'=.ok (.int .i64 i) w':=fun w'=>by
   unfold Instr.keyThatStays
   have:Instr.sameBits 10000 (.int .i64 i) (.int .i64 i)=true:=by
    show Instr.sameBits (9999+1) (.int .i64 i) (.int .i64 i)=true
    unfold Instr.sameBits
    simp
   simp[this]
  refine⟨.skip,Go.undef,_,g,by simp[hu,hi,Instr.mapUpdate,run_underlying hT,getObj,setObj,Sem.run,hh,hck,Instr.findKey,run_underlying hK,q1,he0,hkey,hstay],.inr ⟨rfl,rfl⟩,.undef,Step.setBox hrel hbx hb hlim ht ?_⟩
  have hmod:∀y∈(es.modify n fun e=>{e with key:=.int .i64 i,val:=a.eval v}).toList.map (·.born),y∈es.toList.map (·.born):=by
   intro y hy
   obtain⟨x,hx,rfl⟩:=List.mem_map.1 hy
   obtain⟨j,hj⟩:=List.getElem?_of_mem hx
   rw[Array.getElem?_toList,Array.getElem?_modify]at hj
   split at hj
   ·obtain⟨x0,h1,rfl⟩:=Option.map_eq_some_iff.1 hj
    exact List.mem_map.2 ⟨x0,List.mem_of_getElem? (by rw[Array.getElem?_toList];exact h1),rfl⟩
   ·exact List.mem_map.2 ⟨x,List.mem_of_getElem? (by rw[Array.getElem?_toList];exact hj),rfl⟩
  have hbm:(es.modify n fun e=>{e with key:=.int .i64 i,val:=a.eval v}).toList.map (·.born)=es.toList.map (·.born):=by
   apply List.ext_getElem?
   intro j
   rw[List.getElem?_map,List.getElem?_map,Array.getElem?_toList,Array.getElem?_toList,Array.getElem?_modify]
   split
   ·rw[Option.map_map];rfl
   ·rfl
  refine⟨_,_,at_b _,⟨_,hP',by simp[hl],fun j k d e p q=>?_⟩,hK',fun x hx=>?_,by rw[hbm];exact hst⟩
  rotate_left
  ·obtain⟨y,hy,e⟩:=List.mem_map.1 (hmod x.born (List.mem_map_of_mem hx))
   rw[←e]
   exact hborn y hy
  rw[Array.getElem?_modify]at q
  by_cases hj:n=j
  ·subst hj
   rw[if_pos rfl,he0]at q
   rw[List.getElem?_set_self (by omega)]at p
   simp at q
   subst q
   cases p
   exact⟨rfl,h3.mono hext⟩
  ·rw[if_neg hj]at q
   rw[List.getElem?_set_ne hj]at p
   exact⟨(hes j k d e p q).1,(hes j k d e p q).2.mono hext⟩
end
end Go.Ev
