/-
  Rows of the store, handed to a function that only reads: as what they hold.
-/
import Derived.Test.YtjcilbnbciclpaaEvEvR
set_option linter.unusedVariables false
set_option linter.unusedSimpArgs false
set_option linter.unnecessarySimpa false
namespace Go.Ev
open Go.RowKit
theorem jO (t:Tok):t.strip.strip=t.strip:=by cases t<;>rfl
theorem rJ (d:D):d.strip1.strip1=d.strip1:=by
 cases d<;>first|rfl|simp[D.strip1,jO]
theorem bS {d:D} (h:d.strip.freeA=true):d.strip.strip=d.strip:=by
 cases d with
 |agg cs=>simp[D.strip,rJ]
 |tuple cs=>simp[D.strip,D.freeA,D.free1]at h
 |slice t sz xs=>simp[D.strip,jO]
 |_=>rfl
theorem kb (st:Store) {d:D} (h:∀l off sz n c,d≠.rs l off sz n c):seen st d=d.strip:=by
 cases d<;>first|rfl|exact absurd rfl (h _ _ _ _ _)
theorem ku {st:Store} {d:D} (h:(seen st d).freeA=true):(seen st d).strip=seen st d:=by
 by_cases hd:∃l off sz n c,d=.rs l off sz n c
 ·obtain⟨l,off,sz,n,c,rfl⟩:=hd
  unfold seen at h ⊢
  simp only at h ⊢
  split at h
  ·split at h
   ·rename_i h1
    rw[if_pos h1]
    rfl
   ·simp[D.freeA,D.free1]at h
  ·simp[D.freeA,D.free1]at h
 ·have e:=kb st (fun l off sz n c h=>hd ⟨l,off,sz,n,c,h⟩)
  rw[e]at h ⊢
  exact bS h
def sW (w:World):Ghost:=⟨fun b o=>b<w.heap.size,fun _=>none,fun _=>none⟩
theorem wa (w:World):Rel w.heap.size w (sW w) Store.empty:=
 ⟨Nat.le_refl _,fun _ _ h=>h,fun l x hx=>(by simp[Store.empty]at hx),fun l l' b x x' hx=>(by simp[Store.empty]at hx),fun t r ht=>by simp[Store.empty]at ht,fun t t' r r' ht=>by simp[Store.empty]at ht,fun t r l b ht=>by simp[Store.empty]at ht,fun _ _=>rfl,fun _ _=>rfl,fun l b h=>(by cases h),Nat.le_refl _,Nat.le_refl _⟩
section
variable {P:Program} {B:Nat} {w w1:World} {g g1:Ghost} {st:Store}
theorem VR.seen (hrel:Rel B w g st) {d:D} {v:Value} (h:VR w g d v) (hf:(seen st d).freeA=true):VR w (sW w) (seen st d) v:=by
 by_cases hd:∃l off sz n c,d=.rs l off sz n c
 ·obtain⟨l,off,sz,n,c,rfl⟩:=hd
  obtain⟨b,o,cap,vs,T,rfl,hb,hh,ho,hn,hc,hk⟩:=h.rs_inv
  unfold Ev.seen at hf ⊢
  simp only at hf ⊢
  split at hf
  ·rename_i cs hbx
   split at hf
   ·rename_i h1
    rw[if_pos h1]
    obtain⟨hle,hz,hp⟩:=h1
    obtain⟨b',hb',hB,hS,vs',T',hh',hl,hone,hvv⟩:=hrel.box l _ hbx
    rw[hb]at hb'
    cases hb'
    rw[hh]at hh'
    cases hh'
    have hp':∀c∈cs,c.plain=true:=List.all_eq_true.1 hp
    have hpd:∀c∈cs.drop off,c.plain=true:=fun c hc=>hp' c (List.mem_of_mem_drop hc)
    have hld:n*sz≤(cs.drop off).length:=by simp;omega
    obtain⟨q1,q2⟩:=jj hz hpd n hld
    have hlen:(bH sz n (cs.drop off)).length=n:=by simp[bH]
    rcases Nat.eq_zero_or_pos n with h0|h0
    ·subst h0
     exact .slice .no sz _ _ 0 cap (fun _ _=>Go.undef) hlen (by omega) trivial (fun i x h=>by simp[bH]at h) (fun i x j c h=>by simp[bH]at h) (fun i x j c h=>by simp[bH]at h)
    ·have ho0:o=off:=by
      rcases ho with h|h
      ·exact h
      ·omega
     subst ho0
     have:=VR.row (w:=w) (g:=sW w) (t:=.no) (sz:=sz) (xs:=bH sz n (cs.drop o)) (ad:=⟨b,o,none⟩) (cap:=cap) (cells:=(vs.toList.drop o).take (n*sz)) hz rfl (by omega) trivial q1 (by simp[hlen];omega) (fun k u hk=>by
      have hkl:k<n*sz:=by have:=(List.getElem?_eq_some_iff.1 hk).1;simp at this;omega
      rw[List.getElem?_take_of_lt hkl,List.getElem?_drop]at hk
      have hcell:w.cell? ⟨b,o+k,none⟩=some u:=by rw[bc hh];simpa using hk
      exact⟨(Array.getElem?_eq_some_iff.1 hh).1,hcell⟩) (fun k d u p q=>by
      rw[q2]at p
      have hkl:k<n*sz:=by have:=(List.getElem?_eq_some_iff.1 p).1;simp at this;omega
      rw[List.getElem?_take_of_lt hkl,List.getElem?_drop]at q
      rw[List.getElem?_take_of_lt hkl,List.getElem?_drop]at p
      exact(hvv (o+k) d u p (by simpa using q)).plain_ (hp' d (List.mem_of_getElem? p)) (sW w) hrel.S)
     rw[hlen]at this
     exact this
   ·simp[D.freeA,D.free1]at hf
  ·simp[D.freeA,D.free1]at hf
 ·have e:=kb st (fun l off sz n c h=>hd ⟨l,off,sz,n,c,h⟩)
  rw[e]at hf ⊢
  rw[←bS hf]
  refine fA d.strip v h.strip ?_ (sW w) hrel.S
  generalize d.strip=x at hf
  cases x<;>exact hf
theorem VRs.seen (hrel:Rel B w g st) {ds:List D} {vs:List Value} (h:VRs w g ds vs) (hf:∀d∈ds.map (Ev.seen st),d.freeA=true):VRs w (sW w) (ds.map (Ev.seen st)) vs:=
 ⟨by simpa using h.1,fun j d v p q=>by
  have hm:=List.mem_of_getElem? p
  simp only[List.getElem?_map,Option.map_eq_some_iff]at p
  obtain⟨d0,h0,rfl⟩:=p
  exact(h.2 j d0 v h0 q).seen hrel (hf _ hm)⟩
theorem ov {sz:Nat}:∀{xs:List D},(∀d∈xs,d.cells.length=sz)→(xs.flatMap D.cells).length=xs.length*sz
 |[],h=>by simp
 |d::xs,h=>by
  rw[List.flatMap_cons,List.length_append,ov (fun x hx=>h x (List.mem_cons_of_mem _ hx)),h d List.mem_cons_self,List.length_cons]
  rw[Nat.add_mul];omega
theorem od {sz:Nat}:∀{xs:List D},(∀d∈xs,d.cells.length=sz∧qC d.cells=d)→bH sz xs.length (xs.flatMap D.cells)=xs:=by
 intro xs
 induction xs with
 |nil=>intro _;rfl
 |cons x xs ih=>
  intro h
  have hx:=h x List.mem_cons_self
  have ih':=ih (fun d hd=>h d (List.mem_cons_of_mem _ hd))
  unfold bH at ih' ⊢
  rw[List.length_cons,List.range_succ_eq_map,List.map_cons,List.map_map]
  congr 1
  ·rw[Nat.zero_mul,List.drop_zero,List.flatMap_cons,List.take_append_of_le_length (by omega),List.take_of_length_le (by omega)]
   exact hx.2
  ·rw[←ih']
   rw[ih']
   conv=>rhs;rw[←ih']
   apply List.map_congr_left
   intro i _
   simp only[Function.comp_apply]
   congr 2
   rw[List.flatMap_cons,show (i+1)*sz=x.cells.length+i*sz by rw[hx.1,Nat.succ_mul];omega,List.drop_append,List.drop_of_length_le (by omega),List.nil_append,Nat.add_sub_cancel_left]
theorem o7 {d:D} (h:(match d.cells with|[c]=>(match d with| .agg _=>false|_=>true)|_=>(match d with| .agg _=>true|_=>false))=true):qC d.cells=d:=by
 cases d with
 |agg cs=>
  simp only[D.cells]at h ⊢
  cases cs with
  |nil=>rfl
  |cons c cs=>cases cs with
   |nil=>simp at h
   |cons=>rfl
 |_=>rfl
theorem u1 (hrel:Rel B w g st) {r:D} (hr:r.apart=true) {e:Ending} (h:cU w.heap.size w (sW w) Store.empty r e w1):cU B w g st r e w1:=by
 obtain⟨v,rfl,_,hmv⟩:=h
 obtain⟨g1,k1,k2⟩:=hmv true
 have hbel:=k2.ext.below
 have hSlt:∀b o,g.S b o→b<w.heap.size:=hrel.S
 have hwh:∀b,(∀o,g.S b o)→w1.heap[b]?=w.heap[b]?:=fun b h=>k2.ext.whole b (fun o=>hrel.S b o (h o))
 have hcell:∀b o,g.S b o→w1.cell? ⟨b,o,none⟩=w.cell? ⟨b,o,none⟩:=fun b o h=>k2.ext.cell b o (hrel.S b o h)
 have hS1:∀b o,g.S b o→b<w1.heap.size:=fun b o h=>Nat.lt_of_lt_of_le (hrel.S b o h) hbel.size
 by_cases hrow:∃sz xs,r=.slice .row sz xs
 ·obtain⟨sz,xs,rfl⟩:=hrow
  simp only[D.apart,Bool.and_eq_true,decide_eq_true_eq,List.all_eq_true]at hr
  obtain⟨hz,hxs⟩:=hr
  have hab:au true (.slice .row sz xs) Store.empty=(.rs 0 0 sz xs.length xs.length,{Store.empty with boxes:=ap Store.empty.boxes 0 (some (.row (xs.flatMap D.cells))),next:=1}):=rfl
  rw[hab]at k1 k2
  simp only at k1 k2
  obtain⟨b,hb,hB,hS,vs,T,hh,hl,hone,hvv⟩:=k2.rel.box 0 (.row (xs.flatMap D.cells)) rfl
  have hcg:∀c∈xs.flatMap D.cells,c.ground1=true:=fun c hc=>by
   obtain⟨d,hd,hcd⟩:=List.mem_flatMap.1 hc
   have:=(hxs d hd).1.2
   exact this c hcd
  have hs1:Step w.heap.size w ⟨g.S,fun _=>none,fun _=>none⟩ Store.empty w1 ⟨g.S,g1.ι,fun _=>none⟩ {Store.empty with boxes:=ap Store.empty.boxes 0 (some (.row (xs.flatMap D.cells))),next:=1}:=by
   refine⟨⟨hbel,fun _ _ h=>h,hcell,hwh,fun l b h=>(by cases h),fun t r h=>(by cases h),fun b o h=>.inl h,fun l b vs T fr h=>(by cases h)⟩,
    ⟨hbel.size,hS1,fun l x hx=>?_,k2.rel.inj,fun t r h=>(by simp[Store.empty]at h),fun t t' r r' h=>(by simp[Store.empty]at h),fun t r l b h=>(by simp[Store.empty]at h),k2.rel.newι,fun _ _=>rfl,k2.rel.ltι,Nat.zero_le _,Nat.le_refl _⟩,
    fun l b x h=>absurd h (Nat.not_lt_zero _),fun t r h=>absurd h (Nat.not_lt_zero _),fun l h=>absurd h (Nat.not_lt_zero _),fun t h=>absurd h (Nat.not_lt_zero _),rfl,rfl,Nat.zero_le _,Nat.le_refl _,fun l h=>absurd h (Nat.not_lt_zero _),fun t h=>absurd h (Nat.not_lt_zero _)⟩
   by_cases h0:l=0
   ·subst h0
    have hx':some (Box.row (xs.flatMap D.cells))=some x:=hx
    cases hx'
    refine⟨b,hb,hB,fun o h=>?_,vs,T,hh,hl,hone,fun j c u p q=>iB (hcg c (List.mem_of_getElem? p)) (hvv j c u p q) _ _⟩
    have:=hSlt b o h
    omega
   ·have hx':ap Store.empty.boxes 0 (some (Box.row (xs.flatMap D.cells))) l=some x:=hx
    rw[ab _ _ h0]at hx'
    simp[Store.empty]at hx'
  have hrs:VR w1 ⟨g.S,g1.ι,fun _=>none⟩ (.rs 0 0 sz xs.length xs.length) v:=by
   obtain⟨b2,o,cap,vs2,T2,rfl,a1,a2,a3,a4,a5,a6⟩:=k1.rs_inv
   exact .rs 0 0 sz xs.length xs.length b2 o cap vs2 T2 a1 a2 a3 a4 a5 a6
  have hrf:df {Store.empty with boxes:=ap Store.empty.boxes 0 (some (.row (xs.flatMap D.cells))),next:=1} (.rs 0 0 sz xs.length xs.length)=some (.slice .row sz xs):=by
   have hpl:(xs.flatMap D.cells).all D.plain=true:=by
    rw[List.all_eq_true]
    intro c hc
    have:=hcg c hc
    cases c<;>simp_all[D.ground1,D.plain]
   simp only[df,ae]
   rw[if_pos ⟨trivial,by rw[ov (fun d hd=>by have:=(hxs d hd).1.1;simpa using this)];exact Nat.le_refl _,hz,hpl⟩,od (fun d hd=>⟨by have:=(hxs d hd).1.1;simpa using this,o7 (hxs d hd).2⟩)]
  obtain⟨hb0,hsame⟩:=tN hrel (g0:=⟨g.S,fun _=>none,fun _=>none⟩) rfl hs1
  refine⟨v,rfl,hsame,fun mv=>?_⟩
  obtain⟨g',h1,h2⟩:=tG hrel (g0:=⟨g.S,fun _=>none,fun _=>none⟩) rfl hs1 hrs hrf mv
  have hab2:au mv (.slice .row sz xs) st=cZ st mv (.slice .row sz xs):=by
   simp[au,av,bs,dO]
  rw[hab2]
  exact⟨g',h1,hb0.trans hrel h2⟩
 ·have key:(∀mv st,au mv r st=(r,st))∧(VR w1 g1 r v→∀g',VR w1 g' r v):=by
   unfold D.apart at hr
   split at hr
   ·exact absurd ⟨_,_,rfl⟩ hrow
   ·refine⟨fun mv st=>rfl,fun h g'=>?_⟩
    cases h with
    |slice t sz xs A len cap vals hl hc ht hs hA hv=>exact .slice _ _ _ A len cap vals hl hc trivial hs (fun i x j c h=>by simp at h) (fun i x j c h=>by simp at h)
   ·refine⟨fun mv st=>rfl,fun h g'=>?_⟩
    cases h with
    |slice t sz xs A len cap vals hl hc ht hs hA hv=>exact .slice _ _ _ A len cap vals hl hc ht hs (fun i x j c h=>by simp at h) (fun i x j c h=>by simp at h)
   ·refine⟨fun mv st=>rfl,fun h g'=>?_⟩
    cases h with
    |slice t sz xs A len cap vals hl hc ht hs hA hv=>exact .slice _ _ _ A len cap vals hl hc ht hs (fun i x j c h=>by simp at h) (fun i x j c h=>by simp at h)
   ·exact⟨fun mv st=>n7 hr mv st,fun h g'=>(lC hr h w1 g').1⟩
  obtain⟨hab,hany⟩:=key
  rw[hab]at k1
  have hs0:Step w.heap.size w ⟨g.S,fun _=>none,fun _=>none⟩ Store.empty w1 ⟨g.S,fun _=>none,fun _=>none⟩ Store.empty:=by
   refine⟨⟨hbel,fun _ _ h=>h,hcell,hwh,fun l b h=>(by cases h),fun t r h=>(by cases h),fun b o h=>.inl h,fun l b vs T fr h=>(by cases h)⟩,
    ⟨hbel.size,hS1,fun l x hx=>(by simp[Store.empty]at hx),fun l l' b x x' hx=>(by simp[Store.empty]at hx),fun t r h=>(by simp[Store.empty]at h),fun t t' r r' h=>(by simp[Store.empty]at h),fun t r l b h=>(by simp[Store.empty]at h),fun _ _=>rfl,fun _ _=>rfl,fun l b h=>(by cases h),Nat.le_refl _,Nat.le_refl _⟩,
    fun l b x h=>absurd h (Nat.not_lt_zero _),fun t r h=>absurd h (Nat.not_lt_zero _),fun l h=>absurd h (Nat.not_lt_zero _),fun t h=>absurd h (Nat.not_lt_zero _),rfl,rfl,Nat.le_refl _,Nat.le_refl _,fun l h=>absurd h (Nat.not_lt_zero _),fun t h=>absurd h (Nat.not_lt_zero _)⟩
  obtain⟨hb0,hsame⟩:=tN hrel (g0:=⟨g.S,fun _=>none,fun _=>none⟩) rfl hs0
  refine⟨v,rfl,hsame,fun mv=>⟨⟨g.S,g.ι,g.τ⟩,?_,?_⟩⟩
  ·rw[hab]
   exact hany k1 _
  ·rw[hab]
   exact hb0
end
end Go.Ev
