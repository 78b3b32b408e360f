/-
  What a call hands back: names of boxes and rows of the callee's do not stand in it, but for one row, which the caller takes over.
-/
import Derived.Test.YtjcilbnbciclpaaEvEvB
set_option linter.unusedVariables false
set_option linter.unusedSimpArgs false
set_option linter.unnecessarySimpa false
namespace Go.Ev
open Go.RowKit
section
variable {P:Program} {B:Nat} {w w' w1:World} {g g' g1:Ghost} {ρ:Nat→D} {st st' st1:Store} {a:Act} {d:D} {o:Oper} {x:O}
theorem VR.plain_ {v:Value} (h:VR w g d v):d.plain=true→∀g',(∀b o,g.S b o→g'.S b o)→VR w g' d v:=by
 induction h with
 |undef=>intro h;simp[D.plain]at h
 |bool b=>intro _ _ _;exact .bool b
 |int k n=>intro _ _ _;exact .int k n
 |str s=>intro _ _ _;exact .str s
 |slice t sz xs A len cap vals hl hc ht hs hA hv ih=>
  intro hp g' hS
  have hto:TokOK g'.τ t sz A len cap:=by
   cases t<;>first|trivial|exact ht|(simp[D.plain]at hp)
  refine .slice t sz xs A len cap vals hl hc hto hs (fun i x j c h1 h2=>?_) (fun i x j c h1 h2=>ih i x j c h1 h2 ((hs i x h1).2 c (List.mem_of_getElem? h2)) g' hS)
  obtain⟨ad,e1,e2,e3,e4⟩:=hA i x j c h1 h2
  exact⟨ad,e1,hS _ _ e2,e3,e4⟩
 |agg cs vs hl ho hv ih=>intro h;simp[D.plain]at h
 |tuple cs vs hl hv ih=>intro h;simp[D.plain]at h
 |ptr l off b h=>intro h;simp[D.plain]at h
 |nilptr=>intro _ _ _;exact .nilptr
 |eptr sz xs i off ad vals hs hsp hA hv ih=>intro h;simp[D.plain]at h
 |func f cs vs hl hv ih=>
  intro hp g' hS
  have:cs=[]:=by cases cs<;>simp_all[D.plain]
  subst this
  exact .func f [] vs hl (fun j c v h1 h2=>by simp at h1)
 |nilfunc=>intro _ _ _;exact .nilfunc
 |map l b h=>intro h;simp[D.plain]at h
 |nilmap=>intro _ _ _;exact .nilmap
 |rs=>intro h;simp[D.plain]at h
theorem VR.slice_to {t t':Tok} {sz:Nat} {xs:List D} {v:Value} (h:VR w g (.slice t sz xs) v) (hS:∀b o,g.S b o→g'.S b o)
  (ht:∀A cap,TokOK g.τ t sz A xs.length cap→TokOK g'.τ t' sz A xs.length cap):VR w g' (.slice t' sz xs) v:=by
 obtain⟨A,cap,vals,rfl,hc,h0,hs,hA,hv⟩:=h.slice_inv
 refine .slice t' sz xs A _ cap vals rfl hc (ht A cap h0) hs (fun i x j c h1 h2=>?_) (fun i x j c h1 h2=>(hv i x j c h1 h2).plain_ ((hs i x h1).2 c (List.mem_of_getElem? h2)) g' hS)
 obtain⟨ad,e1,e2,e3,e4⟩:=hA i x j c h1 h2
 exact⟨ad,e1,hS _ _ e2,e3,e4⟩
theorem VR.free1_ {v:Value} (h:VR w g d v) (hf:d.free1=true) (hS:∀b o,g.S b o→g'.S b o):VR w g' d.strip1 v:=by
 cases d with
 |undef=>cases h;exact .undef
 |bool b=>cases h;exact .bool b
 |int k n=>cases h;exact .int k n
 |str s=>cases h;exact .str s
 |slice t sz xs=>exact h.slice_to hS (fun _ _ h=>by cases t<;>first|trivial|exact h)
 |agg cs=>simp[D.free1]at hf
 |tuple cs=>simp[D.free1]at hf
 |ptr l o=>simp[D.free1]at hf
 |nilptr=>cases h;exact .nilptr
 |eptr sz xs i off=>
  obtain⟨ad,vals,rfl,hsp,hs,hA,hv⟩:=h.eptr_inv
  refine .eptr sz xs i off ad vals hs hsp (fun i x j c h1 h2=>?_) (fun i x j c h1 h2=>(hv i x j c h1 h2).plain_ ((hs i x h1).2 c (List.mem_of_getElem? h2)) g' hS)
  obtain⟨e2,e4⟩:=hA i x j c h1 h2
  exact⟨hS _ _ e2,e4⟩
 |func f cs=>
  cases cs with
  |nil=>exact h.plain_ rfl g' hS
  |cons c r=>simp[D.free1]at hf
 |nilfunc=>cases h;exact .nilfunc
 |map l=>simp[D.free1]at hf
 |nilmap=>cases h;exact .nilmap
 |rs l off sz n c=>simp[D.free1]at hf
theorem w7 (t0:Nat) {d:D} (h:d.one=true):(nX t0 d).one=true:=by
 unfold nX
 split
 ·rfl
 ·exact h
theorem oi (d:D):dO d.strip1=false:=by
 cases d<;>first|rfl|skip
 rename_i t sz xs
 cases t<;>rfl
theorem jk (hf:d.free1=true):d.strip=d.strip1:=by cases d<;>simp_all[D.free1,D.strip,D.strip1]
def ie (st1:Store) (c:D):D:=(aM st1 c).getD c.strip1
theorem uK {c:D} {v:Value} (hv:VR w1 g1 c v) (hf:c.free1=true):
  (dO (ie st1 c)=false∧∀g':Ghost,(∀b o,g1.S b o→g'.S b o)→VR w1 g' (ie st1 c) v)∨
  (dO (ie st1 c)=true∧∃oR:Option RowInfo,(∀r,oR=some r→∃k,st1.toks k=true∧st1.tlim≤k∧g1.τ k=some r)∧∀(g':Ghost) t0,(∀b o,g1.S b o→g'.S b o)→g'.τ t0=oR→VR w1 g' (nX t0 (ie st1 c)) v):=by
 have no:aM st1 c=none→dO (ie st1 c)=false∧∀g':Ghost,(∀b o,g1.S b o→g'.S b o)→VR w1 g' (ie st1 c) v:=fun h=>by
  simp only[ie,h,Option.getD_none]
  exact⟨oi c,fun g' hS=>hv.free1_ hf hS⟩
 cases c with
 |slice t sz xs=>
  cases t with
  |own k=>
   by_cases hk:(st1.toks k&&decide (st1.tlim≤k))=true
   ·have e:ie st1 (.slice (.own k) sz xs)=.slice .fresh sz xs:=by simp[ie,aM,hk]
    rw[e]
    simp only[Bool.and_eq_true,decide_eq_true_eq]at hk
    refine .inr ⟨rfl,g1.τ k,fun r hr=>⟨k,hk.1,hk.2,hr⟩,fun g' t0 hS ht=>?_⟩
    refine hv.slice_to hS (fun A cap h=>?_)
    simp only[TokOK]at h ⊢
    rw[ht]
    exact h
   ·exact .inl (no (by simp only[aM,hk];rfl))
  |exact=>exact .inl ⟨rfl,fun g' hS=>hv.slice_to hS (fun A cap h=>h)⟩
  |isnil=>exact .inl (no rfl)
  |no=>exact .inl (no rfl)
  |fresh=>exact .inl (no rfl)
  |row=>exact .inl (no rfl)
  |nonnil=>exact .inl (no rfl)
 |_=>exact .inl (no rfl)
theorem fA:∀(d:D) (v:Value),VR w1 g1 d v→(match (generalizing:=false) d with| .agg cs=>cs.all D.free1|d=>d.free1)=true→∀g':Ghost,(∀b o,g1.S b o→g'.S b o)→VR w1 g' d.strip v:=by
 intro d v hv hf g' hS
 by_cases hd:∃cs,d=.agg cs
 ·obtain⟨cs,rfl⟩:=hd
  obtain⟨vs,rfl,hl,ho,hc⟩:=hv.agg_inv
  simp only[List.all_eq_true]at hf
  refine .agg _ vs (by simpa using hl) (fun c h=>?_) (fun j c' v' p q=>?_)
  ·obtain⟨c0,h0,rfl⟩:=List.mem_map.1 h
   exact D.one_strip1 (ho c0 h0)
  ·simp only[List.getElem?_map,Option.map_eq_some_iff]at p
   obtain⟨c0,h0,rfl⟩:=p
   exact(hc j c0 v' h0 q).free1_ (hf c0 (List.mem_of_getElem? h0)) hS
 ·have hfr1:d.free1=true:=by
   cases d<;>first|exact absurd ⟨_,rfl⟩ hd|exact hf
  rw[jk hfr1]
  exact hv.free1_ hfr1 hS
theorem As {r:D} {v:Value} (hv:VR w1 g1 r v) (hf:r.free=true):
  (av (dG st1 r)=false∧∀g':Ghost,(∀b o,g1.S b o→g'.S b o)→VR w1 g' (dG st1 r) v)∨
  (av (dG st1 r)=true∧∃oR:Option RowInfo,(∀r,oR=some r→∃k,st1.toks k=true∧st1.tlim≤k∧g1.τ k=some r)∧∀(g':Ghost) t0,(∀b o,g1.S b o→g'.S b o)→g'.τ t0=oR→VR w1 g' (rg t0 (dG st1 r)) v):=by
 have one:∀(d:D) (v:Value),VR w1 g1 d v→(match (generalizing:=false) d with| .agg cs=>cs.all D.free1|d=>d.free1)=true→(∀vs,d≠.tuple vs)→
   (bs (aG st1 d)=false∧∀g':Ghost,(∀b o,g1.S b o→g'.S b o)→VR w1 g' (aG st1 d) v)∨
   (bs (aG st1 d)=true∧∃oR:Option RowInfo,(∀r,oR=some r→∃k,st1.toks k=true∧st1.tlim≤k∧g1.τ k=some r)∧∀(g':Ghost) t0,(∀b o,g1.S b o→g'.S b o)→g'.τ t0=oR→VR w1 g' (cb t0 (aG st1 d)) v):=by
  intro d v hv hf hnt
  by_cases hd:∃cs,d=.agg cs
  ·obtain⟨cs,rfl⟩:=hd
   obtain⟨vs,rfl,hl,ho,hc⟩:=hv.agg_inv
   simp only[List.all_eq_true]at hf
   cases cs with
   |nil=>
    refine .inl ⟨rfl,fun g' hS=>?_⟩
    exact .agg [] vs hl (fun c h=>by simp at h) (fun j c v p q=>by simp at p)
   |cons c cs=>
    have hvs:∃v0,vs[0]?=some v0:=⟨vs[0]'(by simp at hl;omega),Array.getElem?_eq_getElem _⟩
    obtain⟨v0,hv0⟩:=hvs
    have hoS:∀c',c'.one=true→∀c''∈c'::cs.map D.strip1,c''.one=true:=fun c' h c'' h'=>by
     rcases List.mem_cons.1 h' with rfl|h'
     ·exact h
     ·obtain⟨c0,h0,rfl⟩:=List.mem_map.1 h'
      exact D.one_strip1 (ho c0 (by simp[h0]))
    have hos:(ie st1 c).one=true:=by
     have:=ho c (by simp)
     unfold ie
     cases hfr:aM st1 c with
     |none=>exact D.one_strip1 this
     |some c'=>
      cases c with
      |slice t sz xs=>cases t<;>simp[aM]at hfr<;>first|(obtain⟨_,rfl⟩:=hfr;rfl)|(subst hfr;rfl)
      |_=>simp[aM]at hfr
    have rest:∀g':Ghost,(∀b o,g1.S b o→g'.S b o)→∀(j:Nat) c' v',(cs.map D.strip1)[j]?=some c'→vs[j+1]?=some v'→VR w1 g' c' v':=fun g' hS j c' v' p q=>by
     simp only[List.getElem?_map,Option.map_eq_some_iff]at p
     obtain⟨c0,h0,rfl⟩:=p
     exact(hc (j+1) c0 v' (by simpa using h0) q).free1_ (hf c0 (List.mem_cons_of_mem _ (List.mem_of_getElem? h0))) hS
    rcases uK (st1:=st1) (hc 0 c v0 rfl hv0) (hf c (by simp))with⟨h1,h2⟩|⟨h1,oR,h2,h3⟩
    ·refine .inl ⟨h1,fun g' hS=>.agg _ vs (by simpa using hl) (hoS _ hos) (fun j c' v' p q=>?_)⟩
     cases j with
     |zero=>simp only[List.getElem?_cons_zero,Option.some.injEq]at p;rw[hv0]at q;cases q;rw[←p];exact h2 g' hS
     |succ j=>exact rest g' hS j c' v' (by simpa using p) q
    ·refine .inr ⟨h1,oR,h2,fun g' t0 hS ht=>.agg _ vs (by simpa using hl) (hoS _ ?_) (fun j c' v' p q=>?_)⟩
     ·exact w7 t0 hos
     ·cases j with
      |zero=>simp only[List.getElem?_cons_zero,Option.some.injEq]at p;rw[hv0]at q;cases q;rw[←p];exact h3 g' t0 hS ht
      |succ j=>exact rest g' hS j c' v' (by simpa using p) q
  ·have hfr1:d.free1=true:=by
    cases d<;>first|exact absurd ⟨_,rfl⟩ hd|exact hf
   have e:aG st1 d=ie st1 d:=by
    rw[ie,←jk hfr1]
    cases d<;>first|exact absurd ⟨_,rfl⟩ hd|rfl
   have e2:bs (ie st1 d)=dO (ie st1 d):=by
    cases d<;>first|exact absurd ⟨_,rfl⟩ hd|rfl|skip
    rename_i t sz xs
    cases t<;>simp only[ie,aM]<;>(try rfl)
    split<;>rfl
   have e3:∀t0,cb t0 (ie st1 d)=nX t0 (ie st1 d):=fun t0=>by
    cases d<;>first|exact absurd ⟨_,rfl⟩ hd|rfl|skip
    rename_i t sz xs
    cases t<;>simp only[ie,aM]<;>(try rfl)
    split<;>rfl
   rw[e,e2]
   simp only[e3]
   exact uK hv hfr1
 have strip_:=@fA w1 g1
 by_cases ht:∃vs,r=.tuple vs
 ·obtain⟨cs,rfl⟩:=ht
  obtain⟨vs,rfl,hl,hc⟩:∃vs:Array Value,v=.tuple vs∧cs.length=vs.size∧∀(j:Nat) c v,cs[j]?=some c→vs[j]?=some v→VR w1 g1 c v:=by
   cases hv with
   |tuple cs vs hl hc=>exact⟨vs,rfl,hl,hc⟩
  have hfa:∀d∈cs,(match (generalizing:=false) d with| .agg cs=>cs.all D.free1|d=>d.free1)=true:=List.all_eq_true.1 hf
  cases cs with
  |nil=>
   refine .inl ⟨rfl,fun g' hS=>.tuple [] vs hl (fun j c v p q=>by simp at p)⟩
  |cons c cs=>
   obtain⟨v0,hv0⟩:∃v0,vs[0]?=some v0:=⟨vs[0]'(by simp at hl;omega),Array.getElem?_eq_getElem _⟩
   have rest:∀g':Ghost,(∀b o,g1.S b o→g'.S b o)→∀(j:Nat) c' v',(cs.map D.strip)[j]?=some c'→vs[j+1]?=some v'→VR w1 g' c' v':=fun g' hS j c' v' p q=>by
    simp only[List.getElem?_map,Option.map_eq_some_iff]at p
    obtain⟨c0,h0,rfl⟩:=p
    exact strip_ c0 v' (hc (j+1) c0 v' (by simpa using h0) q) (hfa c0 (List.mem_cons_of_mem _ (List.mem_of_getElem? h0))) g' hS
   have hc0:=hfa c (by simp)
   rcases one c v0 (hc 0 c v0 rfl hv0) hc0 (fun vs h=>by subst h;simp[D.free1]at hc0)with⟨h1,h2⟩|⟨h1,oR,h2,h3⟩
   ·refine .inl ⟨h1,fun g' hS=>.tuple _ vs (by simpa using hl) (fun j c' v' p q=>?_)⟩
    cases j with
    |zero=>simp only[List.getElem?_cons_zero,Option.some.injEq]at p;rw[hv0]at q;cases q;rw[←p];exact h2 g' hS
    |succ j=>exact rest g' hS j c' v' (by simpa using p) q
   ·refine .inr ⟨h1,oR,h2,fun g' t0 hS ht=>.tuple _ vs (by simpa using hl) (fun j c' v' p q=>?_)⟩
    cases j with
    |zero=>simp only[List.getElem?_cons_zero,Option.some.injEq]at p;rw[hv0]at q;cases q;rw[←p];exact h3 g' t0 hS ht
    |succ j=>exact rest g' hS j c' v' (by simpa using p) q
 ·have e1:dG st1 r=aG st1 r:=by
   cases r<;>first|exact absurd ⟨_,rfl⟩ ht|rfl
  have hf':(match (generalizing:=false) r with| .agg cs=>cs.all D.free1|d=>d.free1)=true:=by
   cases r<;>first|exact absurd ⟨_,rfl⟩ ht|exact hf
  have e2:av (aG st1 r)=bs (aG st1 r)∧∀t0,rg t0 (aG st1 r)=cb t0 (aG st1 r):=by
   cases r with
   |tuple cs=>exact absurd ⟨_,rfl⟩ ht
   |slice t sz xs=>
    cases t<;>simp only[aG,aM]<;>(try exact⟨rfl,fun _=>rfl⟩)
    split<;>exact⟨rfl,fun _=>rfl⟩
   |agg cs=>cases cs<;>exact⟨rfl,fun _=>rfl⟩
   |_=>exact⟨rfl,fun _=>rfl⟩
  rw[e1,e2.1]
  simp only[e2.2]
  exact one r v hv hf' (fun vs h=>ht ⟨vs,h⟩)
theorem Bv (hrel:Rel B w g st) (hs:Step B w g {st with lim:=st.next,tlim:=st.ntok} w1 g1 st1):Step B w g st w1 ⟨g1.S,g.ι,g.τ⟩ st∧Same w g st w1:=by
 have hlt:∀l b,g.ι l=some b→l<st.next:=fun l b h=>by
  rcases Nat.lt_or_ge l st.next with h'|h'
  ·exact h'
  ·rw[hrel.newι l h']at h;cases h
 have hltτ:∀t r,g.τ t=some r→t<st.ntok:=fun t r h=>by
  rcases Nat.lt_or_ge t st.ntok with h'|h'
  ·exact h'
  ·rw[hrel.newτ t h']at h;cases h
 have hblk:∀l b x,st.boxes l=some x→g.ι l=some b→w1.heap[b]?=w.heap[b]?:=fun l b x hx h=>hs.lock l b x (hlt l b h) hx h
 have hext:Ext B w g w1 ⟨g1.S,g.ι,g.τ⟩:=⟨hs.ext.below,hs.ext.S,hs.ext.cell,hs.ext.whole,fun _ _ h=>h,fun _ _ h=>h,hs.ext.new,hs.ext.keep⟩
 have htk:∀t r,st.toks t=true→g.τ t=some r→st1.toks t=true∧g1.τ t=some r:=fun t r h1 h2=>⟨(hs.toks t (hltτ t r h2)).trans h1,hs.ext.τ t r h2⟩
 refine⟨⟨hext,⟨hs.rel.base,hs.rel.S,fun l x hx=>?_,hrel.inj,fun t r p q=>?_,hrel.uniq,hrel.apart,hrel.newι,hrel.newτ,fun l b h=>?_,hrel.limι,hrel.limτ⟩,fun l b x _ hx h=>hblk l b x hx h,fun t r _ h1 h2=>hs.lockτ t r (hltτ t r h2) h1 h2,fun _ _=>rfl,fun _ _=>rfl,rfl,rfl,Nat.le_refl _,Nat.le_refl _,fun _ _=>rfl,fun _ _=>rfl⟩,⟨hs.ext.cell,hblk⟩⟩
 ·obtain⟨b,h1,h2,h3,h4⟩:=hrel.box l x hx
  have hl:=hlt l b h1
  obtain⟨b',k1,k2,k3,k4⟩:=hs.rel.box l x ((hs.boxes l hl).trans hx)
  rw[hs.eqι l hl,h1]at k1
  cases k1
  exact⟨b,h1,h2,k3,h4.mono hext (hblk l b x hx h1)⟩
 ·obtain⟨cs,h1,h2,h3,h4,h5⟩:=hrel.tok t r p q
  obtain⟨k1,k2⟩:=htk t r p q
  obtain⟨cs',_,_,_,_,q5⟩:=hs.rel.tok t r k1 k2
  exact⟨cs,h1,(hs.lockτ t r (hltτ t r q) p q).trans h2,h3,h4,q5⟩
 ·exact Nat.lt_of_lt_of_le (hrel.ltι l b h) hs.ext.below.size
theorem tN (hrel:Rel B w g st) {g0:Ghost} (hg0:g0.S=g.S) (hs:Step w.heap.size w g0 Store.empty w1 g1 st1):Step B w g st w1 ⟨g1.S,g.ι,g.τ⟩ st∧Same w g st w1:=by
 have hblk:∀b,b<w.heap.size→w1.heap[b]?=w.heap[b]?:=fun b h=>hs.ext.below.block b h
 have hcell:∀b o,g.S b o→w1.cell? ⟨b,o,none⟩=w.cell? ⟨b,o,none⟩:=fun b o h=>hs.ext.cell b o (by rw[hg0];exact h)
 have htb:∀t r,st.toks t=true→g.τ t=some r→r.b<w.heap.size:=fun t r h1 h2=>by
  obtain⟨cs,_,h3,_⟩:=hrel.tok t r h1 h2
  exact(Array.getElem?_eq_some_iff.1 h3).1
 have hnew:∀b o,g1.S b o→b<w.heap.size→g.S b o:=fun b o h hb=>by
  rcases hs.ext.new b o h with h|h
  ·rw[←hg0];exact h
  ·omega
 have hext:Ext B w g w1 ⟨g1.S,g.ι,g.τ⟩:=⟨hs.ext.below.mono hrel.base,fun b o h=>hs.ext.S b o (by rw[hg0];exact h),hcell,fun b h=>hs.ext.whole b (by rw[hg0];exact h),fun _ _ h=>h,fun _ _ h=>h,fun b o h=>by
  rcases hs.ext.new b o h with h|h
  ·exact .inl (by rw[←hg0];exact h)
  ·exact .inr (Nat.le_trans hrel.base h),fun l b vs T fr hl hv=>⟨vs,(hblk b (hrel.ltι l b hl)).trans hv,rfl⟩⟩
 refine⟨⟨hext,⟨Nat.le_trans hrel.base hs.ext.below.size,hs.rel.S,fun l x hx=>?_,hrel.inj,fun t r p q=>?_,hrel.uniq,hrel.apart,hrel.newι,hrel.newτ,fun l b h=>?_,hrel.limι,hrel.limτ⟩,fun l b x _ _ h=>hblk b (hrel.ltι l b h),fun t r _ h1 h2=>hblk _ (htb t r h1 h2),fun _ _=>rfl,fun _ _=>rfl,rfl,rfl,Nat.le_refl _,Nat.le_refl _,fun _ _=>rfl,fun _ _=>rfl⟩,⟨hcell,fun l b x _ h=>hblk b (hrel.ltι l b h)⟩⟩
 ·obtain⟨b,h1,h2,h3,h4⟩:=hrel.box l x hx
  exact⟨b,h1,h2,fun o h=>h3 o (hnew b o h (hrel.ltι l b h1)),h4.mono hext (hblk b (hrel.ltι l b h1))⟩
 ·obtain⟨cs,h1,h2,h3,h4,h5⟩:=hrel.tok t r p q
  exact⟨cs,h1,(hblk _ (htb t r p q)).trans h2,h3,h4,fun o ho h=>h5 o ho (hnew _ o h (htb t r p q))⟩
 ·exact Nat.lt_of_lt_of_le (hrel.ltι l b h) hs.ext.below.size
def cU (B:Nat) (w:World) (g:Ghost) (st:Store) (r:D):Ending→World→Prop:=fun e w'=>∃v,e=.returned v∧Same w g st w'∧∀mv,∃g',VR w' g' (au mv r st).1 v∧Step B w g st w' g' (au mv r st).2
theorem dB (st:Store) (mv:Bool) {d:D} (h:∀sz xs,d≠.slice .row sz xs):cZ st mv d=(d,st):=by
 unfold cZ
 split
 ·exact absurd rfl (h _ _)
 ·rfl
theorem jP (st1:Store) (d:D):∀sz xs,aG st1 d≠.slice .row sz xs:=by
 intro sz xs
 cases d with
 |agg cs=>cases cs<;>simp[aG,aM,D.strip]
 |slice t sz' xs'=>
  cases t<;>simp[aG,aM,D.strip,Tok.strip]<;>split<;>simp
 |_=>simp[aG,aM,D.strip]
theorem sD (st st1:Store) (mv:Bool) (r:D) (h:av (dG st1 r)=false):au mv (dG st1 r) st=(dG st1 r,st):=by
 unfold au
 rw[if_neg (by simp[h])]
 split
 ·rename_i v vs hr
  have:∀sz xs,v≠.slice .row sz xs:=by
   cases r with
   |tuple us=>
    cases us with
    |nil=>simp[dG,aG,aM,D.strip]at hr
    |cons u us=>
     simp only[dG,D.tuple.injEq,List.cons.injEq]at hr
     rw[←hr.1]
     exact jP st1 u
   |agg cs=>cases cs<;>simp[dG,aG,aM,D.strip]at hr
   |slice t sz' xs'=>cases t<;>simp[dG,aG,aM,D.strip]at hr<;>(try (split at hr<;>simp at hr))
   |_=>simp[dG,aG,aM,D.strip]at hr
  rw[dB st mv this,hr]
 ·rename_i hnt
  refine dB st mv ?_
  cases r with
  |tuple us=>
   cases us with
   |nil=>intro sz xs;simp[dG,aG,aM,D.strip]
   |cons u us=>intro sz xs;simp[dG]
  |_=>intro sz xs;simp only[dG];exact jP st1 _ sz xs
theorem tR (hb:Step B w g st w1 ⟨g1.S,g.ι,g.τ⟩ st) (hsame:Same w g st w1) (hrel:Rel B w g st)
  (htok:∀k ri,st1.toks k=true→st1.tlim≤k→g1.τ k=some ri→∃cs,B≤ri.b∧w1.heap[ri.b]?=some (.cells cs ri.T (0,0))∧cs.size=ri.n∧ri.e≤ri.n∧(∀o,ri.e≤o→¬g1.S ri.b o)∧(∀l,g.ι l≠some ri.b)∧∀t r',st.toks t=true→g.τ t=some r'→r'.b≠ri.b)
  {r:D} {v:Value} (hv:VR w1 g1 r v) (hf:r.free=true):cU B w g st (dG st1 r) (.returned v) w1:=by
 refine⟨v,rfl,hsame,fun mv=>?_⟩
 rcases As (st1:=st1) hv hf with⟨h1,h2⟩|⟨h1,oR,h2,h3⟩
 ·rw[sD st st1 mv r h1]
  exact⟨⟨g1.S,g.ι,g.τ⟩,h2 _ (fun _ _ h=>h),hb⟩
 ·have e:au mv (dG st1 r) st=(rg st.ntok (dG st1 r),{st with toks:=ap st.toks st.ntok true,ntok:=st.ntok+1}):=by simp only[au,h1,if_true]
  rw[e]
  cases oR with
  |none=>exact⟨⟨g1.S,g.ι,g.τ⟩,h3 _ _ (fun _ _ h=>h) (hrel.newτ _ (Nat.le_refl _)),hb.trans hrel (Step.tokBare hb.rel)⟩
  |some ri=>
   obtain⟨k,k1,k2,k3⟩:=h2 ri rfl
   obtain⟨cs,t1,t2,t3,t4,t5,t6,t7⟩:=htok k ri k1 k2 k3
   have htok:=Step.tokRow hb.rel (r:=ri) t1 t2 t3 t4 t5 t6 t7
   exact⟨{S:=g1.S,ι:=g.ι,τ:=ap g.τ st.ntok (some ri)},h3 _ _ (fun _ _ h=>h) (ae _ _ _),hb.trans hrel htok⟩
theorem wL (hrel:Rel B w g st) (hs:Step B w g {st with lim:=st.next,tlim:=st.ntok} w1 g1 st1) {r:D} {v:Value} (hv:VR w1 g1 r v) (hf:r.free=true):cU B w g st (dG st1 r) (.returned v) w1:=by
 obtain⟨hb,hsame⟩:=Bv hrel hs
 refine tR hb hsame hrel (fun k ri k1 k2 k3=>?_) hv hf
 obtain⟨cs,t1,t2,t3,t4,t5⟩:=hs.rel.tok k ri k1 k3
 have hk:st.ntok≤k:=by have:=hs.tlim;simp only at this;omega
 refine⟨cs,t1,t2,t3,t4,t5,fun l hl=>hs.rel.apart k ri l ri.b k1 k3 (hs.ext.ι l _ hl) rfl,fun t r' p q e=>?_⟩
 have hlt:t<st.ntok:=by
  rcases Nat.lt_or_ge t st.ntok with h'|h'
  ·exact h'
  ·rw[hrel.newτ t h']at q;cases q
 have:=hs.rel.uniq t k r' ri ((hs.toks t hlt).trans p) k1 (hs.ext.τ t r' q) k3 e
 omega
theorem jj {sz:Nat} (hz:0<sz) {cs:List D} (hp:∀c∈cs,c.plain=true):∀(n:Nat),n*sz≤cs.length→(∀x∈bH sz n cs,x.cells.length=sz∧∀c∈x.cells,c.plain=true)∧(bH sz n cs).flatMap D.cells=cs.take (n*sz):=by
 have piece:∀i,(i+1)*sz≤cs.length→(qC ((cs.drop (i*sz)).take sz)).cells=(cs.drop (i*sz)).take sz:=fun i hi=>by
  have hl:((cs.drop (i*sz)).take sz).length=sz:=by rw[Nat.succ_mul]at hi;simp;omega
  generalize hq:(cs.drop (i*sz)).take sz=q at*
  have hqp:∀c∈q,c.plain=true:=fun c hc=>hp c (List.mem_of_mem_drop (List.mem_of_mem_take (hq▸hc)))
  match q,hl with
  |[],hl=>simp at hl;omega
  |[c],_=>have:=hqp c (by simp);cases c<;>simp_all[qC,D.cells,D.plain]
  |a::b::r,_=>rfl
 intro n
 induction n with
 |zero=>intro _;simp[bH]
 |succ n ih=>
  intro hn
  have hn':n*sz≤cs.length:=by rw[Nat.succ_mul]at hn;omega
  obtain⟨h1,h2⟩:=ih hn'
  have e:bH sz (n+1) cs=bH sz n cs++[qC ((cs.drop (n*sz)).take sz)]:=by simp[bH,List.range_succ]
  have hl:((cs.drop (n*sz)).take sz).length=sz:=by rw[Nat.succ_mul]at hn;simp;omega
  refine⟨fun x hx=>?_,?_⟩
  ·rw[e]at hx
   rcases List.mem_append.1 hx with hx|hx
   ·exact h1 x hx
   ·simp at hx
    subst hx
    rw[piece n hn]
    exact⟨hl,fun c hc=>hp c (List.mem_of_mem_drop (List.mem_of_mem_take hc))⟩
  ·rw[e,List.flatMap_append,h2,List.flatMap_cons,piece n hn,Nat.succ_mul,List.take_add]
   simp
theorem tG (hrel:Rel B w g st) {g0:Ghost} (hg0:g0.S=g.S) (hs:Step w.heap.size w g0 Store.empty w1 g1 st1) {c c':D} {v:Value} (hv:VR w1 g1 c v) (hr:df st1 c=some c') (mv:Bool):
  ∃g',VR w1 g' (cZ st mv c').1 v∧Step B w1 ⟨g1.S,g.ι,g.τ⟩ st w1 g' (cZ st mv c').2:=by
 obtain⟨hb,hsame⟩:=tN hrel hg0 hs
 unfold df at hr
 split at hr<;>try contradiction
 rename_i l off sz n c0
 split at hr<;>try contradiction
 rename_i cs hbx
 split at hr<;>try contradiction
 rename_i hc
 obtain⟨rfl,hle,hz,hp⟩:=hc
 cases hr
 have hp':∀c∈cs,c.plain=true:=List.all_eq_true.1 hp
 obtain⟨b,o,cap,vs,T,rfl,hbb,hh,hoo,hn,hcc,hk⟩:=hv.rs_inv
 obtain⟨b',hb',hB,hS,vs',T',hh',hl,hone,hvv⟩:=hs.rel.box l _ hbx
 rw[hbb]at hb'
 cases hb'
 rw[hh]at hh'
 cases hh'
 obtain⟨q1,q2⟩:=jj hz hp' n hle
 have hlen:(bH sz n cs).length=n:=by simp[bH]
 have nob:∀l,g.ι l≠some b:=fun l h=>by have:=hrel.ltι l _ h;omega
 have noτ:∀t r',st.toks t=true→g.τ t=some r'→r'.b≠b:=fun t r' h1 h2 h3=>by
  obtain⟨_,_,h4,_⟩:=hrel.tok t r' h1 h2
  have:=(Array.getElem?_eq_some_iff.1 h4).1
  omega
 have hBb:B≤b:=Nat.le_trans hrel.base hB
 have hcv:∀(g':Ghost),(∀b o,g1.S b o→g'.S b o)→∀(j:Nat) d u,(cs.take (n*sz))[j]?=some d→vs[j]?=some u→VR w1 g' d u:=fun g' hS' j d u p q=>by
  have hj:j<n*sz:=by have:=(List.getElem?_eq_some_iff.1 p).1;simp at this;omega
  rw[List.getElem?_take_of_lt hj]at p
  exact(hvv j d u p q).plain_ (hp' d (List.mem_of_getElem? p)) g' hS'
 cases mv with
 |true=>
  have hs3:=Step.name hb.rel (b:=b) (x:=.row ((bH sz n cs).flatMap D.cells)) (Array.getElem?_eq_some_iff.1 hh).1 hBb hS (fun l _ _=>nob l) noτ ⟨vs,T,hh,by rw[q2];simp;omega,fun c hc=>by
   rw[q2]at hc
   exact hone c (List.mem_of_mem_take hc),fun j d u p q=>by
   rw[q2]at p
   exact hcv ⟨g1.S,g.ι,g.τ⟩ (fun _ _ h=>h) j d u p q⟩
  refine⟨{S:=g1.S,ι:=ap g.ι st.next (some b),τ:=g.τ},?_,hs3⟩
  simp only[cZ,if_true,hlen]
  exact .rs st.next 0 sz n n b o cap vs T (ae _ _ _) hh hoo (Nat.le_refl _) (by omega) hk
 |false=>
  have hs3:=Step.settle hb.rel (lo:=0) (hi:=n*sz) hBb hh (by omega) (fun l _ _=>nob l) (fun t r' h1 h2 h3=>absurd h3 (noτ t r' h1 h2))
  refine⟨_,?_,hs3⟩
  simp only[cZ,Bool.false_eq_true,if_false]
  rcases Nat.eq_zero_or_pos n with h0|h0
  ·subst h0
   exact .slice .no sz _ _ 0 cap (fun _ _=>Go.undef) hlen (by omega) trivial (fun i x h=>by simp[bH]at h) (fun i x j c h=>by simp[bH]at h) (fun i x j c h=>by simp[bH]at h)
  ·have ho0:o=0:=by
    rcases hoo with h|h
    ·exact h
    ·omega
   subst ho0
   have:=VR.row (w:=w1) (g:=Ghost.more ⟨g1.S,g.ι,g.τ⟩ b 0 (n*sz)) (t:=.no) (sz:=sz) (xs:=bH sz n cs) (ad:=⟨b,0,none⟩) (cap:=cap) (cells:=vs.toList.take (n*sz)) hz rfl (by omega) trivial q1 (by simp[hlen];omega) (fun k u hk=>by
    have hkl:k<n*sz:=by have:=(List.getElem?_eq_some_iff.1 hk).1;simp at this;omega
    rw[List.getElem?_take_of_lt hkl]at hk
    simp only[Nat.zero_add]
    exact⟨.inr ⟨rfl,by omega,hkl⟩,by rw[bc hh];simpa using hk⟩) (fun k d u p q=>by
    rw[q2]at p
    have hkl:k<n*sz:=by have:=(List.getElem?_eq_some_iff.1 p).1;simp at this;omega
    rw[List.getElem?_take_of_lt hkl]at q
    exact hcv (Ghost.more ⟨g1.S,g.ι,g.τ⟩ b 0 (n*sz)) (fun _ _ h=>Or.inl h) k d u p (by simpa using q))
   rw[hlen]at this
   exact this
theorem wP (hrel:Rel B w g st) {g0:Ghost} (hg0:g0.S=g.S) (hs:Step w.heap.size w g0 Store.empty w1 g1 st1) {r r':D} {v:Value} (hv:VR w1 g1 r v) (hf:dy st1 r=some r'):cU B w g st r' (.returned v) w1:=by
 obtain⟨hb,hsame⟩:=tN hrel hg0 hs
 unfold dy at hf
 split at hf
 ·rename_i hfree
  cases hf
  refine tR hb hsame hrel (fun k ri k1 k2 k3=>?_) hv hfree
  obtain⟨cs,t1,t2,t3,t4,t5⟩:=hs.rel.tok k ri k1 k3
  refine⟨cs,Nat.le_trans hrel.base t1,t2,t3,t4,t5,fun l hl=>?_,fun t r' p q e=>?_⟩
  ·have:=hrel.ltι l _ hl;omega
  ·obtain⟨_,_,h4,_⟩:=hrel.tok t r' p q
   have:=(Array.getElem?_eq_some_iff.1 h4).1
   omega
 ·refine⟨v,rfl,hsame,fun mv=>?_⟩
  by_cases ht:∃u us,r=.tuple (u::us)
  ·obtain⟨u,us,rfl⟩:=ht
   simp only[xE]at hf
   split at hf<;>try contradiction
   rename_i hfr
   obtain⟨u',hu',rfl⟩:=Option.map_eq_some_iff.1 hf
   obtain⟨cs,vs,rfl,hl,hcv⟩:∃(cs:List D) (vs:Array Value),v=.tuple vs∧(u::us).length=vs.size∧∀(j:Nat) c v,(u::us)[j]?=some c→vs[j]?=some v→VR w1 g1 c v:=by
    cases hv with
    |tuple cs vs hl hc=>exact⟨[],vs,rfl,hl,hc⟩
   obtain⟨v0,hv0⟩:∃v0,vs[0]?=some v0:=⟨vs[0]'(by simp at hl;omega),Array.getElem?_eq_getElem _⟩
   obtain⟨g',h1,h2⟩:=tG hrel hg0 hs (hcv 0 u v0 rfl hv0) hu' mv
   have hrow:∃sz xs,u'=.slice .row sz xs:=by
    unfold df at hu'
    split at hu'<;>try contradiction
    split at hu'<;>try contradiction
    split at hu'<;>try contradiction
    cases hu'
    exact⟨_,_,rfl⟩
   have hab:au mv (.tuple (u'::us.map D.strip)) st=(.tuple ((cZ st mv u').1::us.map D.strip),(cZ st mv u').2):=by
    obtain⟨sz,xs,rfl⟩:=hrow
    simp[au,av,bs,dO]
   rw[hab]
   refine⟨g',.tuple _ vs (by simpa using hl) (fun j c' v' p q=>?_),hb.trans hrel h2⟩
   cases j with
   |zero=>simp only[List.getElem?_cons_zero,Option.some.injEq]at p;rw[hv0]at q;cases q;rw[←p];exact h1
   |succ j=>
    simp only[List.getElem?_cons_succ,List.getElem?_map,Option.map_eq_some_iff]at p
    obtain⟨c0,h0,rfl⟩:=p
    have hfa:(match (generalizing:=false) c0 with| .agg cs=>cs.all D.free1|d=>d.free1)=true:=(List.all_eq_true.1 hfr) c0 (List.mem_of_getElem? h0)
    exact(fA c0 v' (hcv (j+1) c0 v' (by simpa using h0) q) hfa ⟨g1.S,g.ι,g.τ⟩ (fun _ _ h=>h)).mono h2.ext
  ·have e:xE st1 r=df st1 r:=by
    unfold xE
    split
    ·exact absurd ⟨_,_,rfl⟩ ht
    ·rfl
   rw[e]at hf
   obtain⟨g',h1,h2⟩:=tG hrel hg0 hs hv hf mv
   have hab:au mv r' st=cZ st mv r':=by
    unfold df at hf
    split at hf<;>try contradiction
    split at hf<;>try contradiction
    split at hf<;>try contradiction
    cases hf
    simp[au,av,bs,dO]
   rw[hab]
   exact⟨g',h1,hb.trans hrel h2⟩
/-! ### What is the same everywhere -/
theorem lS {d:D} (h:d.ground1=true) {v v':Value} (h1:VR w g d v) (h2:VR w' g' d v'):v=v':=by
 cases d<;>simp[D.ground1]at h<;>cases h1<;>cases h2<;>rfl
theorem iB {d:D} (h:d.ground1=true) {v:Value} (h1:VR w g d v) (w':World) (g':Ghost):VR w' g' d v:=by
 cases d<;>simp[D.ground1]at h<;>cases h1<;>constructor
theorem ll {d:D} (h:(match (generalizing:=false) d with| .agg cs=>cs.all D.ground1|d=>d.ground1)=true) {v:Value} (h1:VR w g d v) (w':World) (g':Ghost):VR w' g' d v∧∀{v'},VR w' g' d v'→v=v':=by
 by_cases hd:∃cs,d=.agg cs
 ·obtain⟨cs,rfl⟩:=hd
  obtain⟨vs,rfl,hl,ho,hc⟩:=h1.agg_inv
  simp only[List.all_eq_true]at h
  refine⟨.agg cs vs hl ho (fun j c v p q=>iB (h c (List.mem_of_getElem? p)) (hc j c v p q) w' g'),fun{v'} h2=>?_⟩
  obtain⟨vs',rfl,hl',_,hc'⟩:=h2.agg_inv
  congr 1
  apply Array.ext (by omega)
  intro j p q
  have hj:j<cs.length:=by omega
  exact lS (h _ (List.getElem_mem hj)) (hc j _ _ (List.getElem?_eq_getElem hj) (Array.getElem?_eq_getElem p)) (hc' j _ _ (List.getElem?_eq_getElem hj) (Array.getElem?_eq_getElem q))
 ·have hg:d.ground1=true:=by
   cases d<;>first|exact absurd ⟨_,rfl⟩ hd|exact h
  exact⟨iB hg h1 w' g',fun{v'} h2=>lS hg h1 h2⟩
theorem lC {d:D} (h:d.ground=true) {v:Value} (h1:VR w g d v) (w':World) (g':Ghost):VR w' g' d v∧∀{v'},VR w' g' d v'→v=v':=by
 by_cases ht:∃vs,d=.tuple vs
 ·obtain⟨cs,rfl⟩:=ht
  have hfa:∀d∈cs,(match (generalizing:=false) d with| .agg cs=>cs.all D.ground1|d=>d.ground1)=true:=List.all_eq_true.1 h
  cases h1 with
  |tuple cs vs hl hc=>
   refine⟨.tuple cs vs hl (fun j c v p q=>(ll (hfa c (List.mem_of_getElem? p)) (hc j c v p q) w' g').1),fun{v'} h2=>?_⟩
   cases h2 with
   |tuple cs vs' hl' hc'=>
    congr 1
    apply Array.ext (by omega)
    intro j p q
    have hj:j<cs.length:=by omega
    exact(ll (hfa _ (List.getElem_mem hj)) (hc j _ _ (List.getElem?_eq_getElem hj) (Array.getElem?_eq_getElem p)) w' g').2 (hc' j _ _ (List.getElem?_eq_getElem hj) (Array.getElem?_eq_getElem q))
 ·have hf':(match (generalizing:=false) d with| .agg cs=>cs.all D.ground1|d=>d.ground1)=true:=by
   cases d<;>first|exact absurd ⟨_,rfl⟩ ht|exact h
  exact ll hf' h1 w' g'
theorem n7 {d:D} (h:d.ground=true) (mv:Bool) (st:Store):au mv d st=(d,st):=by
 have:av d=false:=by
  cases d with
  |tuple vs=>
   cases vs with
   |nil=>rfl
   |cons v r=>
    have hv:(match (generalizing:=false) v with| .agg cs=>cs.all D.ground1|d=>d.ground1)=true:=(List.all_eq_true.1 h) v (by simp)
    cases v with
    |agg cs=>cases cs with
     |nil=>rfl
     |cons c _=>have:=(List.all_eq_true.1 hv) c (by simp);cases c<;>simp_all[av,bs,dO,D.ground1]
    |_=>simp_all[av,bs,dO,D.ground1]
  |agg cs=>cases cs with
   |nil=>rfl
   |cons c _=>have:=(List.all_eq_true.1 h) c (by simp);cases c<;>simp_all[av,bs,dO,D.ground1]
  |_=>simp_all[av,bs,dO,D.ground,D.ground1]
 unfold au
 rw[if_neg (by simp[this])]
 split
 ·rename_i v vs
  have hv:(match (generalizing:=false) v with| .agg cs=>cs.all D.ground1|d=>d.ground1)=true:=(List.all_eq_true.1 h) v (by simp)
  rw[dB st mv (fun sz xs e=>by subst e;simp[D.ground1]at hv)]
 ·exact dB st mv (fun sz xs e=>by subst e;simp[D.ground,D.ground1]at h)
end
end Go.Ev
