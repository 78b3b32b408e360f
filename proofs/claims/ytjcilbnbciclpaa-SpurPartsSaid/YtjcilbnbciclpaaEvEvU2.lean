/-
  A call that is told of one row, and of some boxes that it reads: all else stays as it is.
-/
import Derived.Test.YtjcilbnbciclpaaEvEvU
set_option linter.unusedVariables false
set_option linter.unusedSimpArgs false
set_option linter.unnecessarySimpa false
namespace Go.Ev
open Go.RowKit
section
variable {P:Program} {B:Nat} {w w1:World} {g g1:Ghost} {st:Store} {l:Nat} {ps:List Nat}
def Far (g:Ghost) (st:Store) (l:Nat) (ps:List Nat) (b:Nat):Prop:=(∃q x,st.boxes q=some x∧¬(q=l∨q∈ps)∧g.ι q=some b)∨∃t r,st.toks t=true∧g.τ t=some r∧r.b=b
def zc (g:Ghost) (st:Store) (l:Nat) (ps:List Nat):Ghost:=⟨fun b o=>g.S b o∨Far g st l ps b,g.ι,g.τ⟩
theorem Far.lt (hrel:Rel B w g st) {b:Nat} (h:Far g st l ps b):B≤b∧b<w.heap.size:=by
 rcases h with⟨q,x,h1,_,h3⟩|⟨t,r,h1,h2,rfl⟩
 ·obtain⟨b',k1,k2,_⟩:=hrel.box q x h1
  rw[h3]at k1
  cases k1
  exact⟨k2,hrel.ltι q b h3⟩
 ·obtain⟨cs,k1,k2,_⟩:=hrel.tok t r h1 h2
  exact⟨k1,(Array.getElem?_eq_some_iff.1 k2).1⟩
theorem kW (hrel:Rel B w g st):Ext B w g w (zc g st l ps):=⟨Below.refl _ _,fun _ _ h=>.inl h,fun _ _ _=>rfl,fun _ _=>rfl,fun _ _ h=>h,fun _ _ h=>h,fun b o h=>by
 rcases h with h|h
 ·exact .inl h
 ·exact .inr (h.lt hrel).1,fun _ _ vs _ _ _ h=>⟨vs,h,rfl⟩⟩
theorem oE (h:fN st l ps=true):st.lim≤l∧l<st.next∧(∃cs,st.boxes l=some (.row cs))∧∀p∈ps,p<l∧∃cs,st.boxes p=some (.cells cs):=by
 simp only[fN,Bool.and_eq_true,decide_eq_true_eq,List.all_eq_true]at h
 obtain⟨⟨⟨h1,h2⟩,h3⟩,h4⟩:=h
 refine⟨h1,h2,?_,fun p hp=>⟨(h4 p hp).1,?_⟩⟩
 ·cases hb:st.boxes l with
  |none=>rw[hb]at h3;cases h3
  |some x=>cases x<;>first|exact⟨_,rfl⟩|(rw[hb]at h3;cases h3)
 ·have h5:=(h4 p hp).2
  cases hb:st.boxes p with
  |none=>rw[hb]at h5;cases h5
  |some x=>cases x<;>first|exact⟨_,rfl⟩|(rw[hb]at h5;cases h5)
theorem jC {q:Nat} {x:Box} (h:(jd st l ps).boxes q=some x):(q=l∨q∈ps)∧st.boxes q=some x:=by
 have h:(if q=l∨q∈ps then st.boxes q else none)=some x:=h
 split at h
 ·exact⟨by assumption,h⟩
 ·cases h
theorem kX {q:Nat} (h:q=l∨q∈ps):(jd st l ps).boxes q=st.boxes q:=if_pos h
theorem A9 (hrel:Rel B w g st) {q b:Nat} {x:Box} (hq:q=l∨q∈ps) (hx:st.boxes q=some x) (hb:g.ι q=some b):¬Far g st l ps b:=fun h=>by
 rcases h with⟨q',x',h1,h2,h3⟩|⟨t,r,h1,h2,h3⟩
 ·have:=hrel.inj q q' b x x' hx h1 hb h3
  subst this
  exact h2 hq
 ·exact hrel.apart t r q b h1 h2 hb h3
theorem yi (hrel:Rel B w g st) (hok:fN st l ps=true):Rel B w (zc g st l ps) (jd st l ps):=by
 obtain⟨o1,o2,o3,o4⟩:=oE hok
 have hext:=kW (l:=l) (ps:=ps) hrel
 refine⟨hrel.base,fun b o h=>?_,fun q x hx=>?_,fun q q' b x x' hx hx' p p'=>hrel.inj q q' b x x' (jC hx).2 (jC hx').2 p p',fun t r ht=>(by cases ht),fun t t' r r' ht=>(by cases ht),fun t r q b ht=>(by cases ht),hrel.newι,hrel.newτ,hrel.ltι,Nat.le_of_lt o2,Nat.le_refl _⟩
 ·rcases h with h|h
  ·exact hrel.S b o h
  ·exact(h.lt hrel).2
 ·obtain⟨hq,hx⟩:=jC hx
  obtain⟨b,h1,h2,h3,h4⟩:=hrel.box q x hx
  refine⟨b,h1,h2,fun o h=>?_,h4.mono hext rfl⟩
  rcases h with h|h
  ·exact h3 o h
  ·exact A9 hrel hq hx h1 h
theorem eO {α:Type} {p:α→Bool} {c:α}:∀{l:List α},c∈l.takeWhile p→p c=true
 |[],h=>by cases h
 |x::l,h=>by
  rw[List.takeWhile_cons]at h
  split at h
  ·rename_i hx
   rcases List.mem_cons.1 h with rfl|h
   ·exact hx
   ·exact eO h
  ·cases h
theorem zn {f:Nat} {ds:List D} {vs:Array Value} {r:D} {C1:Store} (hrel:Rel B w g st) (hv:VRs w g ds vs.toList) (hok:fN st l ps=true) (hres:kN r l=true)
  (h:∀gC:Ghost,Rel B w gC (jd st l ps)→VRs w gC ds vs.toList→Enters P f∧Calls P f vs w (js B w gC (jd st l ps) r C1)):Enters P f∧Calls P f vs w (js B w g st r {st with boxes:=ap st.boxes l (gRow (C1.boxes l))}):=by
 obtain⟨o1,o2,⟨cs0,o3⟩,o4⟩:=oE hok
 have hrelC:=yi hrel hok
 obtain⟨hE,hC⟩:=h _ hrelC (hv.mono (kW hrel))
 refine⟨hE,hC.mono fun e w' hR=>?_⟩
 obtain⟨v,g',rfl,hr,hs⟩:=hR
 simp only[kN,Bool.or_eq_true]at hres
 have hr1:=hres
 obtain⟨bl,e1,e2,e3,e4⟩:=hrel.box l _ o3
 have hι:∀q,q<st.next→g'.ι q=g.ι q:=fun q hq=>hs.eqι q hq
 have far:∀b,Far g st l ps b→w'.heap[b]?=w.heap[b]?:=fun b hb=>hs.ext.whole b (fun o=>.inr hb)
 have hcell:∀b o,g.S b o→w'.cell? ⟨b,o,none⟩=w.cell? ⟨b,o,none⟩:=fun b o h=>hs.ext.cell b o (.inl h)
 have hext:Ext B w g w' g:=⟨hs.ext.below,fun _ _ h=>h,hcell,fun b h=>hs.ext.whole b (fun o=>.inl (h o)),fun _ _ h=>h,fun _ _ h=>h,fun _ _ h=>.inl h,fun q b vs T fr p q'=>hs.ext.keep q b vs T fr p q'⟩
 have other:∀q b x,q≠l→st.boxes q=some x→g.ι q=some b→w'.heap[b]?=w.heap[b]?:=fun q b x hq hx hb=>by
  by_cases hqp:q∈ps
  ·exact hs.lock q b x (o4 q hqp).1 ((kX (.inr hqp)).trans hx) hb
  ·exact far b (.inl ⟨q,x,hx,fun h=>h.elim hq hqp,hb⟩)
 refine⟨v,g,rfl,?_,⟨hext,⟨Nat.le_trans hrel.base hs.ext.below.size,fun b o h=>Nat.lt_of_lt_of_le (hrel.S b o h) hs.ext.below.size,fun q x hx=>?_,fun q q' b x x' hx hx' p p'=>?_,fun t r' p q=>?_,hrel.uniq,hrel.apart,hrel.newι,hrel.newτ,fun q b p=>Nat.lt_of_lt_of_le (hrel.ltι q b p) hs.ext.below.size,hrel.limι,hrel.limτ⟩,fun q b x hq hx hb=>?_,fun t r' ht h1 h2=>far _ (.inr ⟨t,r',h1,h2,rfl⟩),fun _ _=>rfl,fun _ _=>rfl,rfl,rfl,Nat.le_refl _,Nat.le_refl _,fun q hq=>?_,fun _ _=>rfl⟩⟩
 ·rcases hr1 with hr1|hr1
  ·exact(lC hr1 hr w' g).1
  ·cases r with
   |rs q off sz n c=>
    simp only[beq_iff_eq]at hr1
    subst hr1
    obtain⟨b,o,cap,vs',T,rfl,a1,a2,a3,a4,a5,a6⟩:=hr.rs_inv
    exact .rs q off sz n c b o cap vs' T (by rw[←hι q o2];exact a1) a2 a3 a4 a5 a6
   |_=>cases hr1
 ·by_cases e:q=l
  ·subst e
   have hx:ap st.boxes q (gRow (C1.boxes q)) q=some x:=hx
   rw[ae]at hx
   obtain⟨cs1,hb1,rfl⟩:∃cs1,C1.boxes q=some (.row cs1)∧x=.row (cs1.takeWhile D.ground1):=by
    cases hb:C1.boxes q with
    |none=>rw[hb]at hx;cases hx
    |some y=>cases y<;>first|(rw[hb]at hx;cases hx;exact⟨_,rfl,rfl⟩)|(rw[hb]at hx;cases hx)
   obtain⟨b,k1,k2,k3,vs',T,k4,k5,k6,k7⟩:=hs.rel.box q _ hb1
   rw[hι q o2,e1]at k1
   cases k1
   have hle:(cs1.takeWhile D.ground1).length≤cs1.length:=(List.takeWhile_prefix _).length_le
   refine⟨bl,e1,e2,e3,vs',T,k4,Nat.le_trans hle k5,fun c hc=>k6 c ((List.takeWhile_prefix _).subset hc),fun j c u p q=>?_⟩
   have hc:=List.mem_of_getElem? p
   have hp:cs1[j]?=some c:=by
    obtain⟨t,ht⟩:=List.takeWhile_prefix (p:=D.ground1) (l:=cs1)
    rw[←ht,List.getElem?_append_left (List.getElem?_eq_some_iff.1 p).1]
    exact p
   exact iB (eO hc) (k7 j c u hp q) _ _
  ·have hx:ap st.boxes l (gRow (C1.boxes l)) q=some x:=hx
   rw[ab _ _ e]at hx
   obtain⟨b,k1,k2,k3,k4⟩:=hrel.box q x hx
   exact⟨b,k1,k2,k3,k4.mono hext (other q b x e hx k1)⟩
 ·have live:∀q x,ap st.boxes l (gRow (C1.boxes l)) q=some x→∃y,st.boxes q=some y:=fun q x hx=>by
   by_cases e:q=l
   ·subst e;exact⟨_,o3⟩
   ·rw[ab _ _ e]at hx;exact⟨x,hx⟩
  obtain⟨y,hy⟩:=live q x hx
  obtain⟨y',hy'⟩:=live q' x' hx'
  exact hrel.inj q q' b y y' hy hy' p p'
 ·obtain⟨cs,h1,h2,h3⟩:=hrel.tok t r' p q
  exact⟨cs,h1,(far _ (.inr ⟨t,r',p,q,rfl⟩)).trans h2,h3⟩
 ·exact other q b x (by have hq:q<st.lim:=hq;omega) hx hb
 ·exact ab _ _ (by have hq:q<st.lim:=hq;omega)
theorem nJ {r:D} (hf:r.free=true) {w:World} {g g':Ghost} {v:Value} (hv:VR w g r v) (hS:∀b o,g.S b o→g'.S b o):VR w g' r.strip v:=by
 by_cases ht:∃cs,r=.tuple cs
 ·obtain⟨cs,rfl⟩:=ht
  have hfa:∀d∈cs,(match (generalizing:=false) d with| .agg cs=>cs.all D.free1|d=>d.free1)=true:=List.all_eq_true.1 hf
  cases hv with
  |tuple cs vs hl hv=>
   refine .tuple _ vs (by simpa using hl) (fun j c' v' p q=>?_)
   simp only[List.getElem?_map,Option.map_eq_some_iff]at p
   obtain⟨c0,h0,rfl⟩:=p
   have:=fA c0 v' (hv j c0 v' h0 q) (hfa c0 (List.mem_of_getElem? h0)) g' hS
   have hf0:=hfa c0 (List.mem_of_getElem? h0)
   cases c0<;>first|exact this|(cases hf0;done)
 ·refine fA r v hv ?_ g' hS
  cases r<;>first|exact absurd ⟨_,rfl⟩ ht|exact hf
theorem vQ (k:Nat) {r:D} (hf:r.free=true):(rg k r).free=true∧(rg k r).strip=r.strip:=by
 have one:∀d:D,(∀vs,d≠.tuple vs)→(match (generalizing:=false) d with| .agg cs=>cs.all D.free1|d=>d.free1)=true→(match (generalizing:=false) cb k d with| .agg cs=>cs.all D.free1|d=>d.free1)=true∧(match (generalizing:=false) cb k d with| .agg cs=>D.agg (cs.map D.strip1)|d=>d.strip1)=(match (generalizing:=false) d with| .agg cs=>D.agg (cs.map D.strip1)|d=>d.strip1):=fun d hd h=>by
  have o1:∀c:D,c.free1=true→(nX k c).free1=true∧(nX k c).strip1=c.strip1:=fun c hc=>by
   cases c with
   |slice t sz xs=>cases t<;>exact⟨rfl,rfl⟩
   |_=>exact⟨hc,rfl⟩
  cases d with
  |tuple vs=>exact absurd rfl (hd vs)
  |agg cs=>cases cs with
   |nil=>exact⟨rfl,rfl⟩
   |cons c cs=>
    simp only[List.all_cons,Bool.and_eq_true]at h
    obtain⟨h1,h2⟩:=o1 c h.1
    refine⟨?_,?_⟩
    ·show ((nX k c::cs).all D.free1)=true
     rw[List.all_cons,h1,h.2];rfl
    ·show D.agg ((nX k c::cs).map D.strip1)=D.agg ((c::cs).map D.strip1)
     rw[List.map_cons,List.map_cons,h2]
  |slice t sz xs=>cases t<;>exact⟨rfl,rfl⟩
  |_=>exact⟨h,rfl⟩
 by_cases ht:∃vs,r=.tuple vs
 ·obtain⟨vs,rfl⟩:=ht
  cases vs with
  |nil=>exact⟨rfl,rfl⟩
  |cons v vs=>
   have hf':(v::vs).all (fun| .agg cs=>cs.all D.free1|d=>d.free1)=true:=hf
   rw[List.all_cons,Bool.and_eq_true]at hf'
   by_cases hv:∃us,v=.tuple us
   ·obtain⟨us,rfl⟩:=hv
    cases hf'.1
   obtain⟨h1,h2⟩:=one v (fun us e=>hv ⟨us,e⟩) (by have:=hf'.1;cases v<;>exact this)
   refine⟨?_,?_⟩
   ·show ((cb k v::vs).all (fun| .agg cs=>cs.all D.free1|d=>d.free1))=true
    rw[List.all_cons,Bool.and_eq_true]
    refine⟨?_,hf'.2⟩
    generalize cb k v=z at h1
    cases z<;>exact h1
   ·show D.tuple ((cb k v::vs).map _)=D.tuple ((v::vs).map _)
    rw[List.map_cons,List.map_cons]
    congr 2
 ·obtain⟨h1,h2⟩:=one r (fun us e=>ht ⟨us,e⟩) (by cases r<;>first|exact absurd ⟨_,rfl⟩ ht|exact hf)
  have e:rg k r=cb k r:=by cases r<;>first|exact absurd ⟨_,rfl⟩ ht|rfl
  rw[e]
  have nt:∀us,cb k r≠.tuple us:=fun us h=>by
   cases r with
   |tuple vs=>exact ht ⟨_,rfl⟩
   |agg cs=>cases cs<;>cases h
   |slice t sz xs=>cases t<;>cases h
   |_=>cases h
  generalize cb k r=z at h1 h2 nt
  constructor
  ·cases z<;>first|exact absurd rfl (nt _)|exact h1
  ·cases z<;>first|exact absurd rfl (nt _)|(cases r<;>first|exact absurd ⟨_,rfl⟩ ht|exact h2)
theorem qY (hrel:Rel B w g st) {r:D} {e:Ending} {w':World} (h:cU B w g st r e w') (hf:r.free=true) (hrow:cS r=false):∃v g3,e=.returned v∧VR w' g3 r.strip v∧Step B w g st w' g3 st:=by
 obtain⟨v,rfl,same,hmv⟩:=h
 obtain⟨g2,k1,k2⟩:=hmv false
 by_cases hfr:av r=true
 ·have hab:au false r st=(rg st.ntok r,{st with toks:=ap st.toks st.ntok true,ntok:=st.ntok+1}):=by
   unfold au
   rw[if_pos hfr]
  rw[hab]at k1 k2
  simp only at k1 k2
  obtain⟨f1,f2⟩:=vQ st.ntok hf
  have hltτ:∀t r,g.τ t=some r→t<st.ntok:=fun t r h=>by
   rcases Nat.lt_or_ge t st.ntok with h'|h'
   ·exact h'
   ·rw[hrel.newτ t h']at h;cases h
  let g3:Ghost:=⟨g2.S,g2.ι,fun t=>if t<st.ntok then g2.τ t else none⟩
  have hτ:∀t r,g3.τ t=some r→t<st.ntok∧g.τ t=some r:=fun t r h=>by
   have h:(if t<st.ntok then g2.τ t else none)=some r:=h
   split at h
   ·rename_i hlt
    exact⟨hlt,by rw[←k2.eqτ t hlt];exact h⟩
   ·cases h
  have hτ2:∀t r,g.τ t=some r→g3.τ t=some r:=fun t r h=>by
   show (if t<st.ntok then g2.τ t else none)=some r
   rw[if_pos (hltτ t r h)]
   exact k2.ext.τ t r h
  have htk:∀t,t<st.ntok→st.toks t=true→(ap st.toks st.ntok true) t=true:=fun t hlt h=>(ab _ _ (Nat.ne_of_lt hlt)).trans h
  have hext:Ext B w g w' g3:=⟨k2.ext.below,k2.ext.S,k2.ext.cell,k2.ext.whole,k2.ext.ι,hτ2,k2.ext.new,k2.ext.keep⟩
  refine⟨v,g3,rfl,by rw[←f2];exact nJ f1 k1 (fun _ _ h=>h),⟨hext,⟨k2.rel.base,k2.rel.S,fun l x hx=>?_,fun l l' b x x' hx hx' p p'=>k2.rel.inj l l' b x x' hx hx' p p',fun t r' ht p=>?_,fun t t' r1 r2 h1 h2 p q e=>?_,fun t r' l b h1 p q=>?_,k2.rel.newι,fun t ht=>if_neg (by omega),k2.rel.ltι,hrel.limι,hrel.limτ⟩,k2.lock,k2.lockτ,k2.eqι,fun t ht=>?_,rfl,rfl,Nat.le_refl _,Nat.le_refl _,fun _ _=>rfl,fun _ _=>rfl⟩⟩
  ·obtain⟨b,h1,h2,h3,h4⟩:=hrel.box l x hx
   have hl:l<st.next:=by
    rcases Nat.lt_or_ge l st.next with h'|h'
    ·exact h'
    ·rw[hrel.newι l h']at h1;cases h1
   obtain⟨b',q1,q2,q3,q4⟩:=k2.rel.box l x hx
   have q1':=q1
   rw[k2.eqι l hl,h1]at q1'
   cases q1'
   exact⟨b,q1,q2,q3,h4.mono hext (same.box l b x hx h1)⟩
  ·obtain⟨hlt,hg⟩:=hτ t r' p
   exact k2.rel.tok t r' (htk t hlt ht) (k2.ext.τ t r' hg)
  ·exact hrel.uniq t t' r1 r2 h1 h2 (hτ t r1 p).2 (hτ t' r2 q).2 e
  ·obtain⟨hlt,hg⟩:=hτ t r' p
   exact k2.rel.apart t r' l b (htk t hlt h1) (k2.ext.τ t r' hg) q
  ·show (if t<st.ntok then g2.τ t else none)=g.τ t
   rw[if_pos ht]
   exact k2.eqτ t ht
 ·have hab:au false r st=(r,st)∨∃d,au false r st=(d,st)∧d=r:=by
   left
   have key:∀u:D,(∀sz xs,u≠.slice .row sz xs)→cZ st false u=(u,st):=fun u hu=>dB st false hu
   unfold au
   rw[if_neg hfr]
   cases r with
   |tuple vs=>
    cases vs with
    |nil=>exact key _ (fun sz xs h=>by cases h)
    |cons u vs=>
     have:=key u (fun sz xs h=>by subst h;cases hrow)
     simp only[this]
   |slice t sz xs=>exact key _ (fun sz' xs' h=>by cases h;cases hrow)
   |_=>exact key _ (fun sz xs h=>by cases h)
  have hab:au false r st=(r,st):=hab.elim id fun⟨d,h,e⟩=>e▸h
  rw[hab]at k1 k2
  exact⟨v,g2,rfl,nJ hf k1 (fun _ _ h=>h),k2⟩
theorem tK {r:D} (h:gZ r=true) {w':World} {g':Ghost} {v:Value} (hv:VR w' g' r v) (g:Ghost):VR w' g r v:=by
 simp only[gZ,Bool.or_eq_true]at h
 rcases h with h|h
 ·exact(lC h hv w' g).1
 ·split at h
  ·cases hv with
   |slice t sz xs A len cap vals hl hc ht hs hA hv=>exact .slice _ _ _ A len cap vals hl hc trivial hs (fun i x j c h=>by simp at h) (fun i x j c h=>by simp at h)
  ·cases hv with
   |slice t sz xs A len cap vals hl hc ht hs hA hv=>exact .slice _ _ _ A len cap vals hl hc ht hs (fun i x j c h=>by simp at h) (fun i x j c h=>by simp at h)
  ·cases hv with
   |slice t sz xs A len cap vals hl hc ht hs hA hv=>exact .slice _ _ _ A len cap vals hl hc ht hs (fun i x j c h=>by simp at h) (fun i x j c h=>by simp at h)
  ·cases h
theorem vV (hrel:Rel B w g st):Rel B w (zc g st l ps) (lZ st l ps):=by
 have hext:=kW (l:=l) (ps:=ps) hrel
 refine⟨hrel.base,fun b o h=>?_,fun q x hx=>?_,fun q q' b x x' hx hx' p p'=>hrel.inj q q' b x x' (jC hx).2 (jC hx').2 p p',fun t r ht=>(by cases ht),fun t t' r r' ht=>(by cases ht),fun t r q b ht=>(by cases ht),hrel.newι,hrel.newτ,hrel.ltι,Nat.le_refl _,Nat.le_refl _⟩
 ·rcases h with h|h
  ·exact hrel.S b o h
  ·exact(h.lt hrel).2
 ·obtain⟨hq,hx⟩:=jC hx
  obtain⟨b,h1,h2,h3,h4⟩:=hrel.box q x hx
  refine⟨b,h1,h2,fun o h=>?_,h4.mono hext rfl⟩
  rcases h with h|h
  ·exact h3 o h
  ·exact A9 hrel hq hx h1 h
theorem x9 {f:Nat} {ds:List D} {vs:Array Value} {r:D} {C1:Store} (hrel:Rel B w g st) (hv:VRs w g ds vs.toList) (hres:gZ r=true)
  (h:∀gC:Ghost,Rel B w gC (lZ st l ps)→VRs w gC ds vs.toList→Enters P f∧Calls P f vs w (js B w gC (lZ st l ps) r C1)):Enters P f∧Calls P f vs w (js B w g st r st):=by
 obtain⟨hE,hC⟩:=h _ (vV hrel) (hv.mono (kW hrel))
 refine⟨hE,hC.mono fun e w' hR=>?_⟩
 obtain⟨v,g',rfl,hr,hs⟩:=hR
 have far:∀b,Far g st l ps b→w'.heap[b]?=w.heap[b]?:=fun b hb=>hs.ext.whole b (fun o=>.inr hb)
 have hcell:∀b o,g.S b o→w'.cell? ⟨b,o,none⟩=w.cell? ⟨b,o,none⟩:=fun b o h=>hs.ext.cell b o (.inl h)
 have hext:Ext B w g w' g:=⟨hs.ext.below,fun _ _ h=>h,hcell,fun b h=>hs.ext.whole b (fun o=>.inl (h o)),fun _ _ h=>h,fun _ _ h=>h,fun _ _ h=>.inl h,fun q b vs T fr p q'=>hs.ext.keep q b vs T fr p q'⟩
 have other:∀q b x,st.boxes q=some x→g.ι q=some b→w'.heap[b]?=w.heap[b]?:=fun q b x hx hb=>by
  by_cases hqp:q=l∨q∈ps
  ·have hlt:q<st.next:=by
    rcases Nat.lt_or_ge q st.next with h'|h'
    ·exact h'
    ·rw[hrel.newι q h']at hb;cases hb
   exact hs.lock q b x hlt ((kX hqp).trans hx) hb
  ·exact far b (.inl ⟨q,x,hx,hqp,hb⟩)
 refine⟨v,g,rfl,tK hres hr g,⟨hext,⟨Nat.le_trans hrel.base hs.ext.below.size,fun b o h=>Nat.lt_of_lt_of_le (hrel.S b o h) hs.ext.below.size,fun q x hx=>?_,hrel.inj,fun t r' p q=>?_,hrel.uniq,hrel.apart,hrel.newι,hrel.newτ,fun q b p=>Nat.lt_of_lt_of_le (hrel.ltι q b p) hs.ext.below.size,hrel.limι,hrel.limτ⟩,fun q b x hq hx hb=>other q b x hx hb,fun t r' ht h1 h2=>far _ (.inr ⟨t,r',h1,h2,rfl⟩),fun _ _=>rfl,fun _ _=>rfl,rfl,rfl,Nat.le_refl _,Nat.le_refl _,fun q hq=>rfl,fun _ _=>rfl⟩⟩
 ·obtain⟨b,k1,k2,k3,k4⟩:=hrel.box q x hx
  exact⟨b,k1,k2,k3,k4.mono hext (other q b x hx k1)⟩
 ·obtain⟨cs,h1,h2,h3⟩:=hrel.tok t r' p q
  exact⟨cs,h1,(far _ (.inr ⟨t,r',p,q,rfl⟩)).trans h2,h3⟩
end
end Go.Ev
