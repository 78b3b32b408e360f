/-
  Rows handed over for good: their boxes are no more, and their cells are settled.
-/
import Derived.Test.YtjcilbnbciclpaaEvEvR2
set_option linter.unusedVariables false
set_option linter.unusedSimpArgs false
set_option linter.unnecessarySimpa false
namespace Go.Ev
open Go.RowKit
section
variable {P:Program} {B:Nat} {w w1:World} {g g1:Ghost} {st:Store}
def Am (g:Ghost) (b n:Nat):Prop:=∀o,o<n→g.S b o
theorem xP (hrel:Rel B w g st) {l:Nat} (hl:st.lim≤l):∃g',Step B w g st w g' {st with boxes:=ap st.boxes l none}∧∀x b vs T fr,st.boxes l=some x→g.ι l=some b→w.heap[b]?=some (.cells vs T fr)→Am g' b vs.size:=by
 have hk:=Step.killBox hrel (l:=l) (Nat.not_lt.2 hl)
 cases hb:st.boxes l with
 |none=>exact⟨g,hk,fun x b vs T fr h=>by cases h⟩
 |some x=>
  obtain⟨b,h1,h2,h3,h4⟩:=hrel.box l x hb
  by_cases hc:∃vs T fr,w.heap[b]?=some (.cells vs T fr)
  ·obtain⟨vs,T,fr,hh⟩:=hc
   have hs:=Step.settle hk.rel (b:=b) (lo:=0) (hi:=vs.size) h2 hh (Nat.le_refl _) (fun l' y hy hι=>by
    by_cases e:l'=l
    ·subst e
     have hy:ap st.boxes l' none l'=some y:=hy
     rw[ae]at hy
     cases hy
    ·have hy:ap st.boxes l none l'=some y:=hy
     rw[ab _ _ e]at hy
     exact e (hrel.inj l' l b y x hy hb hι h1)) (fun t r p q e=>absurd e (hrel.apart t r l b p q h1))
   refine⟨_,hk.trans hrel hs,fun x' b' vs' T' fr' _ p q o ho=>?_⟩
   rw[h1]at p
   cases p
   rw[hh]at q
   cases q
   exact .inr ⟨rfl,Nat.zero_le _,ho⟩
  ·exact⟨g,hk,fun x' b' vs' T' fr' _ p q=>by
    rw[h1]at p
    cases p
    exact absurd ⟨_,_,_,q⟩ hc⟩
theorem sk:∀(ds:List D) {g:Ghost} {st:Store},Rel B w g st→eX st ds=true→∃g',Step B w g st w g' (uV ds st)∧∀l off sz n c,D.rs l off sz n c∈ds→∀x b vs T fr,st.boxes l=some x→g.ι l=some b→w.heap[b]?=some (.cells vs T fr)→Am g' b vs.size
 |[],g,st,hrel,_=>⟨g,.refl hrel,fun _ _ _ _ _ h=>by cases h⟩
 |d::r,g,st,hrel,ho=>by
  have ho':eX st [d]=true∧eX st r=true:=by
   unfold eX at ho ⊢
   rw[List.all_cons,Bool.and_eq_true]at ho
   exact⟨by rw[List.all_cons,List.all_nil,Bool.and_true];exact ho.1,ho.2⟩
  by_cases hd:∃l off sz n c,d=.rs l off sz n c
  ·obtain⟨l,off,sz,n,c,rfl⟩:=hd
   have hl:st.lim≤l:=by simpa[eX]using ho'.1
   obtain⟨g1,hs1,h1⟩:=xP hrel hl
   obtain⟨g2,hs2,h2⟩:=sk r hs1.rel ho'.2
   refine⟨g2,hs1.trans hrel hs2,fun l' off' sz' n' c' hm x b vs T fr p q hh=>?_⟩
   by_cases e:l'=l
   ·subst e
    exact fun o hlt=>hs2.ext.S _ _ (h1 x b vs T fr p q hh o hlt)
   ·rcases List.mem_cons.1 hm with hm|hm
    ·cases hm;exact absurd rfl e
    ·exact h2 l' off' sz' n' c' hm x b vs T fr ((ab _ _ e).trans p) (hs1.ext.ι _ _ q) hh
  ·have e:uV (d::r) st=uV r st:=by
    cases d<;>first|rfl|exact absurd ⟨_,_,_,_,_,rfl⟩ hd
   obtain⟨g2,hs2,h2⟩:=sk r hrel ho'.2
   refine⟨g2,by rw[e];exact hs2,fun l' off' sz' n' c' hm=>?_⟩
   rcases List.mem_cons.1 hm with hm|hm
   ·exact absurd ⟨_,_,_,_,_,hm.symm⟩ hd
   ·exact h2 l' off' sz' n' c' hm
theorem VR.seenG (hrel:Rel B w g st) {g':Ghost} (hS:∀b o,g.S b o→g'.S b o) {d:D} {v:Value} (h:VR w g d v) (hf:(Ev.seen st d).freeA=true) (hset:∀l off sz n c,d=.rs l off sz n c→∀x b vs T fr,st.boxes l=some x→g.ι l=some b→w.heap[b]?=some (.cells vs T fr)→Am g' b vs.size):VR w g' (Ev.seen st d) v:=by
 by_cases hd:∃l off sz n c,d=.rs l off sz n c
 ·obtain⟨l,off,sz,n,c,rfl⟩:=hd
  have hset:=hset l off sz n c rfl
  obtain⟨b,o,cap,vs,T,rfl,hb,hh,ho,hn,hc,hk⟩:=h.rs_inv
  unfold Ev.seen at hf ⊢
  simp only at hf ⊢
  split at hf
  ·rename_i cs hbx
   split at hf
   ·rename_i h1
    rw[if_pos h1]
    obtain⟨hle,hz,hp⟩:=h1
    have hall:=hset _ _ _ _ _ hbx hb hh
    obtain⟨b',hb',hB,hSS,vs',T',hh',hl,hone,hvv⟩:=hrel.box l _ hbx
    rw[hb]at hb'
    cases hb'
    rw[hh]at hh'
    cases hh'
    have hp':∀c∈cs,c.plain=true:=List.all_eq_true.1 hp
    have hpd:∀c∈cs.drop off,c.plain=true:=fun c hc=>hp' c (List.mem_of_mem_drop hc)
    have hld:n*sz≤(cs.drop off).length:=by simp;omega
    obtain⟨q1,q2⟩:=jj hz hpd n hld
    have hlen:(bH sz n (cs.drop off)).length=n:=by simp[bH]
    rcases Nat.eq_zero_or_pos n with h0|h0
    ·subst h0
     exact .slice .no sz _ _ 0 cap (fun _ _=>Go.undef) hlen (by omega) trivial (fun i x h=>by simp[bH]at h) (fun i x j c h=>by simp[bH]at h) (fun i x j c h=>by simp[bH]at h)
    ·have ho0:o=off:=by
      rcases ho with h|h
      ·exact h
      ·omega
     subst ho0
     have:=VR.row (w:=w) (g:=g') (t:=.no) (sz:=sz) (xs:=bH sz n (cs.drop o)) (ad:=⟨b,o,none⟩) (cap:=cap) (cells:=(vs.toList.drop o).take (n*sz)) hz rfl (by omega) trivial q1 (by simp[hlen];omega) (fun k u hk=>by
      have hkl:k<n*sz:=by have:=(List.getElem?_eq_some_iff.1 hk).1;simp at this;omega
      rw[List.getElem?_take_of_lt hkl,List.getElem?_drop]at hk
      have hcell:w.cell? ⟨b,o+k,none⟩=some u:=by rw[bc hh];simpa using hk
      have hlt:o+k<vs.size:=by
       have:=(List.getElem?_eq_some_iff.1 hk).1
       simpa using this
      exact⟨hall _ hlt,hcell⟩) (fun k d u p q=>by
      rw[q2]at p
      have hkl:k<n*sz:=by have:=(List.getElem?_eq_some_iff.1 p).1;simp at this;omega
      rw[List.getElem?_take_of_lt hkl,List.getElem?_drop]at q
      rw[List.getElem?_take_of_lt hkl,List.getElem?_drop]at p
      exact(hvv (o+k) d u p (by simpa using q)).plain_ (hp' d (List.mem_of_getElem? p)) g' hS)
     rw[hlen]at this
     exact this
   ·simp[D.freeA,D.free1]at hf
  ·simp[D.freeA,D.free1]at hf
 ·have e:=kb st (fun l off sz n c h=>hd ⟨l,off,sz,n,c,h⟩)
  rw[e]at hf ⊢
  rw[←bS hf]
  refine fA d.strip v h.strip ?_ g' hS
  generalize d.strip=x at hf
  cases x<;>exact hf
theorem qp (hrel:Rel B w g st) {ds:List D} {vs:List Value} (h:VRs w g ds vs) (hf:∀d∈ds.map (Ev.seen st),d.freeA=true) (ho:eX st ds=true):∃g',Step B w g st w g' (uV ds st)∧VRs w g' (ds.map (Ev.seen st)) vs:=by
 obtain⟨g',hs,hset⟩:=sk ds hrel ho
 refine⟨g',hs,by simpa using h.1,fun j d v p q=>?_⟩
 have hm:=List.mem_of_getElem? p
 simp only[List.getElem?_map,Option.map_eq_some_iff]at p
 obtain⟨d0,h0,rfl⟩:=p
 exact(h.2 j d0 v h0 q).seenG hrel hs.ext.S (hf _ hm) (fun l off sz n c e=>hset l off sz n c (by rw[←e];exact List.mem_of_getElem? h0))
end
end Go.Ev
