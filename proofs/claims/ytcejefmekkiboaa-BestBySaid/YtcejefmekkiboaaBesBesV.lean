/-
  SpurParts: plain laws; two rows of IDs are the same.
-/
import Derived.Test.YtcejefmekkiboaaBesOrdSe
import Derived.Test.YtcejefmekkiboaaEvEvN
import Derived.Test.YtcejefmekkiboaaEvEvX11
import Derived.Test.YtcejefmekkiboaaEvEvX9
set_option linter.unusedVariables false
set_option linter.unusedSimpArgs false
set_option linter.unnecessarySimpa false
namespace Go.Bes
open Go.Ev
variable {l:List Eg} {root bans:List Int} {fr to now sz by':Int}
theorem vj {h h':List Hp} {a a':Int} (h1:db h a h' a'≤0) (h2:db h' a' h a= -1):False:=by
 have:=iU h a h' a'
 omega
theorem xd:el l [] [] fr to now sz by'=fq l fr to now sz by' []:=by
 cases hb:fq l fr to now sz by' []with
 |none=>
  cases hs:el l [] [] fr to now sz by' with
  |none=>rfl
  |some p=>
   obtain⟨es,a⟩:=p
   have hin:=og hs
   obtain⟨es',a',h2⟩:=ui (shut:=[]) hin.route.ask hin.route.way (by simp) hin.le
   rw[hb]at h2
   cases h2
 |some p=>
  obtain⟨es,a⟩:=p
  have hB:=ml hb
  have hin:SpurIn l [] [] fr to now sz by' es a:=⟨hB.route,hB.le,⟨es.map Eg.id,rfl⟩,fun k hk=>List.not_mem_nil⟩
  obtain⟨es',a',hs⟩:=tM hin
  rw[hs]
  rcases mw hs hin with h1|⟨_,rfl,rfl⟩
  ·rcases hB.cmp (og hs).route (by simp)with h2|⟨h2,_,_⟩
   ·exact(vj (by rw[h1];decide) h2).elim
   ·exact(vj (by rw[h2];decide) h1).elim
  ·rfl
theorem Fp (a b:List Int) (hl:a.length≤1000000) (hab:a.length=b.length) (t t':Tok) (sa sb:Nat) (ha:sa=1∨a=[]) (hb:sb=1∨b=[]):∀(m i:Nat),a.length - i=m→i≤a.length→a.take i=b.take i→
  ∀(ρ:Nat→D) (st:Store) (h0:ρ 0=.slice t sa (a.map (D.int .i64))) (h1:ρ 1=.slice t' sb (b.map (D.int .i64))) (h5:ρ 5=.int .i64 i) (Q:X→(Nat→D)→Store→Prop),
  (a=b→∀ρ',Q (.exit 0) ρ' st)→(a≠b→∀ρ',ρ' 4=.bool false→Q .ret ρ' st)→WC Γ2 (.loop fz) ρ st Q:=by
 intro m
 induction m with
 |zero=>
  intro i hm hi he ρ st h0 h1 h5 Q hQ hQ2
  have hge:((a.length:Nat):Int)≤(i:Int):=by omega
  rw[←aa h0,←aa h1,←aa h5]
  refine Hh ?_
  repeat' (first
 |(refine al ?_;first
 |refine lN ?_
 |refine lF (p:=hge) ?_
 |refine mI ?_
 |refine mS ?_
 |refine Hd ?_)
 |refine He ?_
 |refine Ir ?_
 |refine ah rfl ?_
 |refine Hi ?_)
  refine hQ ?_ _
  rw[List.take_of_length_le (by omega),List.take_of_length_le (by omega)]at he
  exact he
 |succ m ih=>
  intro i hm hi he ρ st h0 h1 h5 Q hQ hQ2
  obtain⟨x,hx⟩:∃v,a[i]?=some v:=⟨_,List.getElem?_eq_getElem (by omega)⟩
  obtain⟨y,hy⟩:∃v,b[i]?=some v:=⟨_,List.getElem?_eq_getElem (by omega)⟩
  have hz:sa=1:=ha.resolve_right (by rintro rfl;simp at hx)
  have hz2:sb=1:=hb.resolve_right (by rintro rfl;simp at hy)
  subst hz hz2
  have hpa:i<(a.map (D.int .i64)).length:=by simp;omega
  have hpb:i<(b.map (D.int .i64)).length:=by simp;omega
  have hltl:(i:Int)<((a.length:Nat):Int):=by omega
  have hadd:IntKind.i64.wrap ((i:Int)+1)=((i+1:Nat):Int):=by rw[ea (by omega)];omega
  rw[←aa h0,←aa h1,←aa h5]
  refine Hh ?_
  by_cases hxy:x=y
  ·have hnx:=ih (i+1) (by omega) (by omega) (by rw[List.take_add_one,List.take_add_one,he,hx,hy,hxy])
   clear ih
   repeat' (first
 |(refine al ?_;first
 |refine lN ?_
 |refine lT (p:=hltl) ?_
 |refine aD (s:=((i+1:Nat):Int)) (hs:=hadd) ?_
 |refine iA i hpa ?_
 |refine iA i hpb ?_
 |refine mI ?_
 |refine mS ?_
 |refine ca rfl rfl rfl rfl (by omega) ?_
 |refine lE (d:=.int _ _) hx ?_
 |refine lE (d:=.int _ _) hy ?_
 |refine Hd ?_)
 |refine au (aE rfl) ?_
 |refine He ?_
 |refine Ir ?_
 |refine ay ?_
 |refine Hg ?_
 |refine aj rfl ?_
 |refine ah rfl ?_
 |refine Hf ?_)
   all_goals first|(exfalso;omega)|(refine hnx _ _ ?_ ?_ ?_ Q hQ hQ2<;>rfl)
  ·have hne:a≠b:=fun h=>hxy (by
    subst h
    rw[hx]at hy
    cases hy
    rfl)
   clear ih
   repeat' (first
 |(refine al ?_;first
 |refine lN ?_
 |refine lT (p:=hltl) ?_
 |refine iA i hpa ?_
 |refine iA i hpb ?_
 |refine mI ?_
 |refine mB ?_
 |refine mS ?_
 |refine cu rfl rfl rfl rfl (by omega) ?_
 |refine lE (d:=.int _ _) hx ?_
 |refine lE (d:=.int _ _) hy ?_
 |refine Hd ?_)
 |refine au (aE rfl) ?_
 |refine He ?_
 |refine Ir ?_
 |refine ay ?_
 |refine Hg ?_
 |refine aj rfl ?_
 |refine Hf ?_
 |refine an ?_)
   all_goals first|(exfalso;omega)|(exact hQ2 hne _ rfl)
theorem Ea (a b:List Int) (hl:a.length≤1000000) (t t':Tok) (sa sb:Nat) (ha:sa=1∨a=[]) (hb:sb=1∨b=[]):EvP Γ2 16 [.slice t sa (a.map (D.int .i64)),.slice t' sb (b.map (D.int .i64))] (.bool (decide (a=b))):=by
 refine aJ rfl rfl ?_
 by_cases hab:a.length=b.length
 ·have hab':(a.length:Int)=b.length:=by omega
  have hlo:=Fp a b hl hab t t' sa sb ha hb a.length 0 (by omega) (by omega) rfl
  repeat' (first
 |(refine al ?_;first
 |refine lN ?_
 |refine mI ?_
 |refine mB ?_
 |refine mS ?_
 |refine ca rfl rfl rfl rfl (by omega) ?_
 |refine Hd ?_)
 |refine He ?_
 |refine Ir ?_
 |refine Hg ?_
 |refine ah rfl ?_
 |refine Hf ?_)
  all_goals first|(exfalso;omega)|skip
  refine hlo _ _ rfl rfl rfl _ (fun h ρ=>?_) (fun h ρ h4=>?_)
  ·rw[decide_eq_true h]
   repeat' (first
 |(refine al ?_;first
 |refine mB ?_
 |refine Hd ?_)
 |refine He ?_
 |refine Ir ?_
 |refine an ?_)
   exact aK (.inr rfl) rfl rfl
  ·rw[decide_eq_false h,←aa h4]
   exact aK (.inr rfl) rfl rfl
 ·have hab':(a.length:Int)≠b.length:=by omega
  rw[decide_eq_false (fun h=>hab (by rw[h]))]
  repeat' (first
 |(refine al ?_;first
 |refine lN ?_
 |refine mB ?_
 |refine mS ?_
 |refine cu rfl rfl rfl rfl (by omega) ?_
 |refine Hd ?_)
 |refine He ?_
 |refine Ir ?_
 |refine aj rfl ?_
 |refine an ?_)
  all_goals first|(exfalso;omega)|exact aK (.inr rfl) rfl rfl
end Go.Bes
/-
  The first routes, found one by one (plain).
-/
namespace Go.Bes
open Go.Ev
/-! ### What is looked for -/
def bf (r:Rt):List Int:=r.hs.map Hp.id
def pt (l:List Eg) (fr to now sz by':Int) (r:Rt):Prop:=∃es,IsRoute l fr to now sz es r.ar∧r.ar≤by'∧r.hs=aN sz es now
def pF (sz now:Int) (p:List Eg×Int):Rt:=⟨aN sz p.1 now,p.2⟩
def dJ (F:List Rt) (root:List Int):List Int:=F.filterMap (fun r=>if(bf r).take root.length=root then(bf r)[root.length]? else none)
section
variable (l:List Eg) (fr to now sz by':Int)
def fN (F M:List Rt) (root:List Int):List Rt:=match el l root (dJ F root) fr to now sz by' with
 |some p=>cQ (M++[pF sz now p])
 |none=>M
def fm (F:List Rt) (is:List Int):List Nat→List Rt→List Rt
 |[],M=>M
 |i::s,M=>fm F is s (fN l fr to now sz by' F M (is.take i))
def vT:Nat→List Rt→List Rt→List Rt
 |0,F,_=>F
 |_+1,F,[]=>F
 |k+1,F,r::M=>vT k (F++[r]) (fm l fr to now sz by' (F++[r]) (bf r) (List.range (bf r).length) M)
def nY (k:Int):List Rt:=vT l fr to now sz by' k.toNat [] (fN l fr to now sz by' [] [] [])
end
variable {l:List Eg} {fr to now sz by':Int}
theorem nj {r:Rt} {es:List Eg} (h:r.hs=aN sz es now):bf r=es.map Eg.id:=by
 unfold bf;rw[h,iR]
theorem pb {ids:List Int} {es:List Eg} (h:routeM l ids fr to now sz=some es):bG l ids fr=some es:=by
 unfold routeM at h
 split at h
 ·split at h
  ·rename_i es' hs
   split at h
   ·cases h;exact hs
   ·cases h
  ·cases h
 ·cases h
theorem qP {b1 b2:Int} {r r':Rt} (h:pt l fr to now sz b1 r) (h':pt l fr to now sz b2 r') (e:bf r=bf r'):r=r':=by
 obtain⟨es,h1,h2,h3⟩:=h
 obtain⟨es',k1,k2,k3⟩:=h'
 rw[nj h3,nj k3]at e
 have a1:=fh.2 ⟨rfl,_,h1⟩
 have a2:=fh.2 ⟨rfl,_,k1⟩
 rw[e,a2]at a1
 cases a1
 have:=h1.last.symm.trans k1.last
 obtain⟨a,b⟩:=r
 obtain⟨c,d⟩:=r'
 simp only at h3 k3 this
 subst h3 k3 this
 rfl
theorem sP:∀{a b:List Int},ce a b=0→a=b
 |[],[],_=>rfl
 |[],_::_,h=>by simp[ce]at h
 |_::_,[],h=>by simp[ce]at h
 |a::xs,b::ys,h=>by
  rw[ce]at h
  split at h
  ·omega
  ·split at h
   ·omega
   ·rw[sP h,show a=b by omega]
theorem C9 {r r':Rt} (e:fx r r'=true):bf r=bf r':=by
 have e:=df.1 e
 rw[kX]at e
 repeat' split at e
 all_goals first|omega|skip
 exact sP e
theorem B7 {b1 b2:Int} {r r':Rt} (h:pt l fr to now sz b1 r) (h':pt l fr to now sz b2 r') (e:fx r r'=true):r=r':=qP h h' (C9 e)
theorem AK {n t m u:Int} {es:List Eg} (h:Way sz l n t es m u):es≠[]→m∈es.map Eg.to:=by
 induction h with
 |nil=>exact fun h=>absurd rfl h
 |cons he hf hp h ih=>
  rename_i es
  intro _
  cases es with
  |nil=>cases h;exact List.mem_cons_self
  |cons e0 es=>exact List.mem_cons_of_mem _ (ih (by simp))
theorem pA {b1 b2:Int} {r f:Rt} (h:pt l fr to now sz b1 r) (h':pt l fr to now sz b2 f) {x:List Int} (e:bf f=bf r++x):x=[]:=by
 obtain⟨es,h1,h2,h3⟩:=h
 obtain⟨es',k1,k2,k3⟩:=h'
 rw[nj h3,nj k3]at e
 obtain⟨a,b,rfl,ha,hb⟩:=List.map_eq_append_iff.1 e
 obtain⟨m,u,w1,w2⟩:=Way.split k1.way
 have hnd:=k1.nd
 rw[nw]at hnd
 have hr1:IsRoute l fr m now sz a u:=⟨k1.ask,w1,(List.nodup_append.1 hnd).1⟩
 have e1:=pb (fh.2 ⟨rfl,_,h1⟩)
 have e2:=pb (fh.2 ⟨ha,_,hr1⟩)
 rw[e1]at e2
 cases e2
 obtain⟨rfl,_⟩:=Way.inj w1 h1.way
 cases b with
 |nil=>simpa using hb.symm
 |cons e0 b=>
  exfalso
  exact(List.nodup_append.1 hnd).2.2 m (ua w1) m (AK w2 (by simp)) rfl
theorem wY {root bans:List Int} {p:List Eg×Int} (h:el l root bans fr to now sz by'=some p):pt l fr to now sz by' (pF sz now p)∧(∃r,bf (pF sz now p)=root++r)∧∀k,(bf (pF sz now p))[root.length]?=some k→k∉bans:=by
 obtain⟨es,a⟩:=p
 have hi:=og h
 have e:bf (pF sz now (es,a))=es.map Eg.id:=nj rfl
 rw[e]
 exact⟨⟨es,hi.route,hi.le,rfl⟩,hi.pre,hi.ban⟩
theorem wO {F:List Rt} {root:List Int} {k:Int}:k∈dJ F root↔∃f∈F,(bf f).take root.length=root∧(bf f)[root.length]?=some k:=by
 unfold dJ
 rw[List.mem_filterMap]
 constructor
 ·rintro⟨f,h1,h2⟩
  split at h2
  ·exact⟨f,h1,by assumption,h2⟩
  ·cases h2
 ·rintro⟨f,h1,h2,h3⟩
  exact⟨f,h1,by rw[if_pos h2];exact h3⟩
def F8 (F:List Rt) (root:List Int):Prop:=(F=[]∧root=[])∨∃f∈F,∃i,i<(bf f).length∧root=(bf f).take i
structure YInv (l:List Eg) (fr to now sz by':Int) (F M:List Rt):Prop where
 strF:rj F
 inF:∀r∈F,pt l fr to now sz by' r
 strM:rj M
 inM:∀r∈M,pt l fr to now sz by' r
 nin:∀r∈M,r∉F
 cov:∀root,F8 F root→∀p,el l root (dJ F root) fr to now sz by'=some p→pF sz now p∈M
 low:∀f∈F,∀r,pt l fr to now sz by' r→r∉F→eW f r=true
theorem E7 {P:Nat→Prop} (h0:P 0) (n:Nat) (hn:∀i,P i→i≤n):∃i,P i∧∀j,P j→j≤i:=by
 induction n with
 |zero=>exact⟨0,h0,hn⟩
 |succ n ih=>
  by_cases h:P (n+1)
  ·exact⟨n+1,h,hn⟩
  ·refine ih fun i hi=>?_
   have:=hn i hi
   rcases Nat.lt_or_ge n i with h'|h'
   ·exact absurd (show P (n+1)from(by omega:i=n+1)▸hi) h
   ·exact h'
theorem vJ {a b:List Int} {i:Nat} (hi:a.length≤i) (e:a.take i=b.take i):∃x,b=a++x:=⟨b.drop i,by
 have h:=List.take_append_drop i b
 rw[←e,List.take_of_length_le hi]at h
 exact h.symm⟩
theorem Fm {F M:List Rt} (hI:YInv l fr to now sz by' F M) {r:Rt} (hr:pt l fr to now sz by' r) (hn:r∉F):∃root es,F8 F root∧SpurIn l root (dJ F root) fr to now sz by' es r.ar∧r.hs=aN sz es now:=by
 obtain⟨es,h1,h2,h3⟩:=hr
 by_cases hF:F=[]
 ·subst hF
  exact⟨[],es,.inl ⟨rfl,rfl⟩,⟨h1,h2,⟨_,rfl⟩,fun k _=>List.not_mem_nil⟩,h3⟩
 obtain⟨f0,hf0⟩:=List.exists_mem_of_ne_nil F hF
 obtain⟨i,⟨f,hf,hif,hir,he⟩,hmax⟩:=E7 (P:=fun i=>∃f∈F,i≤(bf f).length∧i≤(bf r).length∧(bf f).take i=(bf r).take i) ⟨f0,hf0,Nat.zero_le _,Nat.zero_le _,rfl⟩ (bf r).length (fun i h=>by obtain⟨_,_,_,h,_⟩:=h;exact h)
 have hR:pt l fr to now sz by' r:=⟨es,h1,h2,h3⟩
 have hif':i<(bf f).length:=by
  rcases Nat.lt_or_ge i (bf f).length with h|h
  ·exact h
  ·exfalso
   obtain⟨x,hx⟩:=vJ h he
   have hx0:=pA (hI.inF f hf) hR hx
   subst hx0
   rw[List.append_nil]at hx
   exact hn (qP (hI.inF f hf) hR hx.symm▸hf)
 have hir':i<(bf r).length:=by
  rcases Nat.lt_or_ge i (bf r).length with h|h
  ·exact h
  ·exfalso
   obtain⟨x,hx⟩:=vJ h he.symm
   have hx0:=pA hR (hI.inF f hf) hx
   subst hx0
   rw[List.append_nil]at hx
   exact hn (qP (hI.inF f hf) hR hx▸hf)
 have hid:=nj h3
 have hlen:((bf f).take i).length=i:=by rw[List.length_take];omega
 refine⟨(bf f).take i,es,.inr ⟨f,hf,i,hif',rfl⟩,⟨h1,h2,⟨(bf r).drop i,?_⟩,fun k hk hb=>?_⟩,h3⟩
 ·rw[he,List.take_append_drop,hid]
 ·rw[hlen,←hid]at hk
  obtain⟨f',hf',e1,e2⟩:=wO.1 hb
  rw[hlen]at e1 e2
  have hlf:i<(bf f').length:=by
   rcases Nat.lt_or_ge i (bf f').length with h|h
   ·exact h
   ·rw[List.getElem?_eq_none h]at e2;cases e2
  have:=hmax (i+1) ⟨f',hf',by omega,by omega,by rw[List.take_add_one,List.take_add_one,e1,e2,he,hk]⟩
  omega
theorem yt {F M:List Rt} (hI:YInv l fr to now sz by' F M) {r:Rt} (hr:pt l fr to now sz by' r) (hn:r∉F):∃m∈M,pm m r:=by
 obtain⟨root,es,h1,h2,h3⟩:=Fm hI hr hn
 obtain⟨es',a,h4⟩:=tM h2
 refine⟨_,hI.cov root h1 _ h4,?_⟩
 have:db (aN sz es' now) a (aN sz es now) r.ar≤0:=by
  rcases mw h4 h2 with h|⟨h,_⟩<;>omega
 unfold pm
 rw[h3]
 exact this
theorem BV {F:List Rt} (hI:YInv l fr to now sz by' F []) {r:Rt} (hr:pt l fr to now sz by' r):r∈F:=by
 by_cases h:r∈F
 ·exact h
 ·obtain⟨m,hm,_⟩:=yt hI hr h
  cases hm
theorem vP {F M:List Rt} {root:List Int} (hM:rj M) (hi:∀r∈M,pt l fr to now sz by' r) (hn:∀r∈M,r∉F) (hF:∀r∈F,pt l fr to now sz by' r) (hroot:F=[]∨∃f∈F,∃i,i<(bf f).length∧root=(bf f).take i):
  rj (fN l fr to now sz by' F M root)∧(∀r∈fN l fr to now sz by' F M root,pt l fr to now sz by' r)∧(∀r∈fN l fr to now sz by' F M root,r∉F)∧(∀r∈M,r∈fN l fr to now sz by' F M root)∧∀p,el l root (dJ F root) fr to now sz by'=some p→pF sz now p∈fN l fr to now sz by' F M root:=by
 unfold fN
 cases hp:el l root (dJ F root) fr to now sz by' with
 |none=>exact⟨hM,hi,hn,fun _ h=>h,fun p h=>by cases h⟩
 |some p=>
  simp only
  obtain⟨q1,⟨x,q2⟩,q3⟩:=wY hp
  have hnF:pF sz now p∉F:=fun hm=>by
   cases hk:(bf (pF sz now p))[root.length]? with
   |some k=>exact q3 k hk (wO.2 ⟨_,hm,by rw[q2];simp,hk⟩)
   |none=>
    have hx:x=[]:=by
     rw[q2]at hk
     have:=List.getElem?_eq_none_iff.1 hk
     rw[List.length_append]at this
     exact List.length_eq_zero_iff.1 (by omega)
    rcases hroot with h|⟨f,hf,i,hi',rfl⟩
    ·rw[h]at hm;cases hm
    ·rw[hx,List.append_nil]at q2
     have e:bf f=bf (pF sz now p)++(bf f).drop i:=by rw[q2,List.take_append_drop]
     have:=congrArg List.length (pA q1 (hF f hf) e)
     rw[List.length_drop]at this
     simp at this
     omega
  rw[Ak hM]
  have mem:=fun y=>vx (r:=pF sz now p) (y:=y) hM
  refine⟨qe hM,fun r hr=>?_,fun r hr=>?_,fun r hr=>oh hr,fun p' hp'=>?_⟩
  ·rcases(mem r).1 hr with h|⟨rfl,_⟩
   ·exact hi r h
   ·exact q1
  ·rcases(mem r).1 hr with h|⟨rfl,_⟩
   ·exact hn r h
   ·exact hnF
  ·cases hp'
   by_cases hx:∀x∈M,¬fx x (pF sz now p)=true
   ·exact qL hx
   ·simp only[Classical.not_forall,Classical.not_not]at hx
    obtain⟨x,hx1,ly⟩:=hx
    rw[←B7 (hi x hx1) q1 ly]
    exact oh hx1
theorem rX {F:List Rt} {is:List Int} (hF:∀r∈F,pt l fr to now sz by' r) (hroot:∀i,i<is.length→∃f∈F,∃j,j<(bf f).length∧is.take i=(bf f).take j):∀(js:List Nat) (M:List Rt),(∀j∈js,j<is.length)→rj M→(∀r∈M,pt l fr to now sz by' r)→(∀r∈M,r∉F)→
  rj (fm l fr to now sz by' F is js M)∧(∀r∈fm l fr to now sz by' F is js M,pt l fr to now sz by' r)∧(∀r∈fm l fr to now sz by' F is js M,r∉F)∧(∀r∈M,r∈fm l fr to now sz by' F is js M)∧∀j∈js,∀p,el l (is.take j) (dJ F (is.take j)) fr to now sz by'=some p→pF sz now p∈fm l fr to now sz by' F is js M
 |[],M,_,h1,h2,h3=>⟨h1,h2,h3,fun _ h=>h,fun j hj=>by cases hj⟩
 |j::js,M,hj,h1,h2,h3=>by
  obtain⟨k1,k2,k3,k4,k5⟩:=vP h1 h2 h3 hF (.inr (hroot j (hj j List.mem_cons_self)))
  obtain⟨n1,n2,n3,n4,n5⟩:=rX hF hroot js _ (fun x hx=>hj x (List.mem_cons_of_mem _ hx)) k1 k2 k3
  refine⟨n1,n2,n3,fun r hr=>n4 r (k4 r hr),fun x hx p hp=>?_⟩
  rcases List.mem_cons.1 hx with rfl|hx
  ·exact n4 _ (k5 p hp)
  ·exact n5 x hx p hp
theorem pP {α β:Type} (f:α→Option β) (F:List α) (r:α) (h:f r=none):(F++[r]).filterMap f=F.filterMap f:=by
 rw[List.filterMap_append]
 simp[h]
theorem Cp {F M:List Rt} {r:Rt} (hI:YInv l fr to now sz by' F (r::M)):YInv l fr to now sz by' (F++[r]) (fm l fr to now sz by' (F++[r]) (bf r) (List.range (bf r).length) M):=by
 have hr:=hI.inM r List.mem_cons_self
 have hrF:=hI.nin r List.mem_cons_self
 obtain⟨s1,s2⟩:=List.pairwise_cons.1 hI.strM
 have hF':∀x∈F++[r],pt l fr to now sz by' x:=fun x hx=>by
  rcases List.mem_append.1 hx with h|h
  ·exact hI.inF x h
  ·rw[List.mem_singleton.1 h];exact hr
 have hn0:∀x∈M,x∉F++[r]:=fun x hx h=>by
  rcases List.mem_append.1 h with h|h
  ·exact hI.nin x (List.mem_cons_of_mem _ hx) h
  ·rw[List.mem_singleton.1 h]at hx
   exact nN (s1 r hx)
 have hroot:∀i,i<(bf r).length→∃f∈F++[r],∃j,j<(bf f).length∧(bf r).take i=(bf f).take j:=fun i hi=>⟨r,by simp,i,hi,rfl⟩
 obtain⟨k1,k2,k3,k4,k5⟩:=rX hF' hroot (List.range (bf r).length) M (fun j hj=>List.mem_range.1 hj) s2 (fun x hx=>hI.inM x (List.mem_cons_of_mem _ hx)) hn0
 have hdf:∀f∈F,eW f r=true:=fun f hf=>hI.low f hf r hr hrF
 refine⟨?_,hF',k1,k2,k3,fun root hR p hp=>?_,fun f hf x hx hxn=>?_⟩
 ·refine List.pairwise_append.2 ⟨hI.strF,List.pairwise_singleton _ _,fun f hf x hx=>?_⟩
  rw[List.mem_singleton.1 hx]
  exact hdf f hf
 · -- who was looked from before, too
   by_cases hrr:∃i,i<(bf r).length∧root=(bf r).take i
   ·obtain⟨i,hi,rfl⟩:=hrr
    exact k5 i (List.mem_range.2 hi) p hp
   ·rcases hR with⟨h,_⟩|⟨f,hf,i,hi,e⟩
    ·exact absurd h (by simp)
    ·have hf':f∈F:=by
      rcases List.mem_append.1 hf with h|h
      ·exact h
      ·rw[List.mem_singleton.1 h]at hi e
       exact absurd ⟨i,hi,e⟩ hrr
     have hnt:¬(bf r).take root.length=root:=fun ht=>by
      rcases Nat.lt_or_ge root.length (bf r).length with h|h
      ·exact hrr ⟨root.length,h,ht.symm⟩
      ·rw[List.take_of_length_le h]at ht
       have e2:bf f=bf r++(bf f).drop i:=by rw[ht,e,List.take_append_drop]
       have:=congrArg List.length (pA hr (hI.inF f hf') e2)
       rw[List.length_drop]at this
       simp at this
       omega
     have hbn:dJ (F++[r]) root=dJ F root:=pP _ _ _ (if_neg hnt)
     rw[hbn]at hp
     have hm:=hI.cov root (.inr ⟨f,hf',i,hi,e⟩) p hp
     rcases List.mem_cons.1 hm with h|h
     ·obtain⟨_,⟨x,q⟩,_⟩:=wY hp
      rw[h]at q
      exact absurd (by rw[q];simp) hnt
     ·exact k4 _ h
 ·have hxF:x∉F:=fun h=>hxn (List.mem_append_left _ h)
  rcases List.mem_append.1 hf with h|h
  ·exact hI.low f h x hx hxF
  ·rw[List.mem_singleton.1 h]
   obtain⟨m,hm,hle⟩:=yt hI hx hxF
   have hrm:pm r x:=by
    rcases List.mem_cons.1 hm with rfl|h
    ·exact hle
    ·exact cN (gm (s1 m h)) hle
   have hne:¬fx x r=true:=fun e=>hxn (by rw[B7 hx hr e];simp)
   exact DP hrm hne
structure First (l:List Eg) (fr to now sz by':Int) (n:Nat) (F:List Rt):Prop where
 str:rj F
 inR:∀r∈F,pt l fr to now sz by' r
 low:∀f∈F,∀r,pt l fr to now sz by' r→r∉F→eW f r=true
 le:F.length≤n
 full:F.length=n∨∀r,pt l fr to now sz by' r→r∈F
theorem s6:∀(k:Nat) (F M:List Rt),YInv l fr to now sz by' F M→First l fr to now sz by' (F.length+k) (vT l fr to now sz by' k F M)
 |0,F,M,h=>⟨h.strF,h.inF,h.low,Nat.le_refl _,.inl rfl⟩
 |k+1,F,[],h=>⟨h.strF,h.inF,h.low,Nat.le_add_right _ _,.inr fun r hr=>BV h hr⟩
 |k+1,F,r::M,h=>by
  have:=s6 k (F++[r]) _ (Cp h)
  rw[List.length_append,List.length_singleton]at this
  rw[show F.length+(k+1)=F.length+1+k by omega]
  exact this
theorem A5:YInv l fr to now sz by' [] (fN l fr to now sz by' [] [] []):=by
 obtain⟨k1,k2,k3,k4,k5⟩:=vP (l:=l) (fr:=fr) (to:=to) (now:=now) (sz:=sz) (by':=by') (F:=[]) (M:=[]) (root:=[]) List.Pairwise.nil (fun _ h=>by cases h) (fun _ h=>by cases h) (fun _ h=>by cases h) (.inl rfl)
 refine⟨List.Pairwise.nil,fun _ h=>(by cases h),k1,k2,k3,fun root hR p hp=>?_,fun _ h=>(by cases h)⟩
 rcases hR with⟨_,rfl⟩|⟨f,hf,_⟩
 ·exact k5 p hp
 ·cases hf
theorem ve (k:Int):First l fr to now sz by' k.toNat (nY l fr to now sz by' k):=by
 have:=s6 (l:=l) (fr:=fr) (to:=to) (now:=now) (sz:=sz) (by':=by') k.toNat [] _ A5
 rw[List.length_nil,Nat.zero_add]at this
 exact this
/-! ### What follows -/
theorem HT {S:List Rt} (h:rj S):S.Nodup:=List.Pairwise.imp (fun{a b} hab e=>by subst e;exact nN hab) h
theorem HS {n:Nat} {F G:List Rt} (hF:First l fr to now sz by' n F) (hG:First l fr to now sz by' n G) {y:Rt} (hy:y∈F):y∈G:=by
 by_cases h:y∈G
 ·exact h
 exfalso
 have hyR:=hF.inR y hy
 have hGl:G.length=n:=hG.full.resolve_right fun h'=>h (h' y hyR)
 have hsub:∀g∈G,g∈F:=fun g hg=>by
  by_cases hgF:g∈F
  ·exact hgF
  ·exact absurd (hF.low y hy g (hG.inR g hg) hgF) (AC (hG.low g hg y hyR h))
 have h1:(y::G).Nodup:=List.nodup_cons.2 ⟨h,HT hG.str⟩
 have h2:=yW h1 (m:=F) (fun x hx=>by
  rcases List.mem_cons.1 hx with rfl|hx
  ·exact hy
  ·exact hsub x hx)
 have:=hF.le
 rw[List.length_cons]at h2
 omega
theorem HP {n:Nat} {F G:List Rt} (hF:First l fr to now sz by' n F) (hG:First l fr to now sz by' n G):F=G:=yi hF.str hG.str fun _=>⟨HS hF hG,HS hG hF⟩
theorem Ac {S:List Rt} {n:Nat} (h:rj S) {a b:Rt} (ha:a∈S.take n) (hb:b∈S.drop n):eW a b=true:=by
 have h':rj (S.take n++S.drop n):=by rw[List.take_append_drop];exact h
 exact(List.pairwise_append.1 h').2.2 a ha b hb
theorem First.take {n m:Nat} {F:List Rt} (h:First l fr to now sz by' n F) (hm:m≤n):First l fr to now sz by' m (F.take m):=by
 refine⟨B4 h.str m,fun r hr=>h.inR r (List.mem_of_mem_take hr),fun f hf r hr hn=>?_,by rw[List.length_take];omega,?_⟩
 ·by_cases hrF:r∈F
  ·rw[←List.take_append_drop m F]at hrF
   rcases List.mem_append.1 hrF with h'|h'
   ·exact absurd h' hn
   ·exact Ac h.str hf h'
  ·exact h.low f (List.mem_of_mem_take hf) r hr hrF
 ·rcases Nat.lt_or_ge F.length m with h1|h1
  ·right
   intro r hr
   rw[List.take_of_length_le (Nat.le_of_lt h1)]
   exact h.full.resolve_left (by omega) r hr
  ·left
   rw[List.length_take];omega
end Go.Bes
/-
  slices.Equal of IDs; the bans of those that were found.
-/
namespace Go.Bes
open Go.Ev
theorem GG (a b:List Int) (hl:a.length≤1000000) (hab:a.length=b.length) (t t':Tok) (sa sb:Nat) (ha:sa=1∨a=[]) (hb:sb=1∨b=[]):∀(m i:Nat),a.length - i=m→i≤a.length→a.take i=b.take i→
  ∀(ρ:Nat→D) (st:Store) (h0:ρ 0=.slice t sa (a.map (D.int .i64))) (h1:ρ 1=.slice t' sb (b.map (D.int .i64))) (h12:ρ 12=.int .i64 a.length) (h13:ρ 13=.int .i64 i) (Q:X→(Nat→D)→Store→Prop),
  (a=b→∀ρ',Q (.exit 0) ρ' st)→(a≠b→∀ρ',ρ' 4=.bool false→Q .ret ρ' st)→WC Γ (.loop gg) ρ st Q:=by
 intro m
 induction m with
 |zero=>
  intro i hm hi he ρ st h0 h1 h12 h13 Q hQ hQ2
  have hge:((a.length:Nat):Int)≤(i:Int):=by omega
  rw[←aa h0,←aa h1,←aa h12,←aa h13]
  refine Hh ?_
  repeat' (first
 |(refine al ?_;first
 |refine lF (p:=hge) ?_
 |refine Hd ?_)
 |refine He ?_
 |refine Ir ?_
 |refine ah rfl ?_
 |refine Hi ?_)
  refine hQ ?_ _
  rw[List.take_of_length_le (by omega),List.take_of_length_le (by omega)]at he
  exact he
 |succ m ih=>
  intro i hm hi he ρ st h0 h1 h12 h13 Q hQ hQ2
  obtain⟨x,hx⟩:∃v,a[i]?=some v:=⟨_,List.getElem?_eq_getElem (by omega)⟩
  obtain⟨y,hy⟩:∃v,b[i]?=some v:=⟨_,List.getElem?_eq_getElem (by omega)⟩
  have hz:sa=1:=ha.resolve_right (by rintro rfl;simp at hx)
  have hz2:sb=1:=hb.resolve_right (by rintro rfl;simp at hy)
  subst hz hz2
  have hpa:i<(a.map (D.int .i64)).length:=by simp;omega
  have hpb:i<(b.map (D.int .i64)).length:=by simp;omega
  have hltl:(i:Int)<((a.length:Nat):Int):=by omega
  have hadd:IntKind.i64.wrap ((i:Int)+1)=((i+1:Nat):Int):=by rw[ea (by omega)];omega
  rw[←aa h0,←aa h1,←aa h12,←aa h13]
  refine Hh ?_
  by_cases hxy:x=y
  ·have hnx:=ih (i+1) (by omega) (by omega) (by rw[List.take_add_one,List.take_add_one,he,hx,hy,hxy])
   clear ih
   repeat' (first
 |(refine al ?_;first
 |refine lT (p:=hltl) ?_
 |refine aD (s:=((i+1:Nat):Int)) (hs:=hadd) ?_
 |refine iA i hpa ?_
 |refine iA i hpb ?_
 |refine mI ?_
 |refine mS ?_
 |refine ca rfl rfl rfl rfl (by omega) ?_
 |refine lE (d:=.int _ _) hx ?_
 |refine lE (d:=.int _ _) hy ?_
 |refine Hd ?_)
 |refine au (aE rfl) ?_
 |refine He ?_
 |refine Ir ?_
 |refine ay ?_
 |refine Hg ?_
 |refine aj rfl ?_
 |refine ah rfl ?_
 |refine Hf ?_)
   all_goals first|(exfalso;omega)|(refine hnx _ _ ?_ ?_ ?_ ?_ Q hQ hQ2<;>rfl)
  ·have hne:a≠b:=fun h=>hxy (by
    subst h
    rw[hx]at hy
    cases hy
    rfl)
   clear ih
   repeat' (first
 |(refine al ?_;first
 |refine lT (p:=hltl) ?_
 |refine iA i hpa ?_
 |refine iA i hpb ?_
 |refine mI ?_
 |refine mB ?_
 |refine mS ?_
 |refine cu rfl rfl rfl rfl (by omega) ?_
 |refine lE (d:=.int _ _) hx ?_
 |refine lE (d:=.int _ _) hy ?_
 |refine Hd ?_)
 |refine au (aE rfl) ?_
 |refine He ?_
 |refine Ir ?_
 |refine ay ?_
 |refine Hg ?_
 |refine aj rfl ?_
 |refine Hf ?_
 |refine an ?_)
   all_goals first|(exfalso;omega)|(exact hQ2 hne _ rfl)
theorem Gv (a b:List Int) (hl:a.length≤1000000) (t t':Tok) (sa sb:Nat) (ha:sa=1∨a=[]) (hb:sb=1∨b=[]):EvP Γ 53 [.slice t sa (a.map (D.int .i64)),.slice t' sb (b.map (D.int .i64))] (.bool (decide (a=b))):=by
 refine aJ rfl rfl ?_
 by_cases hab:a.length=b.length
 ·have hab':(a.length:Int)=b.length:=by omega
  have hlo:=GG a b hl hab t t' sa sb ha hb a.length 0 (by omega) (by omega) rfl
  repeat' (first
 |(refine al ?_;first
 |refine lN ?_
 |refine mI ?_
 |refine mB ?_
 |refine mS ?_
 |refine ca rfl rfl rfl rfl (by omega) ?_
 |refine Hd ?_)
 |refine He ?_
 |refine Ir ?_
 |refine Hg ?_
 |refine ah rfl ?_
 |refine Hf ?_)
  all_goals first|(exfalso;omega)|skip
  refine hlo _ _ rfl rfl rfl rfl _ (fun h ρ=>?_) (fun h ρ h4=>?_)
  ·rw[decide_eq_true h]
   repeat' (first
 |(refine al ?_;first
 |refine mB ?_
 |refine Hd ?_)
 |refine He ?_
 |refine Ir ?_
 |refine an ?_)
   exact aK (.inr rfl) rfl rfl
  ·rw[decide_eq_false h,←aa h4]
   exact aK (.inr rfl) rfl rfl
 ·have hab':(a.length:Int)≠b.length:=by omega
  rw[decide_eq_false (fun h=>hab (by rw[h]))]
  repeat' (first
 |(refine al ?_;first
 |refine lN ?_
 |refine mB ?_
 |refine mS ?_
 |refine cu rfl rfl rfl rfl (by omega) ?_
 |refine Hd ?_)
 |refine He ?_
 |refine Ir ?_
 |refine aj rfl ?_
 |refine an ?_)
  all_goals first|(exfalso;omega)|exact aK (.inr rfl) rfl rfl
section
variable {Γ:Nat→Option FD} {ρ:Nat→D} {st:Store} {dr:Bool} {R:(Nat→D)→Store→List Fl→Prop} {l:List Op1} {g:Option (Nat×Bool)} {mv:Bool} {k:Nat} {x y:A}
theorem FG {α:Type} {e:α→D} {sz bytes:Nat} {d:D} {out:List α} {r:α} {t:Tok} (h0:0<sz) (he:∀a,eb sz (e a)) (hg:ao ρ g=some true) (hx:x.ev ρ=d) (hy:y.ev ρ=.slice t sz [e r]) (hm:mv=true) (hO:pg e sz st d out) (hb:(out.length+1)*bytes≤140737488355328) (hl:st.lim≤st.next)
  (H:∀st' d',st'.lim=st.lim→st.next≤st'.next→pg e sz st' d' (out++[r])→WS Γ dr l (ap ρ k d') st' (nx .f R)):WS Γ dr (⟨some k,g,mv,.append sz bytes x y⟩::l) ρ st R:=by
 have hys:∀d∈[e r],eb sz d:=fun d hd=>by rw[List.mem_singleton.mp hd];exact he r
 rcases hO with⟨rfl,rfl⟩|⟨q,n,c,rfl,h5,rfl,hR⟩
 ·refine ko hg hx (.inr rfl) (.inr rfl) hy hm (.inl rfl) (by simp) (by simp) hys (by simpa using hb) hl (fun st' e1 _ _ _ hR' hoth hn=>?_)
  exact H st' _ e1 (by omega) (.inr ⟨st.next,_,_,rfl,by simp,rfl,by simpa using hR'⟩)
 ·refine rp hg hx hy hR (by simp) (.inl rfl) (fun d hd=>by
   obtain⟨a,_,rfl⟩:=List.mem_map.mp hd
   exact(he a).1) hys (by simpa using hb) (fun p' c' st' e1 _ _ _ hR' hoth hn hp=>?_)
  exact H st' _ e1 hn (.inr ⟨p',_,c',by simp,by simp,rfl,by simpa using hR'⟩)
end
theorem zC (F:List Rt) (r:Rt) (root:List Int):dJ (F++[r]) root=dJ F root++(if(bf r).take root.length=root then(bf r)[root.length]?.toList else[]):=by
 unfold dJ
 rw[List.filterMap_append]
 congr 1
 simp only[List.filterMap_cons,List.filterMap_nil]
 by_cases h:(bf r).take root.length=root
 ·rw[if_pos h,if_pos h]
  cases (bf r)[root.length]?<;>rfl
 ·rw[if_neg h,if_neg h]
set_option maxHeartbeats 8000000 in
theorem Fi (F:List Rt) (hFl:F.length≤1000000) (hsh:bA F) (root:List Int) (hrl:root.length≤1000000) (t t1:Tok) (s s1:Nat) (hsz:s=2∨F=[]) (hs1:s1=1∨root=[]):∀(post pre:List Rt),F=pre++post→∀(ρ:Nat→D) (st:Store) (d:D),st.lim≤st.next→pg (D.int .i64) 1 st d (dJ pre root)→(dJ pre root).length≤pre.length→
  ρ 1=.slice t1 s1 (root.map (D.int .i64))→ρ 4=d→ρ 11=.slice t s (F.map Rt.e)→ρ 12=.int .i64 F.length→ρ 13=.int .i64 pre.length→∀(Q:X→(Nat→D)→Store→Prop),
  (∀ρ' st' d',st'.lim=st.lim→pg (D.int .i64) 1 st' d' (dJ F root)→ρ' 4=d'→Q (.exit 0) ρ' st')→WC Γ (.loop je) ρ st Q:=by
 intro post
 induction post with
 |nil=>
  intro pre hpp ρ st d hlim hO hbl h1 h4 h11 h12 h13 Q hQ
  rw[List.append_nil]at hpp
  subst hpp
  rw[←aa h1,←aa h4,←aa h11,←aa h12,←aa h13]
  refine Hh ?_
  repeat' (first
 |(refine al ?_;first
 |refine lF ?_
 |refine Hd ?_)
 |refine He ?_
 |refine Ir ?_
 |refine ah rfl ?_
 |refine Hi ?_)
  exact hQ _ _ d rfl hO rfl
 |cons r post ih=>
  intro pre hpp ρ st d hlim hO hbl h1 h4 h11 h12 h13 Q hQ
  have hv:F[pre.length]?=some r:=by rw[hpp];simp
  have hlen:F.length=pre.length+(post.length+1):=by rw[hpp];simp
  have hz:s=2:=hsz.resolve_right (by rintro rfl;simp at hlen)
  subst hz
  have hpl:pre.length<(F.map Rt.e).length:=by simp;omega
  have hltl:(pre.length:Int)<F.length:=by omega
  have hrs:r.hs.length≤1000000:=hsh r (by rw[hpp];simp)
  have hadd:IntKind.i64.wrap ((pre.length:Int)+1)=(((pre.length+1:Nat)):Int):=by rw[ea (by omega)];omega
  have hI:=fun t s h=>mY r.hs hrs r.ar t s h
  have hil:(bf r).length≤1000000:=by unfold bf;rw[List.length_map];exact hrs
  have hnext:=ih (pre++[r]) (by simp[hpp])
  rw[zC]at hnext
  rw[show ((pre++[r]).length:Nat)=pre.length+1 by simp]at hnext
  change ∀t s h,EvX Γ 11 [.agg [.slice t s (r.hs.map Hp.e),.int .i64 r.ar]] (Au (D.int .i64) 1 (bf r))at hI
  generalize bf r=is at*
  generalize dJ pre root=B at*
  have hO2:pg (D.int .i64) 1 {st with boxes:=ap (ap st.boxes st.next (some (.cells [.slice .isnil 0 [],.int .i64 0]))) st.next (some (.cells [.slice .no 3 (r.hs.map Hp.e),.int .i64 r.ar])),next:=st.next+1} d B:=by
   rcases hO with h|⟨q,n,c,g1,g2,g3,g4,g5,cs,g6,g7⟩
   ·exact .inl h
   ·exact .inr ⟨q,n,c,g1,g2,g3,g4,Nat.lt_succ_of_lt g5,cs,(ab _ _ (Nat.ne_of_lt g5)).trans ((ab _ _ (Nat.ne_of_lt g5)).trans g6),g7⟩
  clear ih
  rw[←aa h1,←aa h4,←aa h11,←aa h12,←aa h13]
  refine Hh ?_
  have hlr:is.length≤root.length∨root.length<is.length:=by omega
  rcases hlr with hle|hgt
  ·have hle':((is.length:Nat):Int)≤((root.length:Nat):Int):=by omega
   rw[List.getElem?_eq_none hle]at hnext
   simp only[Option.toList_none,ite_self,List.append_nil]at hnext
   repeat' (first
 |(refine al ?_;first
 |refine lN ?_
 |refine iA (pre.length) hpl ?_
 |refine am (cs':=[_,_]) rfl rfl (ae _ _ _) rfl hlim rfl rfl rfl ?_
 |refine gF (p:=hle') ?_
 |refine aD (s:=((pre.length+1:Nat):Int)) (hs:=hadd) ?_
 |refine ak rfl ?_
 |refine mI ?_
 |refine mB ?_
 |refine mS ?_
 |refine lT ?_
 |refine lE (d:=.agg [_,_]) hv ?_
 |refine ai (agg:=true) (d:=.agg [_,_]) rfl rfl rfl (aY rfl) hlim rfl ?_
 |refine ak rfl ?_
 |(refine cD rfl rfl rfl (hI _ _ (.inl rfl)) rfl ?_;intro td sd hsd htd)
 |refine pB ?_
 |refine av rfl rfl ?_
 |refine ak rfl ?_
 |refine Hd ?_)
 |refine He ?_
 |refine Ir ?_
 |refine Hg ?_
 |refine aj rfl ?_
 |refine ah rfl ?_
 |refine Hf ?_)
   all_goals first|(exfalso;omega)|skip
   refine hnext _ _ d ?_ hO2 (by omega) ?_ ?_ ?_ ?_ ?_ Q (fun ρ' st' d' e1 e2 e3=>hQ ρ' st' d' e1 e2 e3)<;>first|rfl|exact Nat.le_succ_of_le hlim
  ·have hgt':((root.length:Nat):Int)<((is.length:Nat):Int):=by omega
   obtain⟨k,hk⟩:∃v,is[root.length]?=some v:=⟨_,List.getElem?_eq_getElem hgt⟩
   have hpk:root.length<(is.map (D.int .i64)).length:=by rw[List.length_map];exact hgt
   have hzi:∀s,(s=1∨is=[])→s=1:=fun s h=>h.resolve_right (by intro e;rw[e]at hgt;simp at hgt)
   have hkn:bL (.int .i64 ((root.length:Nat):Int))=some root.length:=by simp[bL]
   have hE:=fun t t' sa sb ha hb=>Gv (is.take root.length) root (by rw[List.length_take];omega) t t' sa sb ha hb
   have hbd:(B.length+1)*8≤140737488355328:=by omega
   rw[hk]at hnext
   by_cases he:is.take root.length=root
   ·rw[decide_eq_true he]at hE
    rw[if_pos he]at hnext
    simp only[Option.toList_some]at hnext
    repeat' (first
 |(refine al ?_;first
 |refine lN ?_
 |refine aB (v:=d) rfl rfl rfl ?_
 |refine aB (v:=d1) rfl rfl rfl ?_
 |refine iA (pre.length) hpl ?_
 |refine dT (j:=root.length) rfl rfl rfl rfl (hzi _ hsd) hpk ?_
 |refine am (cs':=[_,_]) rfl rfl (ae _ _ _) rfl hlim rfl rfl rfl ?_
 |refine gT (p:=hgt') ?_
 |(refine cg (j:=root.length) rfl rfl hsd hkn (Nat.le_of_lt hgt) rfl ?_<;>intro t6)
 |(refine FG (r:=k) (by decide) y4 rfl rfl rfl rfl hO2 hbd (Nat.le_succ_of_le hlim) ?_;intro st1 d1 a1 a2 a3)
 |refine aD (s:=((pre.length+1:Nat):Int)) (hs:=hadd) ?_
 |refine mI ?_
 |refine mB ?_
 |refine mS ?_
 |refine lT ?_
 |refine lE (d:=.agg [_,_]) hv ?_
 |refine lE (d:=.int _ _) hk ?_
 |refine ai (agg:=true) (d:=.agg [_,_]) rfl rfl rfl (aY rfl) hlim rfl ?_
 |(refine cD rfl rfl rfl (hI _ _ (.inl rfl)) rfl ?_;intro td sd hsd htd)
 |refine cA rfl (hE _ _ 1 s1 (.inl rfl) hs1) ?_
 |refine pB ?_
 |refine av rfl rfl ?_
 |refine bg (ys:=[_]) rfl rfl rfl (by decide) rfl ?_
 |refine Hd ?_)
 |refine He ?_
 |refine Ir ?_
 |refine Hg ?_
 |refine aj rfl ?_
 |refine Hf ?_)
    all_goals first|(exfalso;omega)|skip
    refine hnext _ _ d1 ?_ a3 (by rw[List.length_append];simp;omega) ?_ ?_ ?_ ?_ ?_ Q (fun ρ' st' d' e1 e2 e3=>hQ ρ' st' d' (e1.trans a1) e2 e3)
    ·rw[a1];exact Nat.le_trans (Nat.le_succ_of_le hlim) a2
    all_goals rfl
   ·rw[decide_eq_false he]at hE
    rw[if_neg he,List.append_nil]at hnext
    repeat' (first
 |(refine al ?_;first
 |refine lN ?_
 |refine iA (pre.length) hpl ?_
 |refine am (cs':=[_,_]) rfl rfl (ae _ _ _) rfl hlim rfl rfl rfl ?_
 |refine gT (p:=hgt') ?_
 |(refine cg (j:=root.length) rfl rfl hsd hkn (Nat.le_of_lt hgt) rfl ?_<;>intro t6)
 |refine aD (s:=((pre.length+1:Nat):Int)) (hs:=hadd) ?_
 |refine mI ?_
 |refine mB ?_
 |refine mS ?_
 |refine lT ?_
 |refine lE (d:=.agg [_,_]) hv ?_
 |refine ai (agg:=true) (d:=.agg [_,_]) rfl rfl rfl (aY rfl) hlim rfl ?_
 |(refine cD rfl rfl rfl (hI _ _ (.inl rfl)) rfl ?_;intro td sd hsd htd)
 |refine cA rfl (hE _ _ 1 s1 (.inl rfl) hs1) ?_
 |refine pB ?_
 |refine av rfl rfl ?_
 |refine Hd ?_)
 |refine He ?_
 |refine Ir ?_
 |refine Hg ?_
 |refine aj rfl ?_
 |refine ah rfl ?_
 |refine Hf ?_)
    all_goals first|(exfalso;omega)|skip
    refine hnext _ _ d ?_ hO2 (by omega) ?_ ?_ ?_ ?_ ?_ Q (fun ρ' st' d' e1 e2 e3=>hQ ρ' st' d' e1 e2 e3)<;>first|rfl|exact Nat.le_succ_of_le hlim
def G3 (B:List Int) (d:D):Prop:=∃t s,d=.slice t s (B.map (D.int .i64))∧(s=1∨B=[])∧t.strip=t
theorem Er (F:List Rt) (hFl:F.length≤1000000) (hsh:bA F) (root:List Int) (hrl:root.length≤1000000) (t t1:Tok) (s s1:Nat) (hsz:s=2∨F=[]) (hs1:s1=1∨root=[]) (st:Store) (c0 c1 c2 c3 c4 c5 c7:D) (hb:st.boxes 0=some (.cells [c0,c1,c2,c3,c4,c5,.slice t s (F.map Rt.e),c7])) (hn:0<st.next):
  EvRWX Γ 31 [.ptr 0 0,.slice t1 s1 (root.map (D.int .i64))] (lx st 0 [0]) (fun r C1=>(gz r=true∧G3 (dJ F root) r)∨(gz r=false∧∃d,fA st C1 r=some d∧G3 (dJ F root) d)):=by
 refine aR rfl rfl ?_
 have hb2:((lx st 0 [0]).boxes 0).bind Box.cs=some [c0,c1,c2,c3,c4,c5,.slice t s (F.map Rt.e),c7]:=by
  show ((jO st 0 [0]).boxes 0).bind Box.cs=_
  rw[ju (.inl rfl),hb];rfl
 have hl:0<(lx st 0 [0]).lim:=hn
 have hlo:=Fi F hFl hsh root hrl t.strip t1.strip s s1 hsz hs1 F [] rfl
 repeat' (first
 |(refine al ?_;first
 |refine lN ?_
 |refine mI ?_
 |refine mS ?_
 |refine mP ?_
 |refine fT (agg:=false) (d:=.slice _ _ _) rfl rfl rfl hb2 hl rfl ?_
 |refine fD ?_
 |refine aP rfl rfl ?_
 |refine Hd ?_)
 |refine He ?_
 |refine Ir ?_
 |refine Hf ?_)
 refine hlo _ _ (.slice .isnil 0 []) (Nat.le_refl _) (.inl ⟨rfl,rfl⟩) (Nat.zero_le _) ?_ ?_ ?_ ?_ ?_ _ (fun ρ' st' d' e1 hO h4=>?_)
 all_goals first|rfl|skip
 rw[←aa h4]
 repeat' (first
 |(refine al ?_;first
 |refine aB (v:=d') rfl rfl rfl ?_
 |refine Hd ?_)
 |refine He ?_
 |refine Ir ?_
 |refine an ?_)
 refine⟨.inr rfl,d',rfl,?_⟩
 have e1:st'.lim=st.next:=e1
 rcases hO with⟨h1,rfl⟩|⟨q,n,c,rfl,h5,rfl,hR⟩
 ·exact .inl ⟨rfl,.isnil,0,by rw[h1];rfl,.inr h1,rfl⟩
 ·refine .inr ⟨rfl,.slice .no 1 ((dJ F root).map (D.int .i64)),?_,.no,1,rfl,.inl rfl,rfl⟩
  have hse:=qo (c:=c) hR.at rfl (by decide) Cn
  show fA st st' (.rs q 0 1 (dJ F root).length c)=_
  unfold fA
  simp only
  rw[if_pos (by rw[←e1];exact hR.1),hse]
  simp only
  rw[if_pos (List.all_eq_true.2 fun d hd=>by
   obtain⟨a,_,rfl⟩:=List.mem_map.1 hd
   rfl)]
end Go.Bes
/-
  Insert.
-/
namespace Go.Bes
open Go.Ev
theorem re {L:List Rt} (h:L≠[]):cQ L≠[]:=fun h'=>by
 cases L with
 |nil=>exact h rfl
 |cons x L=>
  obtain⟨y,hy,_⟩:=zw (x::L) (r:=x) List.mem_cons_self
  rw[h']at hy
  cases hy
theorem yu (L:List Rt) (hL:L.length≤1000000) (hsh:bA L) (hne:L≠[]) (t:Tok) (s:Nat) (hs:s=2∨L=[]):EvX Γ 54 [.slice t s (L.map Rt.e)] (fun r=>r=.slice .row 2 ((cQ L).map Rt.e)):=
 (Dk L hL hsh t s hs).mono fun r h=>by
  rcases h with⟨h,_⟩|h
  ·exact absurd h (re hne)
  ·exact h
theorem qd {L:List Rt} (h:L≠[]):(D.slice .row 2 (L.map Rt.e)).apart=false:=by
 cases L with
 |nil=>exact absurd rfl h
 |cons x L=>simp[D.apart,Rt.e,D.cells,D.ground1]
theorem AO (m:Int) (n:Nat):∃j,bL (.int .i64 (if(if(n:Int)<m then(n:Int)else m)>0 then(if(n:Int)<m then(n:Int)else m)else 0))=some j∧j≤n∧(∀{α:Type} (l:List α),l.length=n→l.take m.toNat=l.take j):=by
 refine⟨min m.toNat n,?_,Nat.min_le_right _ _,fun l hl=>?_⟩
 ·simp only[bL]
  split<;>split<;>simp<;>omega
 ·subst hl
  by_cases h:m.toNat≤l.length
  ·rw[Nat.min_eq_left h]
  ·rw[Nat.min_eq_right (by omega),List.take_of_length_le (by omega),List.take_length]
set_option maxHeartbeats 4000000 in
theorem FE (r:Rt) (hr:r.hs.length≤1000000) (m:Int) (t:Tok) (s:Nat):EvX Γ 32 [.slice t s [],r.e,.int .i64 m] (IsR Rt.e 2 ((cQ ([]++[r])).take m.toNat)):=by
 refine bR rfl rfl ?_
 have hcl:=fun t=>sc t s
 have hrl:[r]≠[]:=by simp
 have hsh:bA [r]:=fun x hx=>by rw[List.mem_singleton.1 hx];exact hr
 have hS:=yu [r] (Nat.le_of_ble_eq_true rfl) hsh hrl .no 2 (.inl rfl)
 have hap:=qd (re hrl)
 have hel:∀a,eb 2 (Rt.e a):=fun a=>(ru a).1
 have hys:∀d∈[r.e],eb 2 d:=fun d hd=>by rw[List.mem_singleton.1 hd];exact hel r
 have hl0:([]:List D).length=0:=rfl
 simp only[Rt.e]
 repeat' (first
 |(refine al ?_;first
 |(refine ko (xs:=[]) (ys:=[r.e]) rfl rfl (.inl rfl) (.inl rfl) rfl rfl (.inl rfl) (Nat.le_refl 1) (fun d hd=>absurd hd List.not_mem_nil) hys (Nat.le_of_ble_eq_true rfl) (Nat.zero_le _) ?_<;>intro st1 k1 k2 k3 k4 hR1 k6 k7)
 |refine mS ?_
 |refine lO (d:=.agg [_,_]) ?_
 |refine s9 rfl rfl rfl (hcl _) rfl rfl rfl ?_
 |refine cm rfl rfl rfl rfl rfl ?_
 |refine bg (ys:=[_]) rfl rfl rfl (by decide) rfl ?_
 |refine Hd ?_)
 |refine He ?_
 |refine Ir ?_
 |refine ay ?_)
 have hl1:st1.lim≤st1.next:=by rw[k1,k7];exact Nat.zero_le _
 have hz1:((cQ [r]).map Rt.e).length=(cQ [r]).length:=List.length_map _
 have hS1:cQ ([]++[r])=cQ [r]:=rfl
 rw[hS1]
 obtain⟨j,hj,hjn,hjm⟩:=AO m (cQ [r]).length
 rw[hjm _ rfl]
 generalize cQ [r]=S at*
 repeat' (first
 |(refine al ?_;first
 |refine mI ?_
 |refine mR ?_
 |(refine vQ (xs:=[r]) (ys:=S) (e:=Rt.e) rfl rfl rfl hR1 rfl (by decide) sS rfl rfl rfl rfl rfl rfl hS hap hl1 hel ?_<;>intro st2 j1 j2 j3 j4 hR2 j6 j7)
 |refine qD rfl rfl rfl rfl ?_
 |refine qY rfl rfl rfl rfl ?_
 |refine bD rfl rfl rfl ?_
 |refine Hd ?_)
 |refine au rfl ?_
 |refine He ?_
 |refine Ir ?_)
 repeat' (first
 |(refine al ?_;first
 |refine qG (j:=j) (j2:=j) rfl rfl hj hj (Nat.le_refl _) hjn rfl ?_
 |refine mR ?_
 |refine Hd ?_)
 |refine an ?_)
 exact tX (.inr rfl) rfl (.inr ⟨_,j,_,by rw[List.length_take,Nat.min_eq_left hjn],rfl,by rw[List.map_take];exact hR2.take aC j⟩) (by decide) sS rfl
set_option maxHeartbeats 4000000 in
theorem EE (L:List Rt) (hL:L.length<1000000) (hLs:bA L) (hLn:L≠[]) (r:Rt) (hr:r.hs.length≤1000000) (m:Int) (t:Tok) (s:Nat) (hs:s=2∨L=[]):EvX Γ 32 [.slice t s (L.map Rt.e),r.e,.int .i64 m] (IsR Rt.e 2 ((cQ (L++[r])).take m.toNat)):=by
 refine bR rfl rfl ?_
 have hcl:=fun t=>vW L hLs (by omega) hLn t s hs
 have hrl:L++[r]≠[]:=by simp
 have hsh:bA (L++[r]):=fun x hx=>by
  rcases List.mem_append.1 hx with h|h
  ·exact hLs x h
  ·rw[List.mem_singleton.1 h];exact hr
 have hS:=yu (L++[r]) (by rw[List.length_append];simp;omega) hsh hrl .no 2 (.inl rfl)
 have hap:=qd (re hrl)
 have hel:∀a,eb 2 (Rt.e a):=fun a=>(ru a).1
 have hys:∀d∈[r.e],eb 2 d:=fun d hd=>by rw[List.mem_singleton.1 hd];exact hel r
 have hlen:(L++[r]).length=L.length+1:=List.length_append
 have hbb:(L.length+[r.e].length)*32≤140737488355328:=by simp;omega
 obtain⟨j,hj,hjn,hjm⟩:=AO m (cQ (L++[r])).length
 rw[hjm _ rfl]
 generalize cQ (L++[r])=S at*
 simp only[Rt.e]
 repeat' (first
 |(refine al ?_;first
 |refine mS ?_
 |(refine BH rfl rfl rfl (hcl _) rfl rfl hel (Nat.zero_le _) ?_<;>intro st1 d1 fl1 hfl1 k1 k2 k3 k4 hP k5 k6)
 |refine cm rfl rfl rfl rfl rfl ?_
 |refine Hd ?_)
 |refine He ?_
 |refine Ir ?_
 |refine ay ?_)
 rcases hP with⟨h,_⟩|⟨q,n,c,hn,rfl,hR1⟩
 ·exact absurd h hLn
 have hb0:(st1.boxes Store.empty.next).bind Box.cs=some [.slice .no 3 (r.hs.map Hp.e),.int .i64 r.ar]:=by rw[k5 _ (Nat.lt_succ_self _)];rfl
 have hl0:st1.lim≤Store.empty.next:=by rw[k1];exact Nat.le_refl _
 have hnl:n=(L.map Rt.e).length:=by rw[List.length_map];exact hn
 have hbn:(n+[r.e].length)*32≤140737488355328:=by rw[hn];exact hbb
 repeat' (first
 |(refine al ?_;first
 |(refine sW (xs:=L.map Rt.e) (ys:=[r.e]) rfl rfl rfl hR1 hnl (.inl rfl) aC hys hbn ?_<;>intro p2 c2 st2 e1 e2 e3 e4 hR2 hb2 e5 e6 e7)
 |refine ai (agg:=true) (d:=.agg [_,_]) rfl rfl rfl hb0 hl0 rfl ?_
 |refine bg (ys:=[_]) rfl rfl rfl (by decide) rfl ?_))
 have hl2:st2.lim≤st2.next:=Nat.le_trans hR2.1 (Nat.le_of_lt hR2.2.1)
 have hR2':RowIs st2 p2 2 ((L++[r]).map Rt.e):=by rw[List.map_append];exact hR2
 have hn2:n+[r.e].length=(L++[r]).length:=by rw[hn,hlen];rfl
 repeat' (first
 |(refine al ?_;first
 |refine mR ?_
 |(refine vQ (xs:=L++[r]) (ys:=S) (e:=Rt.e) rfl rfl rfl hR2' hn2 (by decide) sS rfl rfl rfl rfl rfl rfl hS hap hl2 hel ?_<;>intro st3 j1 j2 j3 j4 hR3 j6 j7)
 |refine Hd ?_))
 repeat' (first
 |(refine al ?_;first
 |refine qG (j:=j) (j2:=j) rfl rfl hj hj (Nat.le_refl _) hjn rfl ?_
 |refine mI ?_
 |refine mR ?_
 |refine qD rfl rfl rfl rfl ?_
 |refine qY rfl rfl rfl rfl ?_
 |refine bD rfl rfl rfl ?_
 |refine Hd ?_)
 |refine au (by rcases hfl1 with rfl|rfl<;>rfl) ?_
 |refine He ?_
 |refine Ir ?_
 |refine an ?_)
 exact tX (.inr rfl) rfl (.inr ⟨_,j,_,by rw[List.length_take,Nat.min_eq_left hjn],rfl,by rw[List.map_take];exact hR3.take aC j⟩) (by decide) sS rfl
theorem Bs (L:List Rt) (hL:L.length<1000000) (hLs:bA L) (r:Rt) (hr:r.hs.length≤1000000) (m:Int) (t:Tok) (s:Nat) (hs:s=2∨L=[]):EvX Γ 32 [.slice t s (L.map Rt.e),.agg [.slice .no 3 (r.hs.map Hp.e),.int .i64 r.ar],.int .i64 m] (Au Rt.e 2 ((cQ (L++[r])).take m.toNat)):=by
 by_cases h:L=[]
 ·subst h
  exact(FE r hr m t s).mono fun _ h=>h.n
 ·exact(EE L hL hLs h r hr m t s hs).mono fun _ h=>h.n
end Go.Bes
/-
  One look from a root: the best way on that was not found yet may come next.
-/
namespace Go.Bes
open Go.Ev
theorem EvRWX.grow {Γ Γ2:Nat→Option FD} (hx:∀f fd,Γ f=some fd→Γ2 f=some fd) {f:Nat} {ds:List D} {st:Store} {P:D→Store→Prop} (h:EvRWX Γ f ds st P):EvRWX Γ2 f ds st P:=by
 obtain⟨r,st',h1,h2⟩:=h
 exact⟨r,st',h1,h2.grow hx⟩
def yC (l:List Eg) (fr to now sz by':Int) (te tf tm:Tok) (se sf sm:Nat) (F M:List Rt):List D:=[.slice te se (l.map Eg.e),.int .i64 fr,.int .i64 to,.int .i64 now,.int .i64 sz,.int .i64 by',.slice tf sf (F.map Rt.e),.slice tm sm (M.map Rt.e)]
theorem zB (F:List Rt) (root:List Int):(dJ F root).length≤F.length:=List.length_filterMap_le _ _
set_option maxHeartbeats 16000000 in
theorem Ep (l:List Eg) (hll:l.length≤900) (fr to now sz by':Int) (F M:List Rt) (hFl:F.length≤1000) (hFs:bA F) (hMl:M.length<100000) (hMs:bA M) (root:List Int) (hrl:root.length≤1000) (te tf tm t1:Tok) (se sf sm s1:Nat) (hse:se=8∨l=[]) (hsf:sf=2∨F=[]) (hsm:sm=2∨M=[]) (hs1:s1=1∨root=[])
  (st:Store) (hb:st.boxes 0=some (.cells (yC l fr to now sz by' te tf tm se sf sm F M))) (hl:st.lim=0) (hn:0<st.next):
  EvRWX Γ2 17 [.ptr 0 0,.slice t1 s1 (root.map (D.int .i64))] st (fun _ st'=>(∃tm' sm',(sm'=2∨fN l fr to now sz by' F M root=[])∧st'.boxes 0=some (.cells (yC l fr to now sz by' te tf tm' se sf sm' F (fN l fr to now sz by' F M root))))∧st'.lim=0∧st'.tlim=st.tlim∧st'.toks=st.toks∧st'.ntok=st.ntok∧st.next≤st'.next∧∀q,q≠0→q<st.next→st'.boxes q=st.boxes q):=by
 refine aR rfl rfl ?_
 have hbl:=zB F root
 have hSp:=fun tB sB hsB=>(E3 l hll root (dJ F root) hrl (by omega) fr to now sz by' te.strip t1.strip.strip tB se s1 sB hse hs1 hsB)
 unfold fN
 generalize hN:st.next=N at*
 have hb0:∀x:Option Box,ap st.boxes (N+32) x 0=some (.cells (yC l fr to now sz by' te tf tm se sf sm F M)):=fun x=>(ab _ _ (by omega)).trans hb
 have hBn:=EvRWX.grow ly (Er F (by omega) hFs root (by omega) tf t1.strip sf s1 hsf hs1 {st with boxes:=ap st.boxes (N+32) (some (.cells [.slice .isnil 0 [],.int .i64 0])),next:=N+35} _ _ _ _ _ _ _ (hb0 (some (.cells [.slice .isnil 0 [],.int .i64 0]))) (by show 0<N+35;omega))
 generalize hB:dJ F root=B at*
 have hol:∀p,el l root B fr to now sz by'=some p→(pF sz now p).hs.length≤1000000:=fun p h=>by
  obtain⟨es,a⟩:=p
  have:=uP (og h).route
  show (aN sz es now).length≤_
  rw[cr]
  omega
 generalize el l root B fr to now sz by'=o at*
 have hSp':∀tB sB,(sB=1∨B=[])→EvX Γ2 30 [.slice te.strip se (l.map Eg.e),.slice t1.strip.strip s1 (root.map (D.int .i64)),.slice tB sB (B.map (D.int .i64)),.int .i64 fr,.int .i64 to,.int .i64 now,.int .i64 sz,.int .i64 by'] (fun r=>(r.free=true∧dS r=false)∧(fun r=>∃(t5:Tok) (s5:Nat),(o.isSome=true→t5.strip=.no∧s5=3)∧r=.tuple [.agg [.slice t5 s5 ((GO sz now o).map Hp.e),.int .i64 (aO o)],.bool o.isSome]) (if aF r then r.strip else r)):=fun tB sB hsB=>(hSp tB sB hsB).mono (fun r h=>by
  cases o with
  |none=>
   cases (h:r=yl)
   exact⟨⟨rfl,rfl⟩,.isnil,0,fun h=>(by cases h),rfl⟩
  |some p=>
   obtain⟨t5,rfl,ht⟩:=(h:BJ Hp.e 3 (aN sz p.1 now) [.int .i64 p.2] [.bool true] r)
   refine⟨⟨rfl,rfl⟩,?_⟩
   cases t5<;>first|(cases ht;done)|exact⟨_,3,fun _=>⟨rfl,rfl⟩,rfl⟩)
 clear hSp
 have hl0:st.lim≤0:=by omega
 have hlN:st.lim≤N+32:=by omega
 have c0:∀x:Option Box,(ap st.boxes (N+32) x 0).bind Box.cs=some (yC l fr to now sz by' te tf tm se sf sm F M):=fun x=>by rw[hb0];rfl
 unfold yC at c0
 repeat' (first
 |refine He ?_)
 refine yd (Q':=fun x ρ' st'=>x=.normal∧∃(t5:Tok) (s5:Nat),(o.isSome=true→t5.strip=.no∧s5=3)∧ρ' 0=.ptr 0 0∧ρ' 4=.ptr (N+32) 0∧ρ' 5=.bool o.isSome∧st'.boxes=ap (ap st.boxes (N+32) (some (.cells [.slice .isnil 0 [],.int .i64 0]))) (N+32) (some (.cells [.slice t5 s5 ((GO sz now o).map Hp.e),.int .i64 (aO o)]))∧st'.next=N+35∧st'.toks=st.toks∧st'.ntok=st.ntok∧st'.lim=st.lim∧st'.tlim=st.tlim) ?_ ?_
 ·refine HC ?_
  simp only[o3,o4,o5,m3,s_,gM,gw,Store.ahead,jc,kS,Nat.add_assoc,Nat.reduceAdd,List.length_cons,List.length_nil,hN]
  repeat' (first
 |(refine al ?_;first
 |refine am (cs':=[_,_]) rfl rfl (ae _ _ _) rfl hlN rfl rfl rfl ?_
 |refine mB ?_
 |refine mS ?_
 |refine mP ?_
 |refine mT ?_
 |refine ai (agg:=false) (d:=.slice _ _ _) rfl rfl rfl (c0 (some (.cells [.slice .isnil 0 [],.int .i64 0]))) hl0 rfl ?_
 |refine ai (agg:=false) (d:=.int _ _) rfl rfl rfl (c0 (some (.cells [.slice .isnil 0 [],.int .i64 0]))) hl0 rfl ?_
 |(refine AJ (fn:=31) (P:=G3 B) (p:=0) (ps:=[0]) rfl rfl rfl rfl rfl rfl hBn ?_<;>intro rB hPB<;>obtain⟨tB,sB,rfl,hsB,htB⟩:=hPB)
 |(refine vN (fn:=30) (P:=fun r=>∃(t5:Tok) (s5:Nat),(o.isSome=true→t5.strip=.no∧s5=3)∧r=.tuple [.agg [.slice t5 s5 ((GO sz now o).map Hp.e),.int .i64 (aO o)],.bool o.isSome]) rfl rfl rfl rfl (hSp' _ _ hsB) ?_<;>intro r7 hp7<;>obtain⟨t5,s5,hq5,rfl⟩:=hp7)
 |refine eB ?_
 |refine eA ?_
 |refine fD ?_
 |refine aP rfl rfl ?_
 |refine Hd ?_))
  refine⟨?_,by first|trivial|rfl,t5,s5,hq5,rfl,rfl,rfl,rfl,rfl,rfl,rfl,rfl,rfl⟩
  clear hBn hSp' c0 hb0
  rw[Bool.and_eq_true]
  constructor
  ·simp[bB,List.range,List.range.loop,Fl.clash]
  ·simp[jI,rG,List.range,List.range.loop,hn]
 ·rintro x ρ1 st1 ⟨rfl,t5,s5,hq5,k0,k4,k5,e1,e2,e3,e4,e5,e6⟩
  clear hBn hSp'
  have b10:st1.boxes 0=some (.cells (yC l fr to now sz by' te tf tm se sf sm F M)):=by rw[e1,ab _ _ (by omega)];exact hb0 _
  have b1N:st1.boxes (N+32)=some (.cells [.slice t5 s5 ((GO sz now o).map Hp.e),.int .i64 (aO o)]):=by rw[e1];exact ae _ _ _
  have hoth:∀q,q≠0→q<N→st1.boxes q=st.boxes q:=fun q _ hq=>by rw[e1,ab _ _ (by omega),ab _ _ (by omega)]
  have l1:st1.lim=0:=e5.trans hl
  have hle:N≤st1.next:=by omega
  clear e1 c0 hb0
  rw[←aa k0,←aa k4,←aa k5]
  cases o with
  |none=>
   simp only[Option.isSome_none]
   repeat' (first
 |(refine al ?_;first
 |refine mB ?_
 |refine Hd ?_)
 |refine He ?_
 |refine Ir ?_
 |refine Hg ?_
 |refine ah rfl ?_)
   exact⟨.inl rfl,.tuple [],rfl,⟨tm,sm,hsm,b10⟩,l1,e6,e3,e4,hle,hoth⟩
  |some p=>
   obtain⟨hts,rfl⟩:=hq5 rfl
   have hle2:=wa (M++[pF sz now p])
   have hIns:=fun t=>(Bs M (by omega) hMs (pF sz now p) (hol p rfl) ((M.length:Int)+1) t sm hsm).grow ly
   rw[List.take_of_length_le (by rw[List.length_append,List.length_singleton]at hle2;omega)]at hIns
   simp only[Option.isSome_some]
   have l10:st1.lim≤0:=by omega
   have l1N:st1.lim≤N+32:=by omega
   have b1Nc:(st1.boxes (N+32)).bind Box.cs=some [.slice t5 3 ((aN sz p.1 now).map Hp.e),.int .i64 p.2]:=by rw[b1N];rfl
   have b10c:(st1.boxes 0).bind Box.cs=some (yC l fr to now sz by' te tf tm se sf sm F M):=by rw[b10];rfl
   have hIns':∀t,EvX Γ2 32 [.slice t sm (M.map Rt.e),.agg [.slice t5.strip 3 ((aN sz p.1 now).map Hp.e),.int .i64 p.2],.int .i64 ((M.length:Int)+1)] (Au Rt.e 2 (cQ (M++[pF sz now p]))):=fun t=>by rw[hts];exact hIns t
   show WC Γ2 _ _ st1 _
   clear hIns hts
   generalize cQ (M++[pF sz now p])=S at*
   unfold yC at b10c b10
   generalize aN sz p.1 now=hs at*
   repeat' (first
 |(refine al ?_;first
 |refine lN ?_
 |refine am (cs':=[_,_,_,_,_,_,_,_]) rfl rfl b10 rfl l10 rfl rfl rfl ?_
 |refine mB ?_
 |refine mP ?_
 |refine aD ?_
 |refine ai (agg:=true) (d:=.agg [_,_]) rfl rfl rfl b1Nc l1N rfl ?_
 |refine ai (agg:=false) (d:=.slice _ _ _) rfl rfl rfl b10c l10 rfl ?_
 |(refine cD (fn:=32) rfl rfl rfl (hIns' _) rfl ?_;intro tI sI hsI htI)
 |refine fD ?_
 |refine aP rfl rfl ?_
 |refine Hd ?_)
 |refine au (by simp[bB,List.range,List.range.loop,Fl.clash]) ?_
 |refine He ?_
 |refine Ir ?_
 |refine ay ?_
 |refine aj rfl ?_)
   exact⟨.inl rfl,.tuple [],rfl,⟨tI,sI,hsI,by show ap st1.boxes 0 (some (.cells (yC l fr to now sz by' te tf tI se sf sI F S))) 0=_;exact ae _ _ _⟩,l1,e6,e3,e4,hle,fun q h0 hq=>(ab _ _ h0).trans (hoth q h0 hq)⟩
end Go.Bes
/-
  The first routes, as the evaluator runs it.
-/
namespace Go.Bes
open Go.Ev
/-! ### Lengths -/
def Sh5 (L:List Rt):Prop:=∀r∈L,r.hs.length≤50
theorem Sh5.short {L:List Rt} (h:Sh5 L):bA L:=fun r hr=>Nat.le_trans (h r hr) (Nat.le_of_ble_eq_true rfl)
theorem wo {l:List Eg} (hll:l.length≤50) {fr to now sz by':Int} {F M:List Rt} (hM:Sh5 M) (root:List Int):Sh5 (fN l fr to now sz by' F M root)∧(fN l fr to now sz by' F M root).length≤M.length+1:=by
 unfold fN
 cases hp:el l root (dJ F root) fr to now sz by' with
 |none=>exact⟨hM,Nat.le_succ _⟩
 |some p=>
  refine⟨fun r hr=>?_,?_⟩
  ·rcases List.mem_append.1 (zJ hr)with h|h
   ·exact hM r h
   ·rw[List.mem_singleton.1 h]
    obtain⟨es,a⟩:=p
    have:=uP (og hp).route
    show (aN sz es now).length≤_
    rw[cr]
    omega
  ·have:=wa (M++[pF sz now p])
   simpa using this
structure YSt (l:List Eg) (fr to now sz by':Int) (te:Tok) (se:Nat) (F M:List Rt) (st:Store):Prop where
 box:∃tf sf tm sm,st.boxes 0=some (.cells (yC l fr to now sz by' te tf tm se sf sm F M))∧ft st 2 tf sf (F.map Rt.e)∧(sm=2∨M=[])
 lim:st.lim=0
 next:0<st.next
 tlim:st.tlim≤st.ntok
theorem wc {st:Store} {t:Tok} {s:Nat} {F:List Rt} (h:ft st 2 t s (F.map Rt.e)):s=2∨F=[]:=by
 rcases h with⟨_,h|⟨_,h⟩⟩|⟨_,_,_,_,h⟩
 ·exact .inl h
 ·exact .inr (List.map_eq_nil_iff.1 h)
 ·exact .inl h
theorem BL {st st':Store} {t:Tok} {s:Nat} {xs:List D} (h:ft st 2 t s xs) (h1:st'.toks=st.toks) (h2:st'.tlim=st.tlim):ft st' 2 t s xs:=by
 rcases h with h|⟨k,a,b,c,d⟩
 ·exact .inl h
 ·exact .inr ⟨k,a,by rw[h1];exact b,by rw[h2];exact c,d⟩
theorem BB (l:List Eg) (hll:l.length≤50) (fr to now sz by':Int) (te:Tok) (se:Nat) (hse:se=8∨l=[]) (F M:List Rt) (hFl:F.length≤1000) (hF:Sh5 F) (hMl:M.length<100000) (hM:Sh5 M) (root:List Int) (hrl:root.length≤1000) (t1:Tok) (s1:Nat) (hs1:s1=1∨root=[]) (st:Store) (hY:YSt l fr to now sz by' te se F M st):
  EvRWX Γ2 17 [.ptr 0 0,.slice t1 s1 (root.map (D.int .i64))] st (fun _ st'=>YSt l fr to now sz by' te se F (fN l fr to now sz by' F M root) st'):=by
 obtain⟨⟨tf,sf,tm,sm,hb,hA,hsm⟩,h2,h3,h4⟩:=hY
 refine(Ep l (by omega) fr to now sz by' F M hFl hF.short hMl hM.short root hrl te tf tm t1 se sf sm s1 hse (wc hA) hsm hs1 st hb h2 h3).mono (fun r st' h=>?_)
 obtain⟨⟨tm',sm',k1,k2⟩,k3,k4,k5,k6,k7,_⟩:=h
 exact⟨⟨tf,sf,tm',sm',k2,BL hA k5 k4,k1⟩,k3,by omega,by omega⟩
set_option maxHeartbeats 4000000 in
theorem DC (l:List Eg) (hll:l.length≤50) (fr to now sz by' k:Int) (te:Tok) (se:Nat) (hse:se=8∨l=[]) (F:List Rt) (hFl:F.length≤1000) (hF:Sh5 F) (is:List Int) (hil:is.length≤50) (ti:Tok) (si:Nat) (hsi:si=1∨is=[]):∀(m i:Nat),is.length - i=m→i≤is.length→∀(M:List Rt),M.length+m<100000→Sh5 M→
  ∀(ρ:Nat→D) (st:Store),YSt l fr to now sz by' te se F M st→ρ 6=.int .i64 k→ρ 15=.ptr 0 0→ρ 17=.slice ti si (is.map (D.int .i64))→ρ 71=.int .i64 is.length→ρ 72=.int .i64 i→∀(Q:X→(Nat→D)→Store→Prop),
  (∀ρ' st',YSt l fr to now sz by' te se F (fm l fr to now sz by' F is (List.range' i m) M) st'→Sh5 (fm l fr to now sz by' F is (List.range' i m) M)→(fm l fr to now sz by' F is (List.range' i m) M).length≤M.length+m→ρ' 6=.int .i64 k→ρ' 15=.ptr 0 0→Q (.exit 2) ρ' st')→WC Γ2 (.loop ki) ρ st Q:=by
 intro m
 induction m with
 |zero=>
  intro i hm hi M hMl hM ρ st hY h6 h15 h17 h71 h72 Q hQ
  have hge:((is.length:Nat):Int)≤(i:Int):=by omega
  rw[←aa h6,←aa h15,←aa h17,←aa h71,←aa h72]
  refine Hh ?_
  repeat' (first
 |(refine al ?_;first
 |refine lF (p:=hge) ?_
 |refine Hd ?_)
 |refine He ?_
 |refine Ir ?_
 |refine ah rfl ?_
 |refine Hi ?_)
  refine hQ _ _ hY hM (Nat.le_refl _) ?_ ?_<;>rfl
 |succ m ih=>
  intro i hm hi M hMl hM ρ st hY h6 h15 h17 h71 h72 Q hQ
  have hlt:(i:Int)<((is.length:Nat):Int):=by omega
  have hadd:IntKind.i64.wrap ((i:Int)+1)=((i+1:Nat):Int):=by rw[ea (by omega)];omega
  have hkn:bL (.int .i64 (i:Int))=some i:=by simp[bL]
  obtain⟨q1,q2⟩:=wo hll (fr:=fr) (to:=to) (now:=now) (sz:=sz) (by':=by') (F:=F) hM (is.take i)
  have hL:=fun t1 s1 h1=>BB l hll fr to now sz by' te se hse F M hFl hF (by omega) hM (is.take i) (by rw[List.length_take];omega) t1 s1 h1 st hY
  have hnx:=ih (i+1) (by omega) (by omega) (fN l fr to now sz by' F M (is.take i)) (by omega) q1
  rw[List.range'_succ]at hQ
  simp only[fm]at hQ
  clear ih hY
  rw[←aa h6,←aa h15,←aa h17,←aa h71,←aa h72]
  refine Hh ?_
  repeat' (first
 |(refine al ?_;first
 |refine lT (p:=hlt) ?_
 |(refine cg (j:=i) rfl rfl hsi hkn (by omega) rfl ?_<;>intro t6)
 |refine aD (s:=((i+1:Nat):Int)) (hs:=hadd) ?_
 |refine mI ?_
 |refine mS ?_
 |refine mP ?_
 |(refine a7 (fn:=17) rfl rfl rfl (hL _ 1 (.inl rfl)) ?_<;>intro r1 st1 hY1)
 |refine Hd ?_)
 |refine He ?_
 |refine Ir ?_
 |refine Hg ?_
 |refine aj rfl ?_
 |refine Hf ?_)
  all_goals first|(exfalso;omega)|skip
  refine hnx _ st1 hY1 ?_ ?_ ?_ ?_ ?_ Q (fun ρ' st' a1 a2 a3 a4 a5=>hQ ρ' st' a1 a2 (by omega) a4 a5)<;>rfl
theorem Ba {l:List Eg} {fr to now sz by':Int} {F M:List Rt}:vT l fr to now sz by' 0 F M=F:=by cases M<;>rfl
set_option maxHeartbeats 8000000 in
theorem FK (l:List Eg) (hll:l.length≤50) (fr to now sz by' k:Int) (hk:k≤100) (te:Tok) (se:Nat) (hse:se=8∨l=[]):∀(n:Nat) (F M:List Rt),n=k.toNat - F.length→F.length≤100→Sh5 F→Sh5 M→M.length+50*n<90000→
  ∀(ρ:Nat→D) (st:Store),YSt l fr to now sz by' te se F M st→ρ 6=.int .i64 k→ρ 15=.ptr 0 0→∀(Q:X→(Nat→D)→Store→Prop),
  (∀ρ' st' M',YSt l fr to now sz by' te se (vT l fr to now sz by' n F M) M' st'→ρ' 15=.ptr 0 0→Q (.exit 0) ρ' st')→WC Γ2 (.loop j8) ρ st Q:=by
 intro n
 induction n with
 |zero=>
  intro F M hn hFl hF hM hMl ρ st hY h6 h15 Q hQ
  have hge:k≤((F.length:Nat):Int):=by omega
  rw[Ba]at hQ
  have hY0:=hY
  obtain⟨⟨tf,sf,tm,sm,hb,hA,hsm⟩,hl,hnx,htl⟩:=hY
  have c0:(st.boxes 0).bind Box.cs=some (yC l fr to now sz by' te tf tm se sf sm F M):=by rw[hb];rfl
  unfold yC at c0
  have hl0:st.lim≤0:=by omega
  rw[←aa h6,←aa h15]
  refine Hh ?_
  repeat' (first
 |(refine al ?_;first
 |refine lN ?_
 |refine lF (p:=hge) ?_
 |refine ak rfl ?_
 |refine mI ?_
 |refine mB ?_
 |refine mP ?_
 |refine ak rfl ?_
 |refine ak rfl ?_
 |refine ai (agg:=false) (d:=.slice _ _ _) rfl rfl rfl c0 hl0 rfl ?_
 |refine pB ?_
 |refine fD ?_
 |refine aP rfl rfl ?_
 |refine ak rfl ?_
 |refine Hd ?_)
 |refine He ?_
 |refine Ir ?_
 |refine ah rfl ?_
 |refine Hi ?_)
  refine hQ _ _ M hY0 ?_
  rfl
 |succ n ih=>
  intro F M hn hFl hF hM hMl ρ st hY h6 h15 Q hQ
  have hlt:((F.length:Nat):Int)<k:=by omega
  have hY0:=hY
  obtain⟨⟨tf,sf,tm,sm,hb,hA,hsm⟩,hl,hnx,htl⟩:=hY
  have c0:(st.boxes 0).bind Box.cs=some (yC l fr to now sz by' te tf tm se sf sm F M):=by rw[hb];rfl
  have hl0:st.lim≤0:=by omega
  cases M with
  |nil=>
   unfold yC at c0
   rw[←aa h6,←aa h15]
   refine Hh ?_
   repeat' (first
 |(refine al ?_;first
 |refine cn rfl rfl rfl ?_
 |refine lN ?_
 |refine lT (p:=hlt) ?_
 |refine mI ?_
 |refine mB ?_
 |refine mP ?_
 |refine gF ?_
 |refine ai (agg:=false) (d:=.slice _ _ _) rfl rfl rfl c0 hl0 rfl ?_
 |refine pB ?_
 |refine fD ?_
 |refine aP rfl rfl ?_
 |refine Hd ?_)
 |refine He ?_
 |refine Ir ?_
 |refine ah rfl ?_
 |refine Hi ?_)
   refine hQ _ _ [] hY0 ?_
   rfl
  |cons r M=>
   have hgt:(0:Int)<(((r::M).length:Nat):Int):=by rw[List.length_cons];omega
   have hs2:sm=2:=hsm.resolve_right (by simp)
   subst hs2
   have hv:(r::M)[0]?=some r:=rfl
   have hj:0<((r::M).map Rt.e).length:=by simp
   have hlN:st.lim≤st.next:=by omega
   have hn0:(0:Nat)≠st.next:=by omega
   have hr5:r.hs.length≤50:=hM r List.mem_cons_self
   have hil:(bf r).length≤50:=by unfold bf;rw[List.length_map];exact hr5
   have hI:=fun t s h=>(mY r.hs (by omega) r.ar t s h).grow ly
   change ∀t s h,EvX Γ2 11 [.agg [.slice t s (r.hs.map Hp.e),.int .i64 r.ar]] (Au (D.int .i64) 1 (bf r))at hI
   have hbd:((F.map Rt.e).length+[r.e].length)*32≤140737488355328:=by simp;omega
   have hmap:F.map Rt.e++[r.e]=(F++[r]).map Rt.e:=by simp
   have hF':Sh5 (F++[r]):=fun x hx=>by
    rcases List.mem_append.1 hx with h|h
    ·exact hF x h
    ·rw[List.mem_singleton.1 h];exact hr5
   have hM':Sh5 M:=fun x hx=>hM x (List.mem_cons_of_mem _ hx)
   have hMl':M.length+1+50*(n+1)<90000:=by rw[List.length_cons]at hMl;exact hMl
   have hFl':(F++[r]).length=F.length+1:=List.length_append
   have hlk:=fun td sd h=>DC l hll fr to now sz by' k te se hse (F++[r]) (by omega) hF' (bf r) hil td sd h (bf r).length 0 (by omega) (Nat.zero_le _) M (by omega) hM'
   have hnext:=ih (F++[r]) (fm l fr to now sz by' (F++[r]) (bf r) (List.range' 0 (bf r).length) M) (by omega) (by omega) hF'
   rw[←List.range_eq_range']at hlk hnext
   have hyen:vT l fr to now sz by' (n+1) F (r::M)=vT l fr to now sz by' n (F++[r]) (fm l fr to now sz by' (F++[r]) (bf r) (List.range (bf r).length) M):=rfl
   rw[hyen]at hQ
   have d0:∀x y:Option Box,(ap (ap st.boxes st.next x) st.next y 0).bind Box.cs=some (yC l fr to now sz by' te tf tm se sf 2 F (r::M)):=fun x y=>by rw[ab _ _ hn0,ab _ _ hn0];exact c0
   clear ih hyen hY0
   generalize fm l fr to now sz by' (F++[r]) (bf r) (List.range (bf r).length) M=M2 at*
   generalize bf r=is at*
   unfold yC at c0 d0
   rw[←aa h6,←aa h15]
   refine Hh ?_
   repeat' (first
 |(refine al ?_;first
 |refine lN ?_
 |refine lT (p:=hlt) ?_
 |refine gT (p:=hgt) ?_
 |refine iA 0 hj ?_
 |refine am (cs':=[_,_]) rfl rfl (ae _ _ _) rfl hlN rfl rfl rfl ?_
 |refine mI ?_
 |refine mB ?_
 |refine mP ?_
 |refine ai (agg:=false) (d:=.slice _ _ _) rfl rfl rfl c0 hl0 rfl ?_
 |refine ai (agg:=false) (d:=.slice _ _ _) rfl rfl rfl (d0 (some (.cells [.slice .isnil 0 [],.int .i64 0])) (some (.cells [.slice .no 3 (r.hs.map Hp.e),.int .i64 r.ar]))) hl0 rfl ?_
 |refine lE (d:=.agg [_,_]) hv ?_
 |refine ai (agg:=true) (d:=.agg [_,_]) rfl rfl rfl (aY rfl) hlN rfl ?_
 |refine pB ?_
 |refine fD ?_
 |refine aP rfl rfl ?_
 |refine av rfl rfl ?_
 |refine bg (ys:=[_]) rfl rfl rfl (by decide) rfl ?_
 |refine Hd ?_)
 |refine He ?_
 |refine Ir ?_
 |refine ay ?_
 |refine Hg ?_
 |refine aj rfl ?_
 |refine Hf ?_)
   refine oZ (xs:=F.map Rt.e) (ys:=[r.e]) rfl rfl rfl hA (.inl rfl) hbd htl rfl ?_
   intro k1 st1 c1 c2 c3 c4 c5 c6 c7
   rw[hmap]
   have n1:st1.next=st.next+1:=c2
   have l1:st1.lim=st.lim:=c3
   have e10:(st1.boxes 0).bind Box.cs=some (yC l fr to now sz by' te tf tm se sf 2 F (r::M)):=by rw[c1];exact d0 _ _
   have e1N:st1.boxes st.next=some (.cells [.slice .no 3 (r.hs.map Hp.e),.int .i64 r.ar]):=by rw[c1];exact ae _ _ _
   have b10:st1.boxes 0=some (.cells (yC l fr to now sz by' te tf tm se sf 2 F (r::M))):=by rw[c1];exact(ab _ _ hn0).trans ((ab _ _ hn0).trans hb)
   have hl10:st1.lim≤0:=by omega
   have hl1N:st1.lim≤st.next:=by omega
   have hj1:1≤(r::M).length:=by simp
   have hN0:st.next≠0:=Ne.symm hn0
   have e2N:∀x y:Option Box,(ap (ap st1.boxes 0 x) 0 y st.next).bind Box.cs=some [.slice .no 3 (r.hs.map Hp.e),.int .i64 r.ar]:=fun x y=>by rw[ab _ _ hN0,ab _ _ hN0,e1N];rfl
   clear c1 c2 c3 d0 c0 hA hb
   unfold yC at e10 b10
   generalize hN:st.next=N at*
   have f1:(N==0)=false:=by simp;omega
   have f2:(0==N)=false:=by simp;omega
   repeat' (first
 |(refine al ?_;first
 |(refine dh (j:=1) rfl rfl (.inl rfl) rfl hj1 rfl ?_<;>intro t7)
 |refine am (cs':=[_,_,_,_,_,_,_,_]) rfl rfl b10 rfl hl10 rfl rfl rfl ?_
 |refine mP ?_
 |refine ai (agg:=false) (d:=.slice _ _ _) rfl rfl rfl e10 hl10 rfl ?_
 |refine am (cs':=[_,_,_,_,_,_,_,_]) rfl rfl rfl rfl (by first|exact Nat.zero_le _|omega) rfl rfl rfl ?_
 |refine fD ?_
 |refine aP rfl rfl ?_
 |refine Hd ?_)
 |refine au (by simp[bB,List.range,List.range.loop,Fl.clash,f1,f2]) ?_
 |refine He ?_
 |refine Ir ?_)
   repeat' (first
 |(refine al ?_;first
 |refine lN ?_
 |refine mI ?_
 |refine mS ?_
 |refine ai (agg:=true) (d:=.agg [_,_]) rfl rfl rfl (e2N _ _) hl1N rfl ?_
 |(refine cD (fn:=11) rfl rfl rfl (hI _ _ (.inl rfl)) rfl ?_;intro td sd hsd htd)
 |refine Hd ?_)
 |refine He ?_
 |refine Ir ?_
 |refine Hf ?_)
   refine hlk td sd hsd _ _ ?_ ?_ ?_ ?_ ?_ ?_ _ (fun ρ2 st2 hY2 hsh2 hln2 k6 k15=>?_)
   ·refine⟨⟨.own k1,2,t7,2,?_,.inr ⟨k1,rfl,c6,c7,rfl⟩,.inl rfl⟩,by show st1.lim=0;omega,by show 0<st1.next;omega,c5⟩
    exact rfl
   ·rfl
   ·rfl
   ·rfl
   ·rfl
   ·rfl
   ·exact hnext hsh2 (by omega) ρ2 st2 hY2 k6 k15 Q hQ
theorem vt (l:List Eg) (hll:l.length≤50) (fr to now sz by' k:Int) (hk:k≤100) (t:Tok) (s:Nat) (hs:s=8∨l=[]):EvX Γ2 8 [.slice t s (l.map Eg.e),.int .i64 fr,.int .i64 to,.int .i64 now,.int .i64 sz,.int .i64 by',.int .i64 k] (GQ Rt.e 2 (nY l fr to now sz by' k)):=by
 refine bR rfl rfl ?_
 have hM0:Sh5 []:=fun r hr=>by cases hr
 obtain⟨q1,q2⟩:=wo hll (fr:=fr) (to:=to) (now:=now) (sz:=sz) (by':=by') (F:=[]) hM0 []
 have hL:=fun st t1 s1 hY=>BB l hll fr to now sz by' t s hs [] [] (Nat.zero_le _) hM0 (Nat.succ_pos _) hM0 [] (Nat.zero_le _) t1 s1 (.inr rfl) st hY
 have hk100:k.toNat≤100:=by omega
 have hyn:=FK l hll fr to now sz by' k hk t s hs k.toNat [] (fN l fr to now sz by' [] [] []) rfl (Nat.zero_le _) hM0 q1 (by simp at q2;omega)
 show WC _ _ _ _ (fun x ρ1 st1=>_)
 unfold nY
 generalize fN l fr to now sz by' [] [] []=M at*
 repeat' (first
 |(refine al ?_;first
 |refine bJ (cs:=[.slice t s (l.map Eg.e),.int .i64 fr,.int .i64 to,.int .i64 now,.int .i64 sz,.int .i64 by',.slice .isnil 0 [],.slice .isnil 0 []]) rfl rfl rfl ?_
 |refine cm rfl rfl rfl rfl rfl ?_
 |refine mI ?_
 |refine mS ?_
 |refine mP ?_
 |refine Hd ?_)
 |refine He ?_
 |refine Ir ?_)
 refine a7 (fn:=17) rfl rfl rfl (hL _ .isnil 0 ⟨⟨.isnil,0,.isnil,0,rfl,.inl ⟨.inl rfl,.inr ⟨rfl,rfl⟩⟩,.inr rfl⟩,rfl,Nat.succ_pos _,Nat.le_refl _⟩) ?_
 intro r1 st1 hY1
 repeat' (first
 |(refine al ?_;first
 |refine Hd ?_)
 |refine He ?_
 |refine Hf ?_)
 refine hyn _ st1 hY1 ?_ ?_ _ (fun ρ2 st2 M2 hY2 k15=>?_)
 ·rfl
 ·rfl
 generalize vT l fr to now sz by' k.toNat [] M=F at*
 obtain⟨⟨tf,sf,tm,sm,hb,hA,hsm⟩,hl,_,_⟩:=hY2
 have c0:(st2.boxes 0).bind Box.cs=some (yC l fr to now sz by' t tf tm s sf sm F M2):=by rw[hb];rfl
 unfold yC at c0
 have hl0:st2.lim≤0:=by omega
 rw[←aa k15]
 repeat' (first
 |(refine al ?_;first
 |refine mS ?_
 |refine mP ?_
 |refine ai (agg:=false) (d:=.slice _ _ _) rfl rfl rfl c0 hl0 rfl ?_
 |refine fD ?_
 |refine aP rfl rfl ?_
 |refine Hd ?_)
 |refine He ?_
 |refine Ir ?_
 |refine an ?_)
 exact AN (.inr rfl) rfl (wc hA) rfl
end Go.Bes
/-
  The small case of best: the first routes of the little net (plain).
-/
namespace Go.Bes
open Go.Ev
def qz:List Eg:=[⟨1,1,2,10,20,3,4,30⟩,⟨2,2,3,30,50,9,1,30⟩,⟨3,1,3,30,50,9,1,90⟩,⟨4,2,3,0,50,1,7,90⟩,⟨5,1,2,45,48,1,1,90⟩]
def zk:Rt:=⟨[⟨1,10,14⟩,⟨4,14,21⟩],21⟩
def zt:Rt:=⟨[⟨3,30,31⟩],31⟩
def Ey:Rt:=⟨[⟨1,10,14⟩,⟨2,30,31⟩],31⟩
def Em:Rt:=⟨[⟨5,45,46⟩,⟨2,46,47⟩],47⟩
def Fs:Rt:=⟨[⟨5,45,46⟩,⟨4,46,53⟩],53⟩
theorem CA:nY qz 2 2 5 0 1000 9=[⟨[],5⟩]:=by decide+kernel
theorem Bo:nY qz 3 1 0 0 1000 9=[]:=by decide+kernel
theorem BY:nY qz 1 3 0 0 1000 0=[]:=by decide+kernel
theorem BR:nY qz 1 3 0 0 1000 2=[zk,zt]:=by decide+kernel
theorem BQ:nY qz 1 3 0 0 1000 9=[zk,zt,Ey,Em,Fs]:=by decide+kernel
end Go.Bes
