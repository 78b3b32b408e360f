/-
  The first routes: what the statements ask (plain).
-/
import Derived.Test.YtcejefmekkiboaaBesBesV
import Derived.Test.YtcejefmekkiboaaBesBesU
set_option linter.unusedVariables false
set_option linter.unusedSimpArgs false
set_option linter.unnecessarySimpa false
namespace Go.Bes
open Go.Ev
variable {l:List Eg} {fr to now sz by':Int}
theorem First.at{n:Nat} {F:List Rt} (h:First l fr to now sz by' n F) {i:Nat} {r:Rt} (hr:F[i]?=some r):∃es,routeM l (bf r) fr to now sz=some es∧r.hs=aN sz es now∧gf now (aN sz es now)=r.ar∧r.ar≤by':=by
 obtain⟨es,h1,h2,h3⟩:=h.inR r (List.mem_of_getElem? hr)
 exact⟨es,by rw[nj h3];exact fh.2 ⟨rfl,_,h1⟩,h3,h1.last,h2⟩
theorem Cv {S:List Rt} (h:rj S) {i:Nat} {x y:Rt} (hx:S[i]?=some x) (hy:S[i+1]?=some y):db x.hs x.ar y.hs y.ar= -1:=by
 have h1:eW x y=true:=by
  obtain⟨a,b⟩:=List.getElem?_eq_some_iff.1 hx
  obtain⟨c,d⟩:=List.getElem?_eq_some_iff.1 hy
  rw[←b,←d]
  exact List.pairwise_iff_getElem.1 h i (i+1) a c (Nat.lt_succ_self _)
 have h2:=w6 x.hs x.ar y.hs y.ar
 have h3:=jE.1 h1
 omega
theorem xy {n:Nat} {F:List Rt} (hn:1≤n) (h:First l fr to now sz by' n F):match fq l fr to now sz by' []with
  |some p=>F[0]?=some (pF sz now p)
  |none=>F=[]:=by
 have hs:=xd (l:=l) (fr:=fr) (to:=to) (now:=now) (sz:=sz) (by':=by')
 cases hb:fq l fr to now sz by' []with
 |none=>
  rw[hb]at hs
  cases F with
  |nil=>rfl
  |cons r F=>
   exfalso
   obtain⟨es,h1,h2,h3⟩:=h.inR r List.mem_cons_self
   obtain⟨es',a',he⟩:=tM (root:=[]) (bans:=[]) ⟨h1,h2,⟨_,rfl⟩,fun k _=>List.not_mem_nil⟩
   rw[hs]at he
   cases he
 |some p=>
  rw[hb]at hs
  simp only
  have hR:=(wY hs).1
  have hmem:pF sz now p∈F:=by
   by_cases hm:pF sz now p∈F
   ·exact hm
   ·exfalso
    cases F with
    |nil=>
     rcases h.full with h'|h'
     ·simp at h';omega
     ·cases h' _ hR
    |cons r F=>
     have h1:=h.low r List.mem_cons_self _ hR hm
     obtain⟨es,k1,k2,k3⟩:=h.inR r List.mem_cons_self
     obtain⟨es0,a0⟩:=p
     have h2:=mw hs (es':=es) (u':=r.ar) ⟨k1,k2,⟨_,rfl⟩,fun k _=>List.not_mem_nil⟩
     have h3:db (aN sz es0 now) a0 r.hs r.ar≤0:=by rw[k3];rcases h2 with h2|⟨h2,_⟩<;>omega
     have h4:pm (pF sz now (es0,a0)) r:=h3
     exact nN (rk h1 h4)
  cases F with
  |nil=>cases hmem
  |cons r F=>
   rcases List.mem_cons.1 hmem with e|hm
   ·rw[e];rfl
   ·exfalso
    have h1:=(List.pairwise_cons.1 h.str).1 _ hm
    obtain⟨es,k1,k2,k3⟩:=h.inR r List.mem_cons_self
    obtain⟨es0,a0⟩:=p
    have h2:=mw hs (es':=es) (u':=r.ar) ⟨k1,k2,⟨_,rfl⟩,fun k _=>List.not_mem_nil⟩
    have h3:db (aN sz es0 now) a0 r.hs r.ar≤0:=by rw[k3];rcases h2 with h2|⟨h2,_⟩<;>omega
    have h4:pm (pF sz now (es0,a0)) r:=h3
    exact nN (rk h1 h4)
theorem H8 {n:Nat} {F:List Rt} (h:First l fr to now sz by' n F) {r:Rt} (hr:pt l fr to now sz by' r) (hn:r∉F):F.length=n∧∀f∈F,db f.hs f.ar r.hs r.ar= -1:=by
 refine⟨h.full.resolve_right fun h'=>hn (h' r hr),fun f hf=>?_⟩
 have h1:=jE.1 (h.low f hf r hr hn)
 have h2:=w6 f.hs f.ar r.hs r.ar
 omega
theorem H7 {n:Nat} {F G:List Rt} (hF:First l fr to now sz by' n F) (hG:First l fr to now sz by' (n+1) G):F=G.take n∧(F.length<n→G.length=F.length):=by
 have e:F=G.take n:=HP hF (hG.take (Nat.le_succ _))
 refine⟨e,fun hlt=>?_⟩
 have h1:F.length=min n G.length:=by rw[e,List.length_take]
 omega
theorem Ic {x y:Rt} (h:eW x y=true):x.ar≤y.ar:=by
 have h:=jE.1 h
 rw[kX]at h
 split at h
 ·omega
 ·split at h<;>omega
theorem HU {so:Int} (hs:so≤by') {n m:Nat} {A B:List Rt} (hA:First l fr to now sz by' n A) (hB:First l fr to now sz so n B) (hm:m≤A.length) (h1:∀a∈A.take m,a.ar≤so) (h2:m=A.length∨∃a,A[m]?=some a∧so<a.ar):
  A.take m=B.take m∧m≤B.length∧(m<n→B.length=m):=by
 have hsub:∀r,pt l fr to now sz so r→pt l fr to now sz by' r:=fun r h=>by
  obtain⟨es,a,b,c⟩:=h
  exact⟨es,a,by omega,c⟩
 have hdrop:∀a∈A.drop m,so<a.ar:=fun a ha=>by
  rcases h2 with h2|⟨b,hb,hb2⟩
  ·rw[h2,List.drop_length]at ha;cases ha
  ·obtain⟨q,hq⟩:=List.getElem?_eq_some_iff.1 hb
   have e:A.drop m=b::A.drop (m+1):=by rw[←hq];exact List.drop_eq_getElem_cons q
   rw[e]at ha
   rcases List.mem_cons.1 ha with rfl|ha
   ·exact hb2
   ·have hp:rj (A.drop m):=List.Pairwise.drop hA.str
    rw[e]at hp
    have:=Ic ((List.pairwise_cons.1 hp).1 a ha)
    omega
 have hT:First l fr to now sz so m (A.take m):=by
  refine⟨B4 hA.str m,fun r hr=>?_,fun f hf r hr hn=>?_,by rw[List.length_take];omega,.inl (by rw[List.length_take];omega)⟩
  ·obtain⟨es,a,b,c⟩:=hA.inR r (List.mem_of_mem_take hr)
   exact⟨es,a,h1 r hr,c⟩
  ·refine hA.low f (List.mem_of_mem_take hf) r (hsub r hr) fun hrA=>?_
   rw[←List.take_append_drop m A]at hrA
   rcases List.mem_append.1 hrA with h|h
   ·exact hn h
   ·obtain⟨_,_,b,_⟩:=hr
    have:=hdrop r h
    omega
 have hmn:m≤n:=Nat.le_trans hm hA.le
 have e:=HP hT (hB.take hmn)
 have hl:(A.take m).length=m:=by rw[List.length_take];omega
 have hlB:m≤B.length:=by
  rw[e,List.length_take]at hl
  omega
 refine⟨e,hlB,fun hlt=>?_⟩
 have hall:∀r,pt l fr to now sz so r→r∈A.take m:=fun r hr=>by
  by_cases hrT:r∈A.take m
  ·exact hrT
  ·exfalso
   have hrA:r∉A:=fun h=>by
    rw[←List.take_append_drop m A]at h
    rcases List.mem_append.1 h with h|h
    ·exact hrT h
    ·obtain⟨_,_,b,_⟩:=hr
     have:=hdrop r h
     omega
   rcases h2 with h2|⟨b,hb,hb2⟩
   ·exact hrA (hA.full.resolve_left (by omega) r (hsub r hr))
   ·have h3:=Ic (hA.low b (List.mem_of_getElem? hb) r (hsub r hr) hrA)
    obtain⟨_,_,b',_⟩:=hr
    omega
 have hle:=yW (HT hB.str) (m:=A.take m) (fun x hx=>hall x (hB.inR x hx))
 omega
end Go.Bes
/-
  BestMore, as the evaluator runs it.
-/
namespace Go.Bes
open Go.Ev
theorem First.short {l:List Eg} {fr to now sz by':Int} (hll:l.length≤50) {n:Nat} {F:List Rt} (h:First l fr to now sz by' n F):Sh5 F:=fun r hr=>by
 obtain⟨es,h1,h2,h3⟩:=h.inR r hr
 have:=uP h1
 rw[h3,cr]
 omega
set_option maxHeartbeats 8000000 in
theorem H9 (l:List Eg) (fr to now sz by' k:Int):EvP Γ2 3 [.slice .no 8 (l.map Eg.e),.int .i64 fr,.int .i64 to,.int .i64 now,.int .i64 sz,.int .i64 by',.int .i64 k] (.bool true):=by
 refine aJ rfl rfl ?_
 by_cases hf:l.length≤12∧0≤k∧k≤20
 ·obtain⟨f1,f2,f3⟩:=hf
  have hA:=vt l (by omega) fr to now sz by' k (by omega) .no 8 (.inl rfl)
  have hB:=vt l (by omega) fr to now sz by' (k+1) (by omega) .no 8 (.inl rfl)
  have gA:=ve (l:=l) (fr:=fr) (to:=to) (now:=now) (sz:=sz) (by':=by') k
  have gB:=ve (l:=l) (fr:=fr) (to:=to) (now:=now) (sz:=sz) (by':=by') (k+1)
  rw[show (k+1).toNat=k.toNat+1 by omega]at gB
  obtain⟨e,hm⟩:=H7 gA gB
  have hsh:=gA.short (by omega)
  have hla:=gA.le
  have hlb:=gB.le
  have hl1:=congrArg List.length e
  rw[List.length_take]at hl1
  generalize nY l fr to now sz by' k=A at*
  generalize nY l fr to now sz by' (k+1)=B at*
  have hle:A.length≤B.length:=by omega
  have hle2:B.length≤A.length+1:=by
   rcases Nat.lt_or_ge A.length k.toNat with h|h
   ·have:=hm h;omega
   ·omega
  have htk:B.take A.length=A:=by
   rcases Nat.le_total k.toNat B.length with h|h
   ·rw[hl1,Nat.min_eq_left h];exact e.symm
   ·rw[hl1,Nat.min_eq_right h,List.take_length,e,List.take_of_length_le h]
  have hS:=fun t t' s s' h1 h2=>(Fw A A (by omega) hsh.short t t' s s' h1 h2).grow ly
  rw[decide_eq_true rfl]at hS
  have hkn:bL (.int .i64 ((A.length:Nat):Int))=some A.length:=by simp[bL]
  clear gA gB e
  rcases Nat.lt_or_ge A.length k.toNat with hlt|hlt
  ·have hBe:=hm hlt
   have hlt':((A.length:Nat):Int)<k:=by omega
   repeat' (first
 |(refine al ?_;first
 |refine lN ?_
 |(refine cg (j:=A.length) rfl rfl hsb hkn hle rfl ?_<;>intro t6<;>rw[htk])
 |refine mI ?_
 |refine mB ?_
 |refine mS ?_
 |refine lT ?_
 |refine lF ?_
 |refine gF ?_
 |refine ca rfl rfl rfl rfl (by omega) ?_
 |refine aD ?_
 |refine dE (fn:=7) rfl rfl rfl sT rfl rfl ?_
 |(refine jG (fn:=8) rfl rfl rfl hA rfl ?_;intro ta sa hsa tk1 nt1)
 |(refine jG (fn:=8) rfl rfl rfl hB rfl ?_;intro tb sb hsb tk2 nt2)
 |refine dE (fn:=9) rfl rfl rfl (hS _ _ 2 sa (.inl rfl) hsa) rfl rfl ?_
 |refine pB ?_
 |refine Hd ?_)
 |refine He ?_
 |refine Ir ?_
 |refine Hg ?_
 |refine ah rfl ?_
 |refine an ?_)
   all_goals first|exact aK (.inr rfl) rfl rfl|(exfalso;omega)
  ·have hlt':k≤((A.length:Nat):Int):=by omega
   repeat' (first
 |(refine al ?_;first
 |refine lN ?_
 |(refine cg (j:=A.length) rfl rfl hsb hkn hle rfl ?_<;>intro t6<;>rw[htk])
 |refine ak rfl ?_
 |refine mI ?_
 |refine mB ?_
 |refine mS ?_
 |refine ak rfl ?_
 |refine lF ?_
 |refine gF ?_
 |refine aD ?_
 |refine dE (fn:=7) rfl rfl rfl sT rfl rfl ?_
 |(refine jG (fn:=8) rfl rfl rfl hA rfl ?_;intro ta sa hsa tk1 nt1)
 |(refine jG (fn:=8) rfl rfl rfl hB rfl ?_;intro tb sb hsb tk2 nt2)
 |refine dE (fn:=9) rfl rfl rfl (hS _ _ 2 sa (.inl rfl) hsa) rfl rfl ?_
 |refine pB ?_
 |refine ak rfl ?_
 |refine Hd ?_)
 |refine He ?_
 |refine Ir ?_
 |refine Hg ?_
 |refine ah rfl ?_
 |refine an ?_)
   all_goals first|exact aK (.inr rfl) rfl rfl|(exfalso;omega)
 ·repeat' (first
 |(refine al ?_;first
 |refine lN ?_
 |refine ak rfl ?_
 |refine mI ?_
 |refine mB ?_
 |refine mS ?_
 |refine ak rfl ?_
 |(refine gU rfl rfl rfl rfl ?_ ?_<;>intro _)
 |refine gT ?_
 |(refine jl rfl rfl rfl rfl ?_ ?_<;>intro _)
 |refine dE (fn:=7) rfl rfl rfl sT rfl rfl ?_
 |refine pB ?_
 |refine Hd ?_)
 |refine He ?_
 |refine Ir ?_
 |refine aj rfl ?_
 |refine an ?_)
  all_goals first|exact aK (.inr rfl) rfl rfl|(exfalso;omega)
end Go.Bes
/-
  BestRises, as the evaluator runs it.
-/
namespace Go.Bes
open Go.Ev
set_option maxHeartbeats 8000000 in
theorem G7 (l:List Eg) (hll:l.length≤50) (fr to now sz by':Int) (n:Nat) (A:List Rt) (hA:First l fr to now sz by' n A) (hAl:A.length≤1000) (t:Tok) (s:Nat) (hs:s=2∨A=[]) (v6:D):
  ∀(T A0:List Rt),A=A0++T→∀(ρ:Nat→D) (st:Store),st.lim=0→ρ 0=.slice .no 8 (l.map Eg.e)→ρ 1=.int .i64 fr→ρ 2=.int .i64 to→ρ 3=.int .i64 now→ρ 4=.int .i64 sz→ρ 5=.int .i64 by'→ρ 6=v6→ρ 15=.bool true→ρ 16=.slice t s (A.map Rt.e)→ρ 17=.int .i64 A0.length→∀(Q:X→(Nat→D)→Store→Prop),
  (∀ρ' st',st'.lim=0→ρ' 0=.slice .no 8 (l.map Eg.e)→ρ' 1=.int .i64 fr→ρ' 2=.int .i64 to→ρ' 3=.int .i64 now→ρ' 4=.int .i64 sz→ρ' 5=.int .i64 by'→ρ' 6=v6→ρ' 15=.bool true→ρ' 16=.slice t s (A.map Rt.e)→Q (.exit 0) ρ' st')→WC Γ2 (.loop dX) ρ st Q:=by
 intro T
 induction T with
 |nil=>
  intro A0 hAA ρ st hl h0 h1 h2 h3 h4 h5 h6 h15 h16 h17 Q hQ
  rw[List.append_nil]at hAA
  subst hAA
  have hge:((A.length:Nat):Int)≤((A.length:Nat):Int):=Int.le_refl _
  rw[←aa h0,←aa h1,←aa h2,←aa h3,←aa h4,←aa h5,←aa h6,←aa h15,←aa h16,←aa h17]
  refine Hh ?_
  repeat' (first
 |(refine al ?_;first
 |refine lN ?_
 |refine lF (p:=hge) ?_
 |refine mI ?_
 |refine mS ?_
 |refine Hd ?_)
 |refine He ?_
 |refine Ir ?_
 |refine ah rfl ?_
 |refine Hi ?_)
  refine hQ _ _ hl ?_ ?_ ?_ ?_ ?_ ?_ ?_ ?_ ?_<;>rfl
 |cons a T ih=>
  intro A0 hAA ρ st hl h0 h1 h2 h3 h4 h5 h6 h15 h16 h17 Q hQ
  have hv:A[A0.length]?=some a:=by rw[hAA];simp
  have hlen:A.length=A0.length+(T.length+1):=by rw[hAA];simp
  have hz:s=2:=hs.resolve_right (by rintro rfl;simp at hlen)
  subst hz
  have hpl:A0.length<(A.map Rt.e).length:=by simp;omega
  have hlt:((A0.length:Nat):Int)<((A.length:Nat):Int):=by omega
  have hadd:IntKind.i64.wrap (((A0.length:Nat):Int)+1)=(((A0.length+1:Nat)):Int):=by rw[ea (by omega)];omega
  have ha5:=hA.short hll a (List.mem_of_getElem? hv)
  obtain⟨es,q1,q2,q3,q4⟩:=hA.at hv
  have hI:=fun t s h=>(mY a.hs (by omega) a.ar t s h).grow ly
  have hil:(bf a).length≤50:=by unfold bf;rw[List.length_map];exact ha5
  change ∀t s h,EvX Γ2 11 [.agg [.slice t s (a.hs.map Hp.e),.int .i64 a.ar]] (Au (D.int .i64) 1 (bf a))at hI
  have hR:=fun t s h=>(CC l (by omega) (bf a) (by omega) fr to now sz es q1 .no t 8 s (.inl rfl) h).grow ly
  rw[q3,←q2]at hR
  have hS:=fun t t' s s' h1 h2=>(uI a.hs a.hs a.ar a.ar (by omega) t t' s s' h1 h2).grow ly
  rw[decide_eq_true ⟨rfl,rfl⟩]at hS
  have hnx:=ih (A0++[a]) (by simp[hAA])
  rw[show ((A0++[a]).length:Nat)=A0.length+1 by simp]at hnx
  have hl0:st.lim≤st.next:=by omega
  clear ih q1 q2 q3
  generalize bf a=is at*
  rw[←aa h0,←aa h1,←aa h2,←aa h3,←aa h4,←aa h5,←aa h6,←aa h15,←aa h16,←aa h17]
  refine Hh ?_
  rcases List.eq_nil_or_concat A0 with hz|⟨A1,b,hz⟩
  ·subst hz
   have hi0:(((([]:List Rt).length:Nat)):Int)≤0:=by simp
   repeat' (first
 |(refine al ?_;first
 |refine lN ?_
 |refine iA (([]:List Rt).length) hpl ?_
 |refine am (cs':=[_,_]) rfl rfl (ae _ _ _) rfl hl0 rfl rfl rfl ?_
 |refine gF (p:=q4) ?_
 |refine gF (p:=hi0) ?_
 |refine aD (s:=(((([]:List Rt).length+1:Nat)):Int)) (hs:=hadd) ?_
 |refine lT (p:=hlt) ?_
 |refine ak rfl ?_
 |refine mI ?_
 |refine mB ?_
 |refine mS ?_
 |refine mT ?_
 |refine ak rfl ?_
 |refine ak rfl ?_
 |refine lE (d:=.agg [_,_]) hv ?_
 |refine ai (agg:=true) (d:=.agg [_,_]) rfl rfl rfl (aY rfl) hl0 rfl ?_
 |refine ai (agg:=false) (d:=.int _ _) rfl rfl rfl (aY rfl) hl0 rfl ?_
 |refine ak rfl ?_
 |(refine cD (fn:=11) rfl rfl rfl (hI _ _ (.inl rfl)) rfl ?_;intro ti si hsi htd)
 |(refine pI (fn:=10) rfl rfl rfl (hR _ _ hsi) rfl ?_;intro tr sr hsr tk1 nt1)
 |refine dE (fn:=12) rfl rfl rfl (hS _ _ _ _ hsr (.inl rfl)) rfl rfl ?_
 |refine pB ?_
 |refine eB ?_
 |refine eA ?_
 |refine nT ?_
 |refine fD ?_
 |refine av rfl rfl ?_
 |refine ak rfl ?_
 |refine Hd ?_)
 |refine au (aE rfl) ?_
 |refine He ?_
 |refine Ir ?_
 |refine ay ?_
 |refine Hg ?_
 |refine aj rfl ?_
 |refine ah rfl ?_
 |refine Hf ?_)
   all_goals first|(exfalso;omega)|skip
   refine hnx _ _ ?_ ?_ ?_ ?_ ?_ ?_ ?_ ?_ ?_ ?_ ?_ Q hQ<;>first|rfl|exact hl
  ·rw[List.concat_eq_append]at hz
   have hlb:A0.length=A1.length+1:=by rw[hz];simp
   have hb:A[A1.length]?=some b:=by rw[hAA,hz];simp
   have hcm:=Cv hA.str hb (by rw[←hlb];exact hv)
   have hb5:=hA.short hll b (List.mem_of_getElem? hb)
   have hC:=fun t t' s s' h1 h2=>(gl b.hs b.ar a.hs a.ar (by omega) (by omega) t t' s s' h1 h2).grow ly
   rw[hcm]at hC
   have hi0:(0:Int)<((A0.length:Nat):Int):=by omega
   have hsub:IntKind.i64.wrap (((A0.length:Nat):Int) - 1)=((A1.length:Nat):Int):=by rw[ea (by omega)];omega
   have hpl1:A1.length<(A.map Rt.e).length:=by simp;omega
   clear hz hcm
   repeat' (first
 |(refine al ?_;first
 |refine lN ?_
 |refine iA (A0.length) hpl ?_
 |refine iA (A1.length) hpl1 ?_
 |refine am (cs':=[_,_]) rfl rfl (ae _ _ _) rfl hl0 rfl rfl rfl ?_
 |refine gF (p:=q4) ?_
 |refine gT (p:=hi0) ?_
 |refine aS (s:=((A1.length:Nat):Int)) (hs:=hsub) ?_
 |refine ca rfl rfl rfl rfl rfl ?_
 |refine aD (s:=((A0.length+1:Nat):Int)) (hs:=hadd) ?_
 |refine lT (p:=hlt) ?_
 |refine mI ?_
 |refine mB ?_
 |refine mS ?_
 |refine mT ?_
 |refine lE (d:=.agg [_,_]) hv ?_
 |refine lE (d:=.agg [_,_]) hb ?_
 |refine ai (agg:=true) (d:=.agg [_,_]) rfl rfl rfl (aY rfl) hl0 rfl ?_
 |refine ai (agg:=false) (d:=.int _ _) rfl rfl rfl (aY rfl) hl0 rfl ?_
 |(refine cD (fn:=11) rfl rfl rfl (hI _ _ (.inl rfl)) rfl ?_;intro ti si hsi htd)
 |(refine pI (fn:=10) rfl rfl rfl (hR _ _ hsi) rfl ?_;intro tr sr hsr tk1 nt1)
 |refine dE (fn:=12) rfl rfl rfl (hS _ _ _ _ hsr (.inl rfl)) rfl rfl ?_
 |refine dE (fn:=13) rfl rfl rfl (hC _ _ _ _ (.inl rfl) (.inl rfl)) rfl rfl ?_
 |refine pB ?_
 |refine eB ?_
 |refine eA ?_
 |refine nT ?_
 |refine fD ?_
 |refine av rfl rfl ?_
 |refine Hd ?_)
 |refine au (aE rfl) ?_
 |refine He ?_
 |refine Ir ?_
 |refine ay ?_
 |refine Hg ?_
 |refine aj rfl ?_
 |refine ah rfl ?_
 |refine Hf ?_)
   all_goals first|(exfalso;omega)|skip
   refine hnx _ _ ?_ ?_ ?_ ?_ ?_ ?_ ?_ ?_ ?_ ?_ ?_ Q hQ<;>first|rfl|exact hl
set_option maxHeartbeats 8000000 in
theorem xk (l:List Eg) (fr to now sz by' k:Int):EvP Γ2 5 [.slice .no 8 (l.map Eg.e),.int .i64 fr,.int .i64 to,.int .i64 now,.int .i64 sz,.int .i64 by',.int .i64 k] (.bool true):=by
 refine aJ rfl rfl ?_
 by_cases hf:l.length≤12∧k≤20
 ·obtain⟨f1,f2⟩:=hf
  have hA:=vt l (by omega) fr to now sz by' k (by omega) .no 8 (.inl rfl)
  have gA:=ve (l:=l) (fr:=fr) (to:=to) (now:=now) (sz:=sz) (by':=by') k
  have hsh:=gA.short (by omega)
  have hla:=gA.le
  generalize nY l fr to now sz by' k=A at*
  have hlo:=fun t s h v6=>G7 l (by omega) fr to now sz by' k.toNat A gA (by omega) t s h v6 A [] rfl
  repeat' (first
 |(refine al ?_;first
 |refine lN ?_
 |refine mI ?_
 |refine mB ?_
 |refine mS ?_
 |refine gF ?_
 |refine dE (fn:=7) rfl rfl rfl sT rfl rfl ?_
 |(refine jG (fn:=8) rfl rfl rfl hA rfl ?_;intro ta sa hsa tk1 nt1)
 |refine pB ?_
 |refine Hd ?_)
 |refine He ?_
 |refine Ir ?_
 |refine Hg ?_
 |refine ah rfl ?_
 |refine Hf ?_)
  all_goals first|(exfalso;omega)|skip
  refine hlo ta sa hsa (.int .i64 k) _ _ ?_ ?_ ?_ ?_ ?_ ?_ ?_ ?_ ?_ ?_ ?_ _ (fun ρ' st' l0 k0 k1 k2 k3 k4 k5 k6 k15 k16=>?_)
  all_goals first|rfl|skip
  have hlN:st'.lim≤st'.next:=by omega
  rw[←aa k0,←aa k1,←aa k2,←aa k3,←aa k4,←aa k5,←aa k6,←aa k15,←aa k16]
  clear hlo hA
  by_cases hk:k<1
  ·have hA0:A=[]:=List.length_eq_zero_iff.1 (by omega)
   subst hA0
   have h00:(((([]:List Rt).length:Nat)):Int)=0:=rfl
   cases hb:fq l fr to now sz by' []with
   |none=>
    have hB:=tA l (by omega) fr to now sz by' [] (by simp) .no .isnil 8 0 (.inl rfl) (.inr rfl) hb
    repeat' (first
 |(refine al ?_;first
 |refine cn rfl rfl rfl ?_
 |refine cb rfl rfl rfl rfl h00 ?_
 |refine am (cs':=[_,_]) rfl rfl (ae _ _ _) rfl hlN rfl rfl rfl ?_
 |refine lT (p:=hk) ?_
 |refine mI ?_
 |refine mB ?_
 |refine mS ?_
 |refine mT ?_
 |refine dE (fn:=14) rfl rfl rfl hB rfl rfl ?_
 |refine pB ?_
 |refine eB ?_
 |refine eA ?_
 |refine av rfl rfl ?_
 |refine Hd ?_)
 |refine He ?_
 |refine Ir ?_
 |refine aj rfl ?_
 |refine an ?_)
    all_goals first|exact aK (.inr rfl) rfl rfl|(exfalso;omega)
   |some p=>
    obtain⟨es,a⟩:=p
    have hB:=xN l (by omega) fr to now sz by' [] (by simp) .no .isnil 8 0 (.inl rfl) (.inr rfl) es a hb
    repeat' (first
 |(refine al ?_;first
 |refine cn rfl rfl rfl ?_
 |refine cb rfl rfl rfl rfl h00 ?_
 |refine am (cs':=[_,_]) rfl rfl (ae _ _ _) rfl hlN rfl rfl rfl ?_
 |refine lT (p:=hk) ?_
 |refine mI ?_
 |refine mB ?_
 |refine mS ?_
 |refine mT ?_
 |(refine pI (fn:=14) rfl rfl rfl hB rfl ?_;intro tr sr hsr tk2 nt2)
 |refine pB ?_
 |refine eB ?_
 |refine eA ?_
 |refine av rfl rfl ?_
 |refine Hd ?_)
 |refine He ?_
 |refine Ir ?_
 |refine aj rfl ?_
 |refine an ?_)
    all_goals first|exact aK (.inr rfl) rfl rfl|(exfalso;omega)
  ·have hk':1≤k:=by omega
   have hfb:=xy (by omega) gA
   have hle:((A.length:Nat):Int)≤k:=by omega
   cases hb:fq l fr to now sz by' []with
   |none=>
    rw[hb]at hfb
    simp only at hfb
    subst hfb
    have h00:(((([]:List Rt).length:Nat)):Int)≤0:=Int.le_refl _
    have hB:=tA l (by omega) fr to now sz by' [] (by simp) .no .isnil 8 0 (.inl rfl) (.inr rfl) hb
    clear gA
    repeat' (first
 |(refine al ?_;first
 |refine lN ?_
 |refine ek rfl rfl rfl rfl hle ?_
 |refine gF (p:=h00) ?_
 |refine am (cs':=[_,_]) rfl rfl (ae _ _ _) rfl hlN rfl rfl rfl ?_
 |refine lF (p:=hk') ?_
 |refine ak rfl ?_
 |refine mI ?_
 |refine mB ?_
 |refine mS ?_
 |refine mT ?_
 |refine ak rfl ?_
 |refine ak rfl ?_
 |refine dE (fn:=14) rfl rfl rfl hB rfl rfl ?_
 |refine pB ?_
 |refine eB ?_
 |refine eA ?_
 |refine nT ?_
 |(refine kM rfl rfl rfl rfl ?_)
 |refine av rfl rfl ?_
 |refine ak rfl ?_
 |refine Hd ?_)
 |refine au (aE rfl) ?_
 |refine He ?_
 |refine Ir ?_
 |refine ay ?_
 |refine Hg ?_
 |refine ah rfl ?_
 |refine an ?_)
    all_goals first|exact aK (.inr rfl) rfl rfl|(exfalso;omega)
   |some p=>
    rw[hb]at hfb
    simp only at hfb
    obtain⟨es,a⟩:=p
    have hlt0:0<A.length:=by
     rcases Nat.eq_zero_or_pos A.length with h|h
     ·rw[List.length_eq_zero_iff.1 h]at hfb;cases hfb
     ·exact h
    have hs2:sa=2:=hsa.resolve_right (by rintro rfl;simp at hlt0)
    subst hs2
    have hgt:(0:Int)<((A.length:Nat):Int):=by omega
    have hj:0<(A.map Rt.e).length:=by rw[List.length_map];exact hlt0
    have hB:=xN l (by omega) fr to now sz by' [] (by simp) .no .isnil 8 0 (.inl rfl) (.inr rfl) es a hb
    have h5:=hsh _ (List.mem_of_getElem? hfb)
    change (aN sz es now).length≤50 at h5
    have hS:=fun t t' s s' h1 h2=>(uI (aN sz es now) (aN sz es now) a a (by omega) t t' s s' h1 h2).grow ly
    rw[decide_eq_true ⟨rfl,rfl⟩]at hS
    clear gA hb
    change A[0]?=some ⟨aN sz es now,a⟩at hfb
    generalize aN sz es now=hp at*
    repeat' (first
 |(refine al ?_;first
 |refine lN ?_
 |refine ek rfl rfl rfl rfl hle ?_
 |refine gT (p:=hgt) ?_
 |refine iA 0 hj ?_
 |refine am (cs':=[_,_]) rfl rfl (ae _ _ _) rfl hlN rfl rfl rfl ?_
 |refine lF (p:=hk') ?_
 |refine mI ?_
 |refine mB ?_
 |refine mS ?_
 |refine mT ?_
 |refine lE (d:=.agg [_,_]) hfb ?_
 |refine ai (agg:=true) (d:=.agg [_,_]) rfl rfl rfl (aY rfl) hlN rfl ?_
 |(refine pI (fn:=14) rfl rfl rfl hB rfl ?_;intro tr sr hsr tk2 nt2)
 |refine dE (fn:=12) rfl rfl rfl (hS _ _ _ _ hsr (.inl rfl)) rfl rfl ?_
 |refine pB ?_
 |refine eB ?_
 |refine eA ?_
 |refine nT ?_
 |(refine kM rfl rfl rfl rfl ?_)
 |refine av rfl rfl ?_
 |refine Hd ?_)
 |refine au (aE rfl) ?_
 |refine He ?_
 |refine Ir ?_
 |refine ay ?_
 |refine Hg ?_
 |refine ah rfl ?_
 |refine an ?_)
    all_goals first|exact aK (.inr rfl) rfl rfl|(exfalso;omega)
 ·repeat' (first
 |(refine al ?_;first
 |refine lN ?_
 |refine ak rfl ?_
 |refine mI ?_
 |refine mB ?_
 |refine mS ?_
 |refine ak rfl ?_
 |refine gT ?_
 |(refine jl rfl rfl rfl rfl ?_ ?_<;>intro _)
 |refine dE (fn:=7) rfl rfl rfl sT rfl rfl ?_
 |refine pB ?_
 |refine Hd ?_)
 |refine He ?_
 |refine Ir ?_
 |refine aj rfl ?_
 |refine an ?_)
  all_goals first|exact aK (.inr rfl) rfl rfl|(exfalso;omega)
end Go.Bes
