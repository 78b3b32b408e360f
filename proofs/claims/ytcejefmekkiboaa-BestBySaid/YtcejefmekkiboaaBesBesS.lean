/-
  BestBy, as the evaluator runs it.
-/
import Derived.Test.YtcejefmekkiboaaBesBesX
set_option linter.unusedVariables false
set_option linter.unusedSimpArgs false
set_option linter.unnecessarySimpa false
namespace Go.Bes
open Go.Ev
theorem Ii (A:List Rt) (hAl:A.length≤1000) (so:Int) (t:Tok) (s:Nat) (hs:s=2∨A=[]) (v15 v17:D):∀(T A0:List Rt),A=A0++T→(∀a∈A0,a.ar≤so)→∀(ρ:Nat→D) (st:Store),ρ 15=v15→ρ 17=v17→ρ 6=.int .i64 so→ρ 16=.slice t s (A.map Rt.e)→ρ 18=.int .i64 A0.length→∀(Q:X→(Nat→D)→Store→Prop),
  (∀(ρ':Nat→D) (m:Nat),m≤A.length→(∀a∈A.take m,a.ar≤so)→(m=A.length∨∃a,A[m]?=some a∧so<a.ar)→ρ' 15=v15→ρ' 17=v17→ρ' 16=.slice t s (A.map Rt.e)→ρ' 18=.int .i64 m→Q (.exit 0) ρ' st)→WC Γ2 (.loop Ht) ρ st Q:=by
 intro T
 induction T with
 |nil=>
  intro A0 hA h0 ρ st h15 h17 h6 h16 h18 Q hQ
  rw[List.append_nil]at hA
  subst hA
  have hge:((A.length:Nat):Int)≤((A.length:Nat):Int):=Int.le_refl _
  rw[←aa h15,←aa h17,←aa h6,←aa h16,←aa h18]
  refine Hh ?_
  repeat' (first
 |(refine al ?_;first
 |refine lN ?_
 |refine lF (p:=hge) ?_
 |refine ak rfl ?_
 |refine mI ?_
 |refine mB ?_
 |refine mS ?_
 |refine ak rfl ?_
 |refine ak rfl ?_
 |refine pB ?_
 |refine ak rfl ?_
 |refine Hd ?_)
 |refine He ?_
 |refine Ir ?_
 |refine ah rfl ?_
 |refine Hi ?_)
  refine hQ _ A.length (Nat.le_refl _) (fun a ha=>h0 a (List.mem_of_mem_take ha)) (.inl rfl) ?_ ?_ ?_ ?_<;>rfl
 |cons a T ih=>
  intro A0 hA h0 ρ st h15 h17 h6 h16 h18 Q hQ
  have hv:A[A0.length]?=some a:=by rw[hA];simp
  have hlen:A.length=A0.length+(T.length+1):=by rw[hA];simp
  have hz:s=2:=hs.resolve_right (by rintro rfl;simp at hlen)
  subst hz
  have hpl:A0.length<(A.map Rt.e).length:=by simp;omega
  have hlt:((A0.length:Nat):Int)<((A.length:Nat):Int):=by omega
  have hadd:IntKind.i64.wrap (((A0.length:Nat):Int)+1)=(((A0.length+1:Nat)):Int):=by rw[ea (by omega)];omega
  have hnx:=ih (A0++[a]) (by simp[hA])
  rw[show ((A0++[a]).length:Nat)=A0.length+1 by simp]at hnx
  have htk:A.take A0.length=A0:=by rw[hA];simp
  clear ih
  rw[←aa h15,←aa h17,←aa h6,←aa h16,←aa h18]
  refine Hh ?_
  by_cases hc:a.ar≤so
  ·have hnx':=hnx (fun x hx=>by
    rcases List.mem_append.1 hx with h|h
    ·exact h0 x h
    ·rw[List.mem_singleton.1 h];exact hc)
   repeat' (first
 |(refine al ?_;first
 |refine lN ?_
 |refine iA (A0.length) hpl ?_
 |refine ek rfl rfl rfl rfl hc ?_
 |refine aD (s:=((A0.length+1:Nat):Int)) (hs:=hadd) ?_
 |refine lT (p:=hlt) ?_
 |refine mI ?_
 |refine mB ?_
 |refine mS ?_
 |refine lE (d:=.int _ _) hv ?_
 |refine pB ?_
 |refine eN rfl rfl rfl ?_
 |refine Hd ?_)
 |refine He ?_
 |refine Ir ?_
 |refine Hg ?_
 |refine aj rfl ?_
 |refine Hf ?_)
   all_goals first|(exfalso;omega)|skip
   refine hnx' _ _ ?_ ?_ ?_ ?_ ?_ Q hQ<;>rfl
  ·have hc':so<a.ar:=by omega
   repeat' (first
 |(refine al ?_;first
 |refine lN ?_
 |refine iA (A0.length) hpl ?_
 |refine eH rfl rfl rfl rfl hc' ?_
 |refine lT (p:=hlt) ?_
 |refine mI ?_
 |refine mB ?_
 |refine mS ?_
 |refine lE (d:=.int _ _) hv ?_
 |refine pB ?_
 |refine eN rfl rfl rfl ?_
 |refine Hd ?_)
 |refine He ?_
 |refine Ir ?_
 |refine ah rfl ?_
 |refine Hi ?_)
   all_goals first|(exfalso;omega)|skip
   refine hQ _ A0.length (by omega) (by rw[htk];exact h0) (.inr ⟨a,hv,hc'⟩) ?_ ?_ ?_ ?_<;>rfl
set_option maxHeartbeats 8000000 in
theorem Im (l:List Eg) (fr to now sz by' so:Int):EvP Γ2 4 [.slice .no 8 (l.map Eg.e),.int .i64 fr,.int .i64 to,.int .i64 now,.int .i64 sz,.int .i64 by',.int .i64 so] (.bool true):=by
 refine aJ rfl rfl ?_
 by_cases hf:l.length≤12∧so≤by'
 ·obtain⟨f1,f2⟩:=hf
  have hA:=vt l (by omega) fr to now sz by' 20 (by omega) .no 8 (.inl rfl)
  have hB:=vt l (by omega) fr to now sz so 20 (by omega) .no 8 (.inl rfl)
  have gA:=ve (l:=l) (fr:=fr) (to:=to) (now:=now) (sz:=sz) (by':=by') 20
  have gB:=ve (l:=l) (fr:=fr) (to:=to) (now:=now) (sz:=sz) (by':=so) 20
  have hsh:=gA.short (by omega)
  have hla:=gA.le
  have hlb:=gB.le
  generalize nY l fr to now sz by' 20=A at*
  generalize nY l fr to now sz so 20=B at*
  have h20:(20:Int).toNat=20:=rfl
  rw[h20]at gA gB hla hlb
  have hlo:=fun t s h v15 v17=>Ii A (by omega) so t s h v15 v17 A [] rfl (fun _ h=>(by cases h))
  repeat' (first
 |(refine al ?_;first
 |refine lN ?_
 |refine mI ?_
 |refine mB ?_
 |refine mS ?_
 |refine gF ?_
 |refine dE (fn:=7) rfl rfl rfl sT rfl rfl ?_
 |(refine jG (fn:=8) rfl rfl rfl hA rfl ?_;intro ta sa hsa tk1 nt1)
 |(refine jG (fn:=8) rfl rfl rfl hB rfl ?_;intro tb sb hsb tk2 nt2)
 |refine pB ?_
 |refine Hd ?_)
 |refine He ?_
 |refine Ir ?_
 |refine Hg ?_
 |refine ah rfl ?_
 |refine Hf ?_)
  all_goals first|(exfalso;omega)|skip
  refine hlo ta sa hsa (.bool true) (.slice tb sb (B.map Rt.e)) _ _ ?_ ?_ ?_ ?_ ?_ _ (fun ρ' m hm h1 h2 k15 k17 k16 k18=>?_)
  all_goals first|rfl|skip
  obtain⟨e,hmB,hlt⟩:=HU f2 gA gB hm h1 h2
  have hkn:bL (.int .i64 ((m:Nat):Int))=some m:=by simp[bL]
  have hshm:Sh5 (A.take m):=fun r hr=>hsh r (List.mem_of_mem_take hr)
  have hS:=fun t t' s s' h1 h2=>(Fw (A.take m) (A.take m) (by rw[List.length_take];omega) hshm.short t t' s s' h1 h2).grow ly
  rw[decide_eq_true rfl]at hS
  have hge:((m:Nat):Int)≤((B.length:Nat):Int):=by omega
  have hm20:m≤20:=by omega
  clear hlo gA gB h1 h2 hA hB
  rw[←aa k15,←aa k17,←aa k16,←aa k18]
  by_cases h20':m<20
  ·have hB':=hlt h20'
   have hne:¬((m:Nat):Int)=20:=by omega
   have heq:((B.length:Nat):Int)=((m:Nat):Int):=by omega
   by_cases hal:A.length=20
   ·have hal':((A.length:Nat):Int)=20:=by omega
    repeat' (first
 |(refine al ?_;first
 |refine lN ?_
 |(refine cg (ls:=B) (j:=m) rfl rfl hsb hkn hmB rfl ?_<;>intro t6<;>rw[←e])
 |(refine cg (ls:=A) (j:=m) rfl rfl hsa hkn hm rfl ?_<;>intro t7)
 |refine mI ?_
 |refine mB ?_
 |refine mS ?_
 |refine AE rfl rfl rfl rfl (by omega) ?_
 |refine cb rfl rfl rfl rfl (by omega) ?_
 |refine b7 rfl rfl rfl rfl (by omega) ?_
 |refine dE (fn:=9) rfl rfl rfl (hS _ _ 2 2 (.inl rfl) (.inl rfl)) rfl rfl ?_
 |refine pB ?_
 |refine Hd ?_)
 |refine au rfl ?_
 |refine He ?_
 |refine ay ?_
 |refine an ?_)
    all_goals first|exact aK (.inr rfl) rfl rfl|(exfalso;omega)
   ·have hal':¬((A.length:Nat):Int)=20:=by omega
    repeat' (first
 |(refine al ?_;first
 |refine lN ?_
 |(refine cg (ls:=B) (j:=m) rfl rfl hsb hkn hmB rfl ?_<;>intro t6<;>rw[←e])
 |(refine cg (ls:=A) (j:=m) rfl rfl hsa hkn hm rfl ?_<;>intro t7)
 |refine ak rfl ?_
 |refine mI ?_
 |refine mB ?_
 |refine mS ?_
 |refine ak rfl ?_
 |refine AE rfl rfl rfl rfl (by omega) ?_
 |refine cb rfl rfl rfl rfl (by omega) ?_
 |refine b7 rfl rfl rfl rfl (by omega) ?_
 |refine dE (fn:=9) rfl rfl rfl (hS _ _ 2 2 (.inl rfl) (.inl rfl)) rfl rfl ?_
 |refine pB ?_
 |refine Hd ?_)
 |refine au rfl ?_
 |refine He ?_
 |refine ay ?_
 |refine an ?_)
    all_goals first|exact aK (.inr rfl) rfl rfl|(exfalso;omega)
  ·have hm2:((m:Nat):Int)=20:=by omega
   have hal':((A.length:Nat):Int)=20:=by omega
   repeat' (first
 |(refine al ?_;first
 |refine lN ?_
 |(refine cg (ls:=B) (j:=m) rfl rfl hsb hkn hmB rfl ?_<;>intro t6<;>rw[←e])
 |(refine cg (ls:=A) (j:=m) rfl rfl hsa hkn hm rfl ?_<;>intro t7)
 |refine ak rfl ?_
 |refine mI ?_
 |refine mB ?_
 |refine mS ?_
 |refine ak rfl ?_
 |refine AE rfl rfl rfl rfl (by omega) ?_
 |refine cb rfl rfl rfl rfl (by omega) ?_
 |refine dE (fn:=9) rfl rfl rfl (hS _ _ 2 2 (.inl rfl) (.inl rfl)) rfl rfl ?_
 |refine pB ?_
 |refine ak rfl ?_
 |refine Hd ?_)
 |refine au rfl ?_
 |refine He ?_
 |refine ay ?_
 |refine an ?_)
   all_goals first|exact aK (.inr rfl) rfl rfl|(exfalso;omega)
 ·repeat' (first
 |(refine al ?_;first
 |refine lN ?_
 |refine ak rfl ?_
 |refine mI ?_
 |refine mB ?_
 |refine mS ?_
 |refine ak rfl ?_
 |refine gT ?_
 |(refine jl rfl rfl rfl rfl ?_ ?_<;>intro _)
 |refine dE (fn:=7) rfl rfl rfl sT rfl rfl ?_
 |refine pB ?_
 |refine Hd ?_)
 |refine He ?_
 |refine Ir ?_
 |refine aj rfl ?_
 |refine an ?_)
  all_goals first|exact aK (.inr rfl) rfl rfl|(exfalso;omega)
end Go.Bes
