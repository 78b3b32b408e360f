/-
  A part of the evaluator.
-/
import Derived.Test.YtjcilbnbciclpaaEvEvQ
set_option linter.unusedVariables false
set_option linter.unusedSimpArgs false
set_option linter.unnecessarySimpa false
namespace Go.Ev
open Go.RowKit
section
variable {P:Program} {B:Nat} {w:World} {g:Ghost} {ρ:Nat→D} {st st':Store} {a:Act} {d:D} {o:Oper} {x:O}
theorem VR.agg_inv {cs:List D} {v:Value} (h:VR w g (.agg cs) v):∃vs:Array Value,v=.agg vs∧cs.length=vs.size∧(∀c∈cs,c.one=true)∧∀(j:Nat) c v,cs[j]?=some c→vs[j]?=some v→VR w g c v:=by
 cases h with
 |agg cs vs hl ho hv=>exact⟨vs,rfl,hl,ho,hv⟩
theorem xO {T:TypeId} {agg:Bool} {sz:Nat} (hA:ba P T=some agg) (hz:dg P T=some sz) {cs:List D} {vs:Array Value} (hl:cs.length=vs.size) (ho:∀c∈cs,c.one=true)
  (hv:∀(j:Nat) c v,cs[j]?=some c→vs[j]?=some v→VR w g c v) {off:Nat} (hd:cut agg sz off cs=some d):∃r,VR w g d r∧∀w',(part T vs off).run P w'=.ok r w':=by
 unfold cut at hd
 split at hd<;>try contradiction
 rename_i hle
 cases agg with
 |true=>
  simp at hd
  subst hd
  refine⟨.agg (vs.extract off (off+sz)),.agg _ _ (by simp;omega) (fun c hc=>ho c (List.mem_of_mem_drop (List.mem_of_mem_take hc))) (fun j c v h1 h2=>?_),fun w'=>by simp[part,bG hA,bg hz]⟩
  have hj:j<sz:=by
   have:=(List.getElem?_eq_some_iff.1 h1).1
   simp at this;omega
  rw[List.getElem?_take_of_lt hj,List.getElem?_drop]at h1
  rw[Array.getElem?_extract]at h2
  split at h2<;>try contradiction
  exact hv _ _ _ h1 h2
 |false=>
  simp at hd
  obtain⟨h1,h2⟩:=hd
  have hlt:=(List.getElem?_eq_some_iff.1 h2).1
  have hvo:vs[off]?=some vs[off]:=Array.getElem?_eq_getElem (by omega)
  exact⟨vs[off],hv _ _ _ h2 hvo,fun w'=>by simp[part,bG hA,hvo]⟩
theorem ya {T:TypeId} {y z:Operand} (ho:o.op=.index T y z) (hc:ao P o.op=some x) (hr:x.run ρ st=some (d,st')) (he:EnvR w g ρ a.tmps):st'=st∧QG P w g st (execOp a.eval o) d:=by
 rw[ho]at hc
 simp only[ao,Option.bind_eq_bind,Option.bind_eq_some_iff]at hc
 split at hc<;>try contradiction
 rename_i n e he'
 simp only[Option.bind_eq_some_iff,Option.some.injEq]at hc
 obtain⟨sz,hsz,ag,hag,y',hy,z',hz,rfl⟩:=hc
 have h1:=bF he hy
 have h2:=bF he hz
 simp only[O.run]at hr
 split at hr<;>try contradiction
 rename_i cs i hcv hi
 split at hr<;>try contradiction
 rename_i hlt
 simp at hr
 obtain⟨d',hd,rfl,rfl⟩:=hr
 obtain⟨k,hk⟩:=cC hi h2
 rw[hcv]at h1
 obtain⟨vs,hu,hl,ho',hv⟩:=h1.agg_inv
 obtain⟨r,hr1,hr2⟩:=xO (P:=P) hag hsz hl ho' hv hd
 exact⟨rfl,r,hr1,fun w' _=>by simp[execOp,ho,hu,hk,Instr.index,asIntOf,run_underlying he',hlt,bg hsz,hr2]⟩
theorem oW {isS:Bool} {len cap l hh mm:Nat} {lo hi mx:Option D} {vlo vhi vmx:Option Value}
  (h1:∀c,lo=some c→∃x,vlo=some x∧VR w g c x) (h1':lo=none→vlo=none) (h2:∀c,hi=some c→∃x,vhi=some x∧VR w g c x) (h2':hi=none→vhi=none)
  (h3:∀c,mx=some c→∃x,vmx=some x∧VR w g c x) (h3':mx=none→vmx=none) (hmh:mx.isSome=true→hi.isSome=true)
  (L:(match (generalizing:=false) lo with|none=>some 0|some x=>bE x)=some l) (H:(match (generalizing:=false) hi with|none=>some len|some x=>bE x)=some hh) (M0:mx=none→mm=cap) (M1:∀c,mx=some c→bE c=some mm∧mm≤cap)
  (b1:l≤hh) (b2:hh≤mm) (w':World):(Instr.sliceBounds isS len cap vlo vhi vmx).run P w'=.ok (l,hh,mm) w':=by
 have L':(vlo=none∧l=0)∨∃k,vlo=some (.int k (l:Int)):=by
  cases lo with
  |none=>simp at L;exact .inl ⟨h1' rfl,L.symm⟩
  |some c=>
   obtain⟨x,hx,hx'⟩:=h1 c rfl
   simp at L
   obtain⟨kk,rfl⟩:=cC L hx'
   exact .inr ⟨kk,hx⟩
 have H':(vhi=none∧hi=none∧hh=len)∨∃k,vhi=some (.int k (hh:Int)):=by
  cases hi with
  |none=>simp at H;exact .inl ⟨h2' rfl,rfl,H.symm⟩
  |some c=>
   obtain⟨x,hx,hx'⟩:=h2 c rfl
   simp at H
   obtain⟨kk,rfl⟩:=cC H hx'
   exact .inr ⟨kk,hx⟩
 cases mx with
 |none=>
  have:=h3' rfl
  subst this
  have:=M0 rfl
  subst this
  rcases H' with⟨rfl,_,rfl⟩|⟨kh,rfl⟩<;>rcases L' with⟨rfl,rfl⟩|⟨kl,rfl⟩<;>simp[Instr.sliceBounds,Instr.sliceBound,asIntOf,b1,b2]
 |some c=>
  obtain⟨x,rfl,hx'⟩:=h3 c rfl
  obtain⟨M2,M3⟩:=M1 c rfl
  obtain⟨kk,rfl⟩:=cC M2 hx'
  rcases H' with⟨rfl,rfl,rfl⟩|⟨kh,rfl⟩
  ·have:=hmh rfl
   simp at this
  ·rcases L' with⟨rfl,rfl⟩|⟨kl,rfl⟩<;>simp[Instr.sliceBounds,Instr.sliceBound,asIntOf,b1,b2,M3]
theorem VR.rs_part {l b o cap off sz c a h m mm:Nat} {vs:Array Value} {T:TypeId} (hb:g.ι l=some b) (hh:w.heap[b]?=some (.cells vs T (0,0))) (ho:o=off∨cap=0) (hc:c≤cap) (hk:off+cap*sz≤vs.size)
  (b1:a≤h) (b2:h≤m) (b3:m≤mm) (b4:mm≤cap):VR w g (.rs l (off+a*sz) sz (h - a) (m - a)) (.slice (if mm=a then some ⟨b,o,none⟩else some ⟨b,o+a*sz,none⟩) (h - a) (mm - a)):=by
 have hk':off+a*sz+(mm - a)*sz≤vs.size:=by
  have h1:a*sz+(mm - a)*sz=mm*sz:=by rw[←Nat.add_mul];congr 1;omega
  have h2:=Nat.mul_le_mul_right sz b4
  omega
 split
 ·exact .rs l _ sz _ _ b o _ vs T hb hh (.inr (by omega)) (by omega) (by omega) hk'
 ·refine .rs l _ sz _ _ b _ _ vs T hb hh (.inl ?_) (by omega) (by omega) hk'
  rcases ho with rfl|h0
  ·rfl
  ·omega
theorem w5 {sz:Nat} {u d:D} {lo hi mx:Option D} (h:ki sz u lo hi mx=some d) {v:Value} (hv:VR w g u v) {vlo vhi vmx:Option Value}
  (h1:∀c,lo=some c→∃x,vlo=some x∧VR w g c x) (h1':lo=none→vlo=none) (h2:∀c,hi=some c→∃x,vhi=some x∧VR w g c x) (h2':hi=none→vhi=none)
  (h3:∀c,mx=some c→∃x,vmx=some x∧VR w g c x) (h3':mx=none→vmx=none) (hmh:mx.isSome=true→hi.isSome=true) {T e:TypeId} (hT:P.underlying T=some (.slice e)) (hz:dg P e=some sz):
  ∃r,VR w g d r∧∀w',(Instr.sliceAt T v vlo vhi vmx).run P w'=.ok r w':=by
 by_cases hrs:∃l off s n c,u=.rs l off s n c
 ·obtain⟨l,off,s,n,c,rfl⟩:=hrs
  simp only[ki]at h
  split at h<;>try contradiction
  rename_i hsz
  split at h<;>try contradiction
  rename_i a hh m hl hhh hm
  split at h<;>try contradiction
  rename_i hb
  obtain⟨b1,b2,b3⟩:=hb
  have hsz:s=sz:=by simpa using hsz
  subst hsz
  injection h with h
  subst h
  obtain⟨b,o,cap,vs,T',rfl,hb,hbk,hoo,hn,hc,hk⟩:=hv.rs_inv
  obtain⟨mm,M0,M1,b4,b5⟩:∃mm,(mx=none→mm=cap)∧(∀c,mx=some c→bE c=some mm∧mm≤cap)∧m≤mm∧mm≤cap:=by
   cases mx with
   |none=>simp at hm;exact⟨cap,fun _=>rfl,fun c h=>by simp at h,by omega,Nat.le_refl _⟩
   |some c'=>simp at hm;exact⟨m,fun h=>by simp at h,fun c h=>by cases h;exact⟨hm,by omega⟩,Nat.le_refl _,by omega⟩
  refine⟨_,VR.rs_part hb hbk hoo hc hk b1 b2 b4 b5,fun w'=>?_⟩
  have hrun:=oW (P:=P) (isS:=true) (len:=n) (cap:=cap) h1 h1' h2 h2' h3 h3' hmh hl hhh M0 M1 b1 (by omega) w'
  simp only[Instr.sliceAt,Instr.slice,run_underlying hT,Sem.run_bind,Result.andThen_ok,hrun,bg hz,Sem.run_pure]
  split<;>simp[cj]
 unfold ki at h
 split at h<;>try contradiction
 case h_2=>exact absurd ⟨_,_,_,_,_,rfl⟩ hrs
 rename_i t s xs
 split at h<;>try contradiction
 rename_i hsz
 split at h<;>try contradiction
 rename_i l hh m hl hhh hm
 split at h<;>try contradiction
 rename_i hb
 obtain⟨b1,b2,b3,b4⟩:=hb
 injection h with h
 obtain⟨A,cap,vals,rfl,hcp,ht,hs,hA,hvv⟩:=hv.slice_inv
 have hrun:∀w',(Instr.sliceBounds true xs.length cap vlo vhi vmx).run P w'=.ok (l,hh,m.getD cap) w':=by
  intro w'
  have L:(vlo=none∧l=0)∨∃k,vlo=some (.int k (l:Int)):=by
   cases lo with
   |none=>simp at hl;exact .inl ⟨h1' rfl,hl.symm⟩
   |some c=>
    obtain⟨x,hx,hx'⟩:=h1 c rfl
    simp at hl
    obtain⟨kk,rfl⟩:=cC hl hx'
    exact .inr ⟨kk,hx⟩
  have H:(vhi=none∧hi=none∧hh=xs.length)∨∃k,vhi=some (.int k (hh:Int)):=by
   cases hi with
   |none=>simp at hhh;exact .inl ⟨h2' rfl,rfl,hhh.symm⟩
   |some c=>
    obtain⟨x,hx,hx'⟩:=h2 c rfl
    simp at hhh
    obtain⟨kk,rfl⟩:=cC hhh hx'
    exact .inr ⟨kk,hx⟩
  have M:(vmx=none∧m=none)∨∃k mm,vmx=some (.int k ((mm:Nat):Int))∧m=some mm∧mx.isSome=true:=by
   cases mx with
   |none=>simp at hm;exact .inl ⟨h3' rfl,hm.symm⟩
   |some c=>
    obtain⟨x,hx,hx'⟩:=h3 c rfl
    simp at hm
    obtain⟨mm,hm,rfl⟩:=hm
    obtain⟨kk,rfl⟩:=cC hm hx'
    exact .inr ⟨kk,mm,hx,rfl,rfl⟩
  clear h1 h1' h2 h2' h3 h3' hl hhh hm h
  rcases M with⟨rfl,rfl⟩|⟨km,mm,rfl,rfl,hms⟩
  ·have hc':hh≤cap:=by omega
   rcases H with⟨rfl,_,rfl⟩|⟨kh,rfl⟩<;>rcases L with⟨rfl,rfl⟩|⟨kl,rfl⟩<;>simp[Instr.sliceBounds,Instr.sliceBound,asIntOf,b1,hc']
  ·simp at b3 b4
   have hc':mm≤cap:=by omega
   rcases H with⟨rfl,rfl,rfl⟩|⟨kh,rfl⟩
   ·have:=hmh hms
    simp at this
   ·rcases L with⟨rfl,rfl⟩|⟨kl,rfl⟩<;>simp[Instr.sliceBounds,Instr.sliceBound,asIntOf,b1,hc',b4]
 refine⟨.slice (if m.getD cap=l then A else A.map (·.add (l*sz))) (hh - l) (m.getD cap - l),?_,fun w'=>?_⟩
 ·subst h
  have hlen:((xs.take hh).drop l).length=hh - l:=by simp;omega
  have hmc:hh≤m.getD cap:=by
   cases m with
   |none=>simp;omega
   |some m=>simpa using b4
  have hget:∀i,((xs.take hh).drop l)[i]?=if i<hh - l then xs[l+i]? else none:=by
   intro i
   rw[List.getElem?_drop]
   by_cases hi:i<hh - l
   ·rw[if_pos hi,List.getElem?_take_of_lt (by omega)]
   ·rw[if_neg hi];simp;omega
  have hszs:∀(i:Nat) (x:D),xs[i]?=some x→s=sz:=fun i x hx=>by
   have:xs.isEmpty=false:=by cases xs<;>simp_all
   simpa[this]using hsz
  have some_of:∀(i:Nat) (x:D),((xs.take hh).drop l)[i]?=some x→i<hh - l∧xs[l+i]?=some x:=fun i x hx=>by
   rw[hget]at hx
   by_cases hi:i<hh - l
   ·rw[if_pos hi]at hx;exact⟨hi,hx⟩
   ·rw[if_neg hi]at hx;cases hx
  refine .slice _ sz _ _ (hh - l) _ (fun i j=>vals (l+i) j) hlen (by omega) ?_ (fun i x hx=>?_) (fun i x j c hx hc=>?_) (fun i x j c hx hc=>hvv _ x j c (some_of i x hx).2 hc)
  · -- the token
    split
    ·rename_i hm1;rw[hm1];simp[TokOK]
    ·split
     ·trivial
     ·rename_i hmn hms
      have hmn:m=none:=by cases m<;>simp_all
      subst hmn
      simp only[Option.getD_none]
      split
      ·rename_i hxl
       split
       ·rename_i hte
        subst hte
        simp only[TokOK]at ht ⊢
        omega
       ·split
        ·rename_i hte
         subst hte
         simp only[TokOK]at ht ⊢
         obtain⟨rfl,h1,h2⟩:=ht
         refine⟨?_,by omega,by omega⟩
         split<;>rfl
        split
        ·rename_i hls
         obtain⟨rfl,rfl⟩:=hls
         subst hxl
         simp only[Nat.zero_mul,Nat.sub_zero]
         have:(if cap=0 then A else A.map (·.add 0))=A:=by
          split
          ·rfl
          ·cases A<;>simp[Addr.add]
         rw[this]
         exact ht
        ·trivial
      ·trivial
  ·have:=hs _ x (some_of i x hx).2
   rw[hszs _ x (some_of i x hx).2]at this
   exact this
  ·obtain⟨hi,hx'⟩:=some_of i x hx
   obtain⟨ad,rfl,e1,e2,e3⟩:=hA _ x j c hx' hc
   have hss:=hszs _ x hx'
   subst hss
   refine⟨ad.add (l*s),by rw[if_neg (by omega)];rfl,?_,?_,?_⟩
   ·rw[cj _ e2];simpa[Nat.add_mul,Nat.add_assoc]using e1
   ·rw[cj _ e2]
   ·rw[cj _ e2];simpa[Nat.add_mul,Nat.add_assoc]using e3
 ·simp[Instr.sliceAt,Instr.slice,run_underlying hT,hrun,bg hz]
end
end Go.Ev
