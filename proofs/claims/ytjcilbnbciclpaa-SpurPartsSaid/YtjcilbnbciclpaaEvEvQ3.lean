/-
  A part of the evaluator.
-/
import Derived.Test.YtjcilbnbciclpaaEvEvQ2
set_option linter.unusedVariables false
set_option linter.unusedSimpArgs false
set_option linter.unnecessarySimpa false
namespace Go.Ev
open Go.RowKit
section
variable {P:Program} {B:Nat} {w:World} {g:Ghost} {ρ:Nat→D} {st st':Store} {a:Act} {d:D} {o:Oper} {x:O}
theorem kV (he:EnvR w g ρ a.tmps) {y:Option Operand} {y':Option A} (h:gb y=some y'):
  (∀c,y'.map (·.ev ρ)=some c→∃x,y.map a.eval=some x∧VR w g c x)∧(y'.map (·.ev ρ)=none→y.map a.eval=none)∧y'.isSome=y.isSome:=by
 cases y with
 |none=>simp[gb]at h;subst h;simp
 |some z=>
  simp[gb]at h
  obtain⟨z',hz,rfl⟩:=h
  refine⟨fun c hc=>?_,fun hc=>by simp at hc,rfl⟩
  simp at hc
  subst hc
  exact⟨_,rfl,bF he hz⟩
theorem yw {T:TypeId} {y:Operand} {lo hi mx:Option Operand} (ho:o.op=.slice T y lo hi mx) (hc:ao P o.op=some x) (hr:x.run ρ st=some (d,st')) (he:EnvR w g ρ a.tmps) (hrel:Rel B w g st):st'=st∧QG P w g st (execOp a.eval o) d:=by
 rw[ho]at hc
 simp only[ao,Option.bind_eq_bind,Option.bind_eq_some_iff]at hc
 split at hc<;>try contradiction
 rename_i e he'
 case h_2=>
  rename_i n e he'
  split at hc<;>try contradiction
  rename_i hmx
  simp only[Option.bind_eq_some_iff,Option.some.injEq]at hc
  obtain⟨sz,hsz,y',hy,lo',hlo,hi',hhi,rfl⟩:=hc
  have hmn:mx=none:=by cases mx<;>simp_all
  subst hmn
  simp only[O.run]at hr
  have h0:=bF he hy
  split at hr<;>try contradiction
  rename_i l off hcv
  rw[hcv]at h0
  obtain⟨b,hb,hu⟩:=VR.ptr_inv h0
  obtain⟨cs,hcs,hr⟩:=Option.bind_eq_some_iff.1 hr
  split at hr<;>try contradiction
  rename_i a1 h1 hla hlh
  split at hr<;>try contradiction
  rename_i hcond
  obtain⟨b1,b2,b3⟩:=hcond
  simp only[Option.some.injEq,Prod.mk.injEq]at hr
  obtain⟨rfl,rfl⟩:=hr
  obtain⟨vs,T',hh,hl,ho',hv,bx,hbx⟩:=jx hrel hcs hb
  obtain⟨q1,q2,_⟩:=kV he hlo
  obtain⟨q3,q4,_⟩:=kV he hhi
  refine⟨rfl,_,VR.rs_part (cap:=n) (mm:=n) (o:=off) hb hh (.inl rfl) (Nat.le_refl n) (by omega) b1 b2 (Nat.le_refl _) (Nat.le_refl _),fun w' _=>?_⟩
  have hrun:=oW (P:=P) (w:=w) (g:=g) (isS:=false) (len:=n) (cap:=n) (mx:=none) (vmx:=none) (mm:=n) q1 q2 q3 q4 (fun c h=>by simp at h) (fun _=>rfl) (fun h=>by simp at h) hla hlh (fun _=>rfl) (fun c h=>by simp at h) b1 (by omega) w'
  simp only[execOp,ho,hu,Instr.sliceAt,Instr.sureAddr,run_underlying he',Sem.run_bind,Result.andThen_ok,hrun,bg hsz,Sem.run_pure,Option.map_none]
  split<;>simp[cj]
 simp only[Option.bind_eq_some_iff]at hc
 obtain⟨lo',hlo,hi',hhi,mx',hmx,hc⟩:=hc
 split at hc<;>try contradiction
 rename_i hmh
 simp only[Option.bind_eq_some_iff,Option.some.injEq]at hc
 obtain⟨sz,hsz,y',hy,rfl⟩:=hc
 simp only[O.run,Option.map_eq_some_iff]at hr
 obtain⟨d',hd,he2⟩:=hr
 cases he2
 obtain⟨l1,l2,l3⟩:=kV he hlo
 obtain⟨h1,h2,h3⟩:=kV he hhi
 obtain⟨m1,m2,m3⟩:=kV he hmx
 obtain⟨r,hr1,hr2⟩:=w5 (P:=P) hd (bF he hy) l1 l2 h1 h2 m1 m2 (by
  intro hm
  simp only[Option.isSome_map]at hm ⊢
  rw[m3]at hm
  rw[h3]
  cases hi<;>simp_all) he' hsz
 exact⟨rfl,r,hr1,fun w' _=>by simp[execOp,ho,hr2]⟩
theorem VR.map_inv {l:Nat} {v:Value} (h:VR w g (.map l) v):∃b,g.ι l=some b∧v=.map (some b):=by cases h;exact⟨_,‹_›,rfl⟩
theorem VR.nilmap_inv {v:Value} (h:VR w g .nilmap v):v=.map none:=by cases h;rfl
theorem uz (hrel:Rel B w g st) {l b:Nat} {kv:List (Int×D)} (hbx:st.boxes l=some (.map kv)) (hb:g.ι l=some b):
  ∃(es:Array MapEntry) (clock:Nat),w.heap[b]?=some (.map es clock)∧MapR w g kv es clock:=by
 obtain⟨b',hb',_,_,hR⟩:=hrel.box _ _ hbx
 rw[hb]at hb'
 cases hb'
 exact hR
theorem cE {k:Int}:∀{kv:List (Int×D)},(kv.map (·.1)).Nodup→∀{d:D},aL k kv=some d↔(k,d)∈kv
 |[],_,d=>by simp[aL]
 |(k',d')::r,hn,d=>by
  simp only[List.map_cons,List.nodup_cons]at hn
  simp only[aL,List.mem_cons,Prod.mk.injEq]
  by_cases h:k'=k
  ·subst h
   rw[if_pos rfl]
   constructor
   ·intro e;exact .inl ⟨rfl,by cases e;rfl⟩
   ·rintro (⟨_,e⟩|e)
    ·rw[e]
    ·exact absurd (List.mem_map_of_mem e) hn.1
  ·rw[if_neg h,cE hn.2]
   constructor
   ·exact .inr
   ·rintro (⟨e,_⟩|e)
    ·exact absurd e.symm h
    ·exact e
theorem mK {kv kv0:List (Int×D)} (hp:kv0.Perm kv) (hn:(kv.map (·.1)).Nodup) (k:Int):aL k kv0=aL k kv:=by
 have hn0:(kv0.map (·.1)).Nodup:=(hp.map _).nodup_iff.2 hn
 cases h:aL k kv with
 |some d=>exact(cE hn0).2 (hp.mem_iff.2 ((cE hn).1 h))
 |none=>
  cases h0:aL k kv0 with
  |none=>rfl
  |some d=>rw[(cE hn).2 (hp.mem_iff.1 ((cE hn0).1 h0))]at h;cases h
theorem xu:∀(xs:List D) (c d:D),vS c xs=some d→∀(u:Value) (vs:List Value),VR w g c u→VRs w g xs vs→∃r,VR w g d r∧∀w',(vs.foldlM Builtin.min2 u).run P w'=.ok r w'
 |[],c,d,h,u,vs,hu,hvs=>by
  cases c<;>simp[vS]at h
  subst h
  have:vs=[]:=List.eq_nil_of_length_eq_zero hvs.1.symm
  subst this
  exact⟨u,hu,fun w'=>by simp⟩
 |e::xs,c,d,h,u,vs,hu,hvs=>by
  cases c<;>cases e<;>simp[vS]at h
  cases hu.int_inv
  cases vs with
  |nil=>simp[VRs]at hvs
  |cons v vs=>
   have h0:=hvs.2 0 _ v rfl rfl
   cases h0.int_inv
   obtain⟨r,hr1,hr2⟩:=xu xs _ d h _ vs (.int _ _) ⟨by have:=hvs.1;simpa using this,fun j d v p q=>hvs.2 (j+1) d v (by simpa using p) (by simpa using q)⟩
   exact⟨r,hr1,fun w'=>by simp[List.foldlM_cons,Builtin.min2,hr2]⟩
theorem wq:∀(xs:List D) (c d:D),va c xs=some d→∀(u:Value) (vs:List Value),VR w g c u→VRs w g xs vs→∃r,VR w g d r∧∀w',(vs.foldlM Builtin.max2 u).run P w'=.ok r w'
 |[],c,d,h,u,vs,hu,hvs=>by
  cases c<;>simp[va]at h
  subst h
  have:vs=[]:=List.eq_nil_of_length_eq_zero hvs.1.symm
  subst this
  exact⟨u,hu,fun w'=>by simp⟩
 |e::xs,c,d,h,u,vs,hu,hvs=>by
  cases c<;>cases e<;>simp[va]at h
  cases hu.int_inv
  cases vs with
  |nil=>simp[VRs]at hvs
  |cons v vs=>
   have h0:=hvs.2 0 _ v rfl rfl
   cases h0.int_inv
   obtain⟨r,hr1,hr2⟩:=wq xs _ d h _ vs (.int _ _) ⟨by have:=hvs.1;simpa using this,fun j d v p q=>hvs.2 (j+1) d v (by simpa using p) (by simpa using q)⟩
   exact⟨r,hr1,fun w'=>by simp[List.foldlM_cons,Builtin.max2,hr2]⟩
theorem vq {c:Call} (ho:o.op=.call c) (hq:x.quiet=true) (hb:∃b,c.callee=.builtin b) (hc:ao P o.op=some x) (hr:x.run ρ st=some (d,st')) (he:EnvR w g ρ a.tmps) (hrel:Rel B w g st):st'=st∧QG P w g st (execOp a.eval o) d:=by
 rw[ho]at hc
 obtain⟨b,hb⟩:=hb
 obtain⟨callee,args,argTypes⟩:=c
 simp only at hb
 subst hb
 simp only[ao]at hc
 cases b<;>simp only[gQ]at hc<;>try contradiction
 case len=>
  unfold jv at hc
  simp only[Option.bind_eq_bind]at hc
  split at hc<;>try contradiction
  rename_i y t ts hargs htys
  obtain⟨args⟩:=args
  obtain⟨argTypes⟩:=argTypes
  simp at hargs htys
  subst hargs htys
  split at hc<;>try contradiction
  ·rename_i e he'
   simp only[Option.bind_eq_some_iff,Option.some.injEq]at hc
   obtain⟨y',hy,rfl⟩:=hc
   simp only[O.run]at hr
   split at hr<;>try contradiction
   ·rename_i hcv
    simp at hr
    obtain⟨rfl,rfl⟩:=hr
    have h1:=bF he hy
    rw[hcv]at h1
    obtain⟨A,cap,vals,hu,_⟩:=h1.slice_inv
    exact⟨rfl,_,.int _ _,fun w' _=>by simp[execOp,ho,resolve,invoke,builtin,Builtin.len_,run_underlying he',hu,goInt]⟩
   ·rename_i hcv
    simp at hr
    obtain⟨rfl,rfl⟩:=hr
    have h1:=bF he hy
    rw[hcv]at h1
    obtain⟨b,o',cap,vs,T',hu,_⟩:=h1.rs_inv
    exact⟨rfl,_,.int _ _,fun w' _=>by simp[execOp,ho,resolve,invoke,builtin,Builtin.len_,run_underlying he',hu,goInt]⟩
  ·rename_i kt e he'
   simp only[Option.bind_eq_some_iff,Option.some.injEq]at hc
   obtain⟨y',hy,rfl⟩:=hc
   have h1:=bF he hy
   simp only[O.run]at hr
   split at hr<;>try contradiction
   ·rename_i l hcv
    split at hr<;>try contradiction
    rename_i kv hbx
    simp at hr
    obtain⟨rfl,rfl⟩:=hr
    rw[hcv]at h1
    obtain⟨b,hb,hu⟩:=h1.map_inv
    obtain⟨es,clock,hh,⟨kv0,hp,hl0,_⟩,_⟩:=uz hrel hbx hb
    have hl:kv.length=es.size:=hp.length_eq.symm.trans hl0
    refine⟨rfl,_,.int _ _,fun w' hs=>?_⟩
    have hh':=(hs.box _ _ _ hbx hb).trans hh
    simp[execOp,ho,resolve,invoke,builtin,Builtin.len_,run_underlying he',hu,goInt,getObj,Sem.run,hh',hl]
   ·rename_i hcv
    simp at hr
    obtain⟨rfl,rfl⟩:=hr
    rw[hcv]at h1
    have hu:=h1.nilmap_inv
    exact⟨rfl,_,.int _ _,fun w' _=>by simp[execOp,ho,resolve,invoke,builtin,Builtin.len_,run_underlying he',hu,goInt]⟩
 case cap=>
  unfold jF at hc
  simp only[Option.bind_eq_bind]at hc
  split at hc<;>try contradiction
  rename_i y t ts hargs htys
  obtain⟨args⟩:=args
  obtain⟨argTypes⟩:=argTypes
  simp at hargs htys
  subst hargs htys
  split at hc<;>try contradiction
  rename_i e he'
  simp only[Option.bind_eq_some_iff,Option.some.injEq]at hc
  obtain⟨y',hy,rfl⟩:=hc
  have h1:=bF he hy
  simp only[O.run]at hr
  split at hr<;>try contradiction
  ·rename_i hcv
   simp at hr
   obtain⟨rfl,rfl⟩:=hr
   rw[hcv]at h1
   obtain⟨A,cap,vals,hu,_,hto,_⟩:=h1.slice_inv
   simp only[TokOK]at hto
   subst hto
   exact⟨rfl,_,.int _ _,fun w' _=>by simp[execOp,ho,resolve,invoke,builtin,Builtin.cap_,run_underlying he',hu,goInt]⟩
  ·rename_i hcv
   simp at hr
   obtain⟨rfl,rfl⟩:=hr
   rw[hcv]at h1
   obtain⟨A,cap,vals,hu,_,hto,_⟩:=h1.slice_inv
   simp only[TokOK]at hto
   obtain⟨_,h2,h3⟩:=hto
   subst h3
   exact⟨rfl,_,.int _ _,fun w' _=>by simp[execOp,ho,resolve,invoke,builtin,Builtin.cap_,run_underlying he',hu,goInt,h2]⟩
 case clear=>
  exfalso
  unfold eo at hc
  simp only[Option.bind_eq_bind]at hc
  split at hc<;>try contradiction
  split at hc<;>try contradiction
  simp only[Option.bind_eq_some_iff,Option.some.injEq]at hc
  obtain⟨_,_,_,_,rfl⟩:=hc
  simp[O.quiet]at hq
 case append=>
  exfalso
  unfold ek at hc
  simp only[Option.bind_eq_bind]at hc
  repeat' (split at hc)
  all_goals try contradiction
  all_goals
   simp only[Option.bind_eq_some_iff,Option.some.injEq]at hc
   obtain⟨_,_,_,_,rfl⟩:=hc
   simp[O.quiet]at hq
 case min=>
  obtain⟨ys,hy,rfl⟩:=Option.map_eq_some_iff.1 hc
  have h1:=o6 he hy
  simp only[O.run]at hr
  split at hr<;>try contradiction
  rename_i y r
  simp at hr
  obtain⟨d',hd,rfl,rfl⟩:=hr
  generalize hvs:args.toList.map a.eval=vs at h1
  cases vs with
  |nil=>simp[VRs]at h1
  |cons v vs=>
   obtain⟨q,hq1,hq2⟩:=xu (P:=P) _ _ _ hd v vs (h1.2 0 _ v rfl rfl) ⟨by have:=h1.1;simpa using this,fun j d v p q=>h1.2 (j+1) d v (by simpa using p) (by simpa using q)⟩
   refine⟨rfl,q,hq1,fun w' _=>?_⟩
   simp[execOp,ho,resolve,invoke,builtin,Builtin.min_,hvs,hq2]
 case max=>
  obtain⟨ys,hy,rfl⟩:=Option.map_eq_some_iff.1 hc
  have h1:=o6 he hy
  simp only[O.run]at hr
  split at hr<;>try contradiction
  rename_i y r
  simp at hr
  obtain⟨d',hd,rfl,rfl⟩:=hr
  generalize hvs:args.toList.map a.eval=vs at h1
  cases vs with
  |nil=>simp[VRs]at h1
  |cons v vs=>
   obtain⟨q,hq1,hq2⟩:=wq (P:=P) _ _ _ hd v vs (h1.2 0 _ v rfl rfl) ⟨by have:=h1.1;simpa using this,fun j d v p q=>h1.2 (j+1) d v (by simpa using p) (by simpa using q)⟩
   refine⟨rfl,q,hq1,fun w' _=>?_⟩
   simp[execOp,ho,resolve,invoke,builtin,Builtin.max_,hvs,hq2]
theorem wZ {T:TypeId} {z:D} (h:jV P T=some z):∃v,(∀w g,VR w g z v)∧∀w',(zeroValue T).run P w'=.ok v w':=by
 unfold jV at h
 cases hi:P.info? T with
 |none=>simp[hi]at h
 |some i=>
  cases hz:i.zero with
  |none=>simp[hi,hz]at h
  |some v=>
   simp[hi,hz]at h
   exact⟨v,fun w g=>dC v z h w g,fun w'=>by simp[zeroValue,typeInfo,hi,hz]⟩
theorem uh (kd:IntKind) (i:Int):∀(kv:List (Int×D)) (es:List MapEntry) (n:Nat),kv.length=es.length→(∀(j:Nat) k d e,kv[j]?=some (k,d)→es[j]?=some e→e.key=.int .i64 k∧VR w g d e.val)→
  (match aL i kv with
   |none=>Instr.findNow (.int kd) (.int .i64 i) es n=some none
   |some d=>∃m v,Instr.findNow (.int kd) (.int .i64 i) es n=some (some (m,v))∧VR w g d v)
 |[],es,n,hl,h=>by
  have:es=[]:=List.eq_nil_of_length_eq_zero hl.symm
  subst this
  simp[aL,Instr.findNow]
 |(k,d)::kv,[],n,hl,h=>by simp at hl
 |(k,d)::kv,e::es,n,hl,h=>by
  obtain⟨h1,h2⟩:=h 0 k d e rfl rfl
  have ih:=uh kd i kv es (n+1) (by simpa using hl) (fun j k d e p q=>h (j+1) k d e (by simpa using p) (by simpa using q))
  simp only[aL,Instr.findNow,h1,Instr.sameNow,if_true]
  by_cases hk:k=i
  ·subst hk
   simp only[if_true,beq_self_eq_true]
   exact⟨n,e.val,rfl,h2⟩
  ·have:(i==k)=false:=by simp;exact fun h=>hk h.symm
   simp only[if_neg hk,this]
   exact ih
theorem wc {T:TypeId} {y z:Operand} {ok:Bool} (ho:o.op=.lookup T y z ok) (hc:ao P o.op=some x) (hr:x.run ρ st=some (d,st')) (he:EnvR w g ρ a.tmps) (hrel:Rel B w g st):st'=st∧QG P w g st (execOp a.eval o) d:=by
 rw[ho]at hc
 simp only[ao,Option.bind_eq_bind]at hc
 split at hc<;>try contradiction
 rename_i kt e hT
 split at hc<;>try contradiction
 rename_i hK
 simp only[Option.bind_eq_some_iff,Option.some.injEq]at hc
 obtain⟨zd,hzd,y',hy,z',hz,rfl⟩:=hc
 obtain⟨zv,hzv,hzr⟩:=wZ hzd
 have h1:=bF he hy
 have h2:=bF he hz
 have hck:∀e v w',(Instr.checkKey e 10000 kt v).run P w'=.ok () w':=fun e v w'=>by
  show (Instr.checkKey e (9999+1) kt v).run P w'=_
  unfold Instr.checkKey
  simp[run_underlying hK]
 have tail:∀(d:D) (b:Bool) (v:Value),VR w g d v→VR w g (if ok then .tuple [d,.bool b]else d) (if ok then .tuple #[v,.bool b]else v):=by
  intro d b v hv
  cases ok
  ·exact hv
  ·refine .tuple _ _ rfl (fun j c u p q=>?_)
   match j with
   |0=>simp at p q;subst p;subst q;exact hv
   |1=>simp at p q;subst p;subst q;exact .bool b
   |j+2=>simp at p
 simp only[O.run]at hr
 split at hr<;>try contradiction
 ·rename_i l i hcv hcz
  rw[hcv]at h1
  rw[hcz]at h2
  have hi:=h2.int_inv
  split at hr<;>try contradiction
  rename_i kv hbx
  obtain⟨b,hb,hu⟩:=h1.map_inv
  obtain⟨es,clock,hh,⟨kv0,hperm,hl,hes⟩,hnd,_⟩:=uz hrel hbx hb
  rw[←mK hperm hnd]at hr
  have hf:=uh (w:=w) (g:=g) .i64 i kv0 es.toList 0 (by simpa using hl) (fun j k d e p q=>hes j k d e p (by simpa using q))
  split at hr
  ·rename_i d0 hget
   injection hr with hr
   cases hr
   rw[hget]at hf
   obtain⟨m,v,hf1,hf2⟩:=hf
   refine⟨rfl,_,tail d0 true v hf2,fun w' hs=>?_⟩
   have hh':=(hs.box _ _ _ hbx hb).trans hh
   cases ok<;>simp[execOp,ho,hu,hi,Instr.lookup,run_underlying hT,getObj,Sem.run,hh',hck,Instr.findKey,run_underlying hK,hf1]
  ·rename_i hget
   injection hr with hr
   cases hr
   rw[hget]at hf
   refine⟨rfl,_,tail zd false zv (hzv w g),fun w' hs=>?_⟩
   have hh':=(hs.box _ _ _ hbx hb).trans hh
   simp only at hf
   cases ok<;>simp[execOp,ho,hu,hi,Instr.lookup,run_underlying hT,getObj,Sem.run,hh',hck,Instr.findKey,run_underlying hK,hf,hzr]
 ·rename_i i hcv hcz
  rw[hcv]at h1
  rw[hcz]at h2
  have hi:=h2.int_inv
  have hu:=h1.nilmap_inv
  injection hr with hr
  cases hr
  refine⟨rfl,_,tail zd false zv (hzv w g),fun w' hs=>?_⟩
  cases ok<;>simp[execOp,ho,hu,hi,Instr.lookup,run_underlying hT,hck,Instr.findKey,run_underlying hK,Instr.findNow,hzr]
end
end Go.Ev
