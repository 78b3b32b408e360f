/-
  The evaluator is right: operations, regions, code, calls.
-/
import Derived.Test.YtcejefmekkiboaaEvEvR
import Derived.Deep.Quiet
set_option linter.unusedVariables false
set_option linter.unusedSimpArgs false
set_option linter.unnecessarySimpa false
namespace Go.Ev
open Go.RowKit
section
variable {P:Program} {B:Nat} {w w' w1:World} {g g' g1:Ghost} {ρ ρ':Nat→D} {st st' st1:Store} {a:Act} {d:D} {o:Oper} {x:O}
theorem DR {α:Type} {m:Option α} {f:α→Option O} (h:∀a,f a=some x→x.quiet=true):m.bind f=some x→x.quiet=true:=fun e=>by
 obtain⟨a,_,h2⟩:=Option.bind_eq_some_iff.1 e
 exact h a h2
theorem Gm {α:Type} {m:Option α} {f:α→O} (h:∀a,(f a).quiet=true):m.map f=some x→x.quiet=true:=fun e=>by
 obtain⟨a,_,h2⟩:=Option.map_eq_some_iff.1 e
 rw[←h2]
 exact h a
def wk:Op→Bool
 | .alloc _| .box .. | .buildSlice .. | .store .. | .makeMap .. | .mapUpdate .. | .insert .. | .range .. | .next .. | .entry .. =>true
 | .call c=>(match c.callee with| .builtin .append| .builtin .clear=>true|_=>false)
 |_=>false
theorem wG {b:Builtin} {args:List Operand} {tys:List TypeId} (h1:b≠.append) (h2:b≠.clear):kn P b args tys=some x→x.quiet=true:=by
 cases b<;>(try (exact absurd rfl h1))<;>(try (exact absurd rfl h2))<;>simp only[kn,mG,mD,Option.bind_eq_bind]<;>
  repeat' first
   |(intro h;cases h;done)
   |(intro h;cases h;rfl)
   |(apply DR;intro _)
   |(apply Gm;intro _;rfl)
   |split
theorem oq {op:Op} (hn:wk op=false):aq P op=some x→x.quiet=true:=by
 by_cases hb:∃c b,op=.call c∧c.callee=.builtin b
 ·obtain⟨c,b,rfl,hcb⟩:=hb
  simp only[aq,hcb]
  refine wG (fun e=>?_) (fun e=>?_)<;>(subst e;simp[wk,hcb]at hn)
 cases op<;>(try (simp[wk]at hn;done))<;>simp only[aq,Option.bind_eq_bind]<;>
  repeat' first
   |(intro h;cases h;done)
   |(intro h;cases h;rfl)
   |(apply DR;intro _)
   |(apply Gm;intro _;rfl)
   |(simp[wk]at hn;done)
   |(exact absurd ⟨_,_,rfl,by assumption⟩ hb)
   |(simp_all[wk];done)
   |split
theorem xS {s:Sem Next} (h:QG P w g st s d) (hrel:Rel B w g st):rJ P B w g st s d st:=by
 obtain⟨v,h1,h2⟩:=h
 exact⟨.value v,v,w,g,h2 w (.refl _ _ _),.inl rfl,h1,.refl hrel⟩
def O.isAppend:O→Bool
 | .append _ _ _ _=>true
 |_=>false
theorem FV {α:Type} {m:Option α} {f:α→Option O} (h:∀a,f a=some x→x.isAppend=false):m.bind f=some x→x.isAppend=false:=fun e=>by
 obtain⟨a,_,h2⟩:=Option.bind_eq_some_iff.1 e
 exact h a h2
theorem Gl {α:Type} {m:Option α} {f:α→O} (h:∀a,(f a).isAppend=false):m.map f=some x→x.isAppend=false:=fun e=>by
 obtain⟨a,_,h2⟩:=Option.map_eq_some_iff.1 e
 rw[←h2]
 exact h a
def ry:Op→Bool
 | .call _=>true
 |_=>false
theorem wi {op:Op} (hn:ry op=false):aq P op=some x→x.isAppend=false:=by
 cases op<;>(try (simp[ry]at hn;done))<;>simp only[aq,Option.bind_eq_bind]<;>
  repeat' first
   |(intro h;cases h;done)
   |(intro h;cases h;rfl)
   |(apply FV;intro _)
   |(apply Gl;intro _;rfl)
   |(simp_all;done)
   |split
theorem CD {op:Op} (ho:o.op=op) (hc:aq P o.op=some x) (hn:ry op=false):∀sz by_ y z,x≠.append sz by_ y z:=fun sz by_ y z e=>by
 rw[ho]at hc
 have:=wi hn hc
 subst e
 simp[O.isAppend]at this
theorem uJ {mv:Bool} (hncall:∀f as,x≠.call f as) (hc:aq P o.op=some x) (hr:x.runM mv ρ st=some (d,st')) (he:EnvR w g ρ a.tmps) (hrel:Rel B w g st):rJ P B w g st (execOp a.eval o) d st':=by
 have hnm:(∀sz by_ y z,x≠.append sz by_ y z)→x.run ρ st=some (d,st'):=fun h=>by
  unfold O.runM at hr
  split at hr
  ·exact absurd rfl (h _ _ _ _)
  ·exact hr
 by_cases hl:wk o.op=false
 ·have hq:=oq hl hc
  have hr:=hnm (fun sz by_ y z e=>by subst e;simp[O.quiet]at hq)
  obtain⟨h1,h2⟩:=Bt (oq hl hc) hncall hc hr he hrel
  subst h1
  exact xS h2 hrel
 ·cases hop:o.op with
  |alloc t=>exact Dp hop hc (hnm (CD hop hc rfl)) hrel
  |box t y=>exact Gh hop hc (hnm (CD hop hc rfl)) he hrel
  |buildSlice t n ps=>exact Ci hop hc (hnm (CD hop hc rfl)) he hrel
  |store t y z=>exact CY hop hc (hnm (CD hop hc rfl)) he hrel
  |makeMap t r=>exact C0 hop hc (hnm (CD hop hc rfl)) hrel
  |mapUpdate t m k v=>exact vX (.inl hop) hc (hnm (CD hop hc rfl)) he hrel
  |insert t m k v=>exact vX (.inr hop) hc (hnm (CD hop hc rfl)) he hrel
  |range t y=>exfalso;have hr:=hnm (CD hop hc rfl);rw[hop]at hc;obtain⟨_,_,rfl⟩:=la hc;simp[O.run]at hr
  |next y b=>exfalso;have hr:=hnm (CD hop hc rfl);rw[hop]at hc;obtain⟨_,_,rfl,_⟩:=kx hc;simp[O.run]at hr
  |entry y=>exfalso;have hr:=hnm (CD hop hc rfl);rw[hop]at hc;obtain⟨_,_,rfl⟩:=Hx hc;simp[O.run]at hr
  |call c=>
   by_cases hcl:c.callee=.builtin .clear
   ·exact Db hop hcl hc (hnm (fun sz by_ y z e=>by
     subst e
     rw[hop]at hc
     simp only[aq,hcl,kn,Io,Option.bind_eq_bind]at hc
     split at hc<;>try contradiction
     split at hc<;>try contradiction
     simp only[Option.bind_eq_some_iff,Option.some.injEq]at hc
     obtain⟨_,_,_,_,h⟩:=hc
     cases h)) he hrel
   ·refine A7 hop ?_ hc hr he hrel
    rw[hop]at hl
    simp only[wk]at hl
    split at hl
    ·assumption
    ·exact absurd (by assumption) hcl
    ·simp at hl
  |_=>rw[hop]at hl;simp[wk]at hl
/-! ### Frames -/
theorem EnvR.put (he:EnvR w g ρ a.tmps) {v:Value} (hv:VR w g d v) {dst:Option Nat} {nt:Nat} (hs:nt≤a.tmps.size) (hd:dst.any (fun d=>decide (nt≤d))=false):EnvR w g (cy ρ dst d) (a.put dst v).tmps:=by
 intro t
 cases dst with
 |none=>exact he t
 |some k=>
  simp only[Option.any_some,decide_eq_false_iff_not,Nat.not_le]at hd
  by_cases e:t=k
  ·subst e
   simp only[cy,ae,Act.put]
   simpa[Array.getD,show t<a.tmps.size by omega]using hv
  ·simp only[cy,ab _ _ e,Act.put]
   have:(a.tmps.setIfInBounds k v).getD t Go.undef=a.tmps.getD t Go.undef:=by
    simp[Array.getElem?_setIfInBounds,Ne.symm e]
   rw[this]
   exact he t
theorem EnvR.mono (e:Ext B w g w' g') {T:Array Value} (h:EnvR w g ρ T):EnvR w' g' ρ T:=fun t=>(h t).mono e
theorem lV (a:Act) (dst:Option Nat) (v:Value):(a.put dst v).tmps.size=a.tmps.size:=by cases dst<;>simp[Act.put]
theorem Hw (a:Act) (dst:Option Nat) (v:Value):(a.put dst v).defers=a.defers:=by cases dst<;>rfl
theorem VRs.strip {ds:List D} {vs:List Value} (h:VRs w g ds vs):VRs w g (ds.map D.strip) vs:=⟨by simpa using h.1,fun j d v p q=>by
 simp only[List.getElem?_map,Option.map_eq_some_iff]at p
 obtain⟨d0,h0,rfl⟩:=p
 exact(h.2 j d0 v h0 q).strip⟩
theorem VRs.append {ds ds':List D} {vs vs':List Value} (h:VRs w g ds vs) (h':VRs w g ds' vs'):VRs w g (ds++ds') (vs++vs'):=⟨by simp[h.1,h'.1],fun j d v p q=>by
 rw[List.getElem?_append]at p q
 rw[←h.1]at q
 split at p
 ·rename_i hlt;rw[if_pos hlt]at q;exact h.2 j d v p q
 ·rename_i hlt;rw[if_neg hlt]at q;exact h'.2 _ d v p q⟩
theorem EnvR.enter_ {ds:List D} {vs:Array Value} (h:VRs w g ds vs.toList) (k:Nat):EnvR w g (enter ds) (vs++Array.replicate k Go.undef):=by
 intro t
 have hl:ds.length=vs.size:=by simpa using h.1
 by_cases ht:t<ds.length
 ·have h1:ds[t]?=some ds[t]:=List.getElem?_eq_getElem ht
  have h2:vs[t]?=some (vs[t]'(by omega)):=Array.getElem?_eq_getElem _
  have:=h.2 t _ _ h1 (by rw[Array.getElem?_toList];exact h2)
  have e:(vs++Array.replicate k Go.undef).getD t Go.undef=vs[t]'(by omega):=by
   simp[Array.getD,show t<vs.size+k by omega,Array.getElem_append_left (show t<vs.size by omega)]
  rw[e,enter,List.getD,h1]
  exact this
 ·have e:(vs++Array.replicate k Go.undef).getD t Go.undef=Go.undef:=by
   by_cases h':t<vs.size+k
   ·simp[Array.getD,h',Array.getElem_append_right (show vs.size≤t by omega)]
   ·simp[Array.getD,h']
  rw[e,enter,List.getD,List.getElem?_eq_none (by omega)]
  exact .undef
/-! ### Guards -/
theorem dK {mu:List Nat} {ops:Array Oper} {nt:Nat} {o1:Op1} (hc:iV P mu nt ops o=some o1) (he:EnvR w g ρ a.tmps) {b:Bool} (hg:ao ρ o1.guard=some b) (hnb:b=true→o1.op≠.bad):
  Region.wanted o (yielded ops a.tmps)=b∧(b=true→aq P o.op=some o1.op)∧o1.dst=o.dst∧o.dst.any (fun d=>decide (nt≤d))=false:=by
 unfold iV at hc
 split at hc
 ·cases hc
  simp only[ao,Option.some.injEq]at hg
  exact absurd rfl (hnb hg.symm)
 rename_i hd
 have hd':o.dst.any (fun d=>decide (nt≤d))=false:=by simpa using hd
 have hop:b=true→(aq P o.op).getD .bad≠.bad→aq P o.op=some ((aq P o.op).getD .bad):=fun _ h=>by
  cases hx:aq P o.op with
  |none=>simp[hx]at h
  |some x=>rfl
 cases hgd:o.guard with
 |none=>
  simp only[hgd,Option.some.injEq]at hc
  subst hc
  simp only[ao,Option.some.injEq]at hg
  subst hg
  exact⟨by simp[Region.wanted,hgd],fun h=>hop h (hnb h),rfl,hd'⟩
 |some q=>
  obtain⟨j,want⟩:=q
  simp only[hgd]at hc
  split at hc
  case h_2=>
   cases hc
   simp only[ao,Option.some.injEq]at hg
   exact absurd rfl (hnb hg.symm)
  rename_i k hk
  simp only[Option.some.injEq]at hc
  subst hc
  refine⟨?_,fun h=>hop h (hnb h),rfl,hd'⟩
  simp only[ao]at hg
  simp only[Region.wanted,hgd,yielded,hk,Option.bind_some]
  have h1:=he k
  split at hg
  ·rename_i b' hb'
   rw[hb']at h1
   have h2:=h1.bool_inv
   have h3:a.tmps[k]?=some (.bool b'):=by
    by_cases hlt:k<a.tmps.size
    ·simp[Array.getD,hlt]at h2;simp[hlt,h2]
    ·simp[Array.getD,hlt,Go.undef]at h2
   simp only[h3]
   simpa using hg
  ·rename_i hb'
   rw[hb']at h1
   have h2:=h1.undef_inv
   cases hg
   cases h3:a.tmps[k]? with
   |none=>simp
   |some u=>
    have hlt:=(Array.getElem?_eq_some_iff.1 h3).1
    have:u=Go.undef:=by
     have h4:=(Array.getElem?_eq_some_iff.1 h3).2
     rw[←h4]
     simpa[Array.getD,hlt]using h2
    subst this
    simp[Go.undef]
  ·cases hg
/-! ### What is known of the functions -/
def Hj (P:Program) (f:FuncId):Prop:=∃fn,P.funcs[f]?=some fn∧(fn.name== "runtime.NumGoroutine")=false∧fn.body.isNone=false
def kL (B:Nat) (w:World) (g:Ghost) (st:Store) (r:D) (st':Store):Ending→World→Prop:=fun e w'=>∃v g',e=.returned v∧VR w' g' r v∧Step B w g st w' g' st'
structure PrimOK (P:Program) (f:FuncId) (F:List D→Option D):Prop where
 enters:Hj P f
 calls:∀(B:Nat) (w:World) (g:Ghost) (st:Store) (ds:List D) (vs:Array Value) (r:D),Rel B w g st→VRs w g ds vs.toList→F ds=some r→Calls P f vs w (ei B w g st r)
structure PrimSOK (P:Program) (f:FuncId) (F:List D→Store→Option (D×Store)):Prop where
 enters:Hj P f
 calls:∀(B:Nat) (w:World) (g:Ghost) (st:Store) (ds:List D) (vs:Array Value) (r:D) (st':Store),Rel B w g st→VRs w g ds vs.toList→F ds st=some (r,st')→Calls P f vs w (kL B w g st r st')
def GX (P:Program) (f:FuncId):FD→Prop
 | .code cf=>aG P f cf.ro cf.mv=some cf
 | .prim F=>PrimOK P f F
 | .primS F=>PrimSOK P f F
def Known (P:Program) (Γ:Nat→Option FD):Prop:=∀f fd,Γ f=some fd→GX P f fd
theorem dm {f:FuncId} {ro:Bool} {mu:List Nat} {cf:CF} (h:aG P f ro mu=some cf):∃fn c,P.funcs[f]?=some fn∧fn.body=some c∧Hj P f∧aV P mu fn.ntmps c=some cf.body∧fn.results.toList.mapM (qW P)=some cf.res:=by
 unfold aG at h
 split at h<;>try contradiction
 rename_i fn hfn
 split at h<;>try contradiction
 rename_i c hc
 split at h<;>try contradiction
 rename_i hn
 split at h<;>try contradiction
 rename_i b rs hb hrs
 cases h
 exact⟨fn,c,hfn,hc,⟨fn,hfn,by simpa using hn,by simp[hc]⟩,hb,hrs⟩
theorem tx {f:FuncId} (h:Hj P f) (args:Array Value) (w:World):(callFunc f args).run P w=.ok (.enter f args) w:=by
 obtain⟨fn,h1,h2,h3⟩:=h
 have h2':fn.name≠ "runtime.NumGoroutine" :=by simpa using h2
 have h3':fn.body≠none:=by intro e;simp[e]at h3
 simp[callFunc,h1,h2',h3']
theorem Ck {c:Call} (ho:o.op=.call c) {f:Operand} (hf:c.callee=.value f) {k:Nat} {caps:Array Value} (hv:a.eval f=.func (.func k) #[] caps) (h:Hj P k) (w:World):
  (execOp a.eval o).run P w=.ok (.enter k (c.args.map a.eval++caps)) w:=by
 simp[execOp,ho,resolve,hf,hv,Deferred.ofValue,invoke,tx h]
/-! ### One operation of a region -/
theorem vH {Γ:Nat→Option FD} {n:Nat} {draw:Bool} {o1:Op1} {l:List Op1} {R:(Nat→D)×Store} (h:bt Γ (n+1) draw (o1::l) ρ st=some R):
  (ao ρ o1.guard=some false∧bt Γ n draw l (cy ρ o1.dst .undef) st=some R)∨
  (ao ρ o1.guard=some true∧∃d st1,bt Γ n draw l (cy ρ o1.dst d) st1=some R∧
   (((∀f as,o1.op≠.call f as)∧o1.op.runM o1.mv ρ st=some (d,st1))∨
    (∃f as k caps,o1.op=.call f as∧f.ev ρ=.func k caps∧
     ((∃r,bs Γ n k (as.map (·.ev ρ)++caps) st=some r∧((draw=true∧r.ground=true∧d=r∧st1=st)∨(draw=false∧(d,st1)=aw o1.mv r st)))∨
      (draw=false∧aQ Γ n k (as.map (·.ev ρ)++caps) st=some (d,st1)))))):=by
 have e:bt Γ (n+1) draw (o1::l) ρ st=
   (match ao ρ o1.guard with
   |none=>none
   |some false=>bt Γ n draw l (cy ρ o1.dst .undef) st
   |some true=>
    match (match o1.op with
     | .call f args=>match f.ev ρ with
       | .func f caps=>match bs Γ n f (args.map (·.ev ρ)++caps) st with
         |some r=>if draw then(if r.ground then some (r,st)else none)else some (aw o1.mv r st)
         |none=>if draw then none else aQ Γ n f (args.map (·.ev ρ)++caps) st
       |_=>none
     |op=>op.runM o1.mv ρ st)with
    |some (d,st')=>bt Γ n draw l (cy ρ o1.dst d) st'
    |none=>none):=by
  obtain⟨dst,gd,mv,op⟩:=o1
  cases gd<;>cases dst<;>rfl
 rw[e]at h
 split at h
 ·cases h
 ·rename_i hg
  exact .inl ⟨hg,h⟩
 ·rename_i hg
  refine .inr ⟨hg,?_⟩
  split at h
  ·rename_i d st1 hop
   refine⟨d,st1,h,?_⟩
   split at hop
   ·rename_i f as hcall
    right
    split at hop
    ·rename_i k caps hf
     refine⟨f,as,k,caps,hcall,hf,?_⟩
     split at hop
     ·rename_i r hro
      refine .inl ⟨r,hro,?_⟩
      cases draw with
      |true=>
       simp only[if_true]at hop
       split at hop
       ·rename_i hgr
        cases hop
        exact .inl ⟨rfl,hgr,rfl,rfl⟩
       ·cases hop
      |false=>
       simp only[Bool.false_eq_true,if_false,Option.some.injEq]at hop
       exact .inr ⟨rfl,hop.symm⟩
     ·cases draw with
      |true=>simp at hop
      |false=>exact .inr ⟨rfl,by simpa using hop⟩
    ·cases hop
   ·rename_i op hcall
    exact .inl ⟨fun f as e=>hcall f as e,hop⟩
  ·cases h
def O.isCall:O→Bool
 | .call _ _=>true
 |_=>false
def oN:Op→Bool
 | .call c=>(match c.callee with| .value _=>true|_=>false)
 |_=>false
theorem DW {α:Type} {m:Option α} {f:α→Option O} (h:∀a,f a=some x→x.isCall=false):m.bind f=some x→x.isCall=false:=fun e=>by
 obtain⟨a,_,h2⟩:=Option.bind_eq_some_iff.1 e
 exact h a h2
theorem FN {α:Type} {m:Option α} {f:α→O} (h:∀a,(f a).isCall=false):m.map f=some x→x.isCall=false:=fun e=>by
 obtain⟨a,_,h2⟩:=Option.map_eq_some_iff.1 e
 rw[←h2]
 exact h a
theorem wN {b:Builtin} {args:List Operand} {tys:List TypeId}:kn P b args tys=some x→x.isCall=false:=by
 cases b<;>simp only[kn,mG,mD,Io,gD,Option.bind_eq_bind]<;>
  repeat' first
   |(intro h;cases h;done)
   |(intro h;cases h;rfl)
   |(apply DW;intro _)
   |(apply FN;intro _;rfl)
   |split
theorem tR {op:Op} (hn:oN op=false):aq P op=some x→x.isCall=false:=by
 by_cases hb:∃c b,op=.call c∧c.callee=.builtin b
 ·obtain⟨c,b,rfl,hcb⟩:=hb
  simp only[aq,hcb]
  exact wN
 cases op<;>simp only[aq,Option.bind_eq_bind]<;>
  repeat' first
   |(intro h;cases h;done)
   |(intro h;cases h;rfl)
   |(apply DW;intro _)
   |(apply FN;intro _;rfl)
   |(simp[oN]at hn;done)
   |(exact absurd ⟨_,_,rfl,by assumption⟩ hb)
   |(simp_all[oN];done)
   |split
theorem B3 {f:A} {as:List A} (hc:aq P o.op=some (.call f as)):∃c fo,o.op=.call c∧c.callee=.value fo∧aT fo=some f∧kF c.args.toList=some as:=by
 by_cases h:∃c fo,o.op=.call c∧c.callee=.value fo
 ·obtain⟨c,fo,h1,h2⟩:=h
  rw[h1]at hc
  simp only[aq,h2,Option.bind_eq_bind,Option.bind_eq_some_iff,Option.some.injEq]at hc
  obtain⟨f',h3,as',h4,h5⟩:=hc
  cases h5
  exact⟨c,fo,h1,h2,h3,h4⟩
 ·exfalso
  by_cases hv:oN o.op=false
  ·have:=tR hv hc
   simp[O.isCall]at this
  ·cases hop:o.op with
   |call c=>
    rw[hop]at hv
    simp only[oN]at hv
    split at hv
    ·rename_i fo hfo
     exact h ⟨c,fo,hop,hfo⟩
    ·simp at hv
   |_=>rw[hop]at hv;simp[oN]at hv
theorem pJ {f:Nat} {cs:List D} {v:Value} (h:VR w g (.func f cs) v):∃vs:Array Value,v=.func (.func f) #[] vs∧VRs w g cs vs.toList:=by
 cases h with
 |func f cs vs hl hv=>exact⟨vs,rfl,by simpa using hl,fun j d v p q=>hv j d v p (by simpa using q)⟩
theorem pv {f:A} {as:List A} {k:Nat} {caps:List D} (hc:aq P o.op=some (.call f as)) (he:EnvR w g ρ a.tmps) (hf:f.ev ρ=.func k caps):
  ∃vs:Array Value,VRs w g (as.map (·.ev ρ)++caps) vs.toList∧(Hj P k→∀w',(execOp a.eval o).run P w'=.ok (.enter k vs) w'):=by
 obtain⟨c,fo,h1,h2,h3,h4⟩:=B3 hc
 have h5:=co he h3
 rw[hf]at h5
 obtain⟨cv,h6,h7⟩:=pJ h5
 refine⟨c.args.map a.eval++cv,?_,fun hE w'=>Ck h1 h2 h6 hE w'⟩
 rw[Array.toList_append,Array.toList_map]
 exact(rR he h4).append h7
end
end Go.Ev
