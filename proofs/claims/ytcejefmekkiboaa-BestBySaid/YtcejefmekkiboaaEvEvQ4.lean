/-
  A part of the evaluator.
-/
import Derived.Test.YtcejefmekkiboaaEvEvQ3
import Derived.Laws.StructEq
set_option linter.unusedVariables false
set_option linter.unusedSimpArgs false
set_option linter.unnecessarySimpa false
namespace Go.Ev
open Go.RowKit
section
variable {P:Program} {B:Nat} {w:World} {g:Ghost} {ρ:Nat→D} {st st':Store} {a:Act} {d:D} {o:Oper} {x:O}
theorem un {y:Operand} {k:Nat} (h:aT y=some (.lit (.slice .isnil k []))) (a:Act):a.eval y=.slice none 0 0:=by
 cases y with
 |tmp t=>simp[aT]at h
 |const v=>
  simp[aT]at h
  obtain⟨A,cap,vals,hu,_,hto,_⟩:=(fj v _ h (default:World) ⟨fun _ _=>False,fun _=>none,fun _=>none⟩).slice_inv
  obtain⟨rfl,_,rfl⟩:=hto
  exact hu
 |global n=>simp[aT]at h
 |func f=>simp[aT]at h
theorem HN {y:Operand} (h:aT y=some (.lit .nilptr)) (a:Act):a.eval y=.pointer none:=by
 cases y with
 |tmp t=>simp[aT]at h
 |const v=>
  simp[aT]at h
  exact(fj v .nilptr h (default:World) ⟨fun _ _=>False,fun _=>none,fun _=>none⟩).nilptr_inv
 |global n=>simp[aT]at h
 |func f=>simp[aT]at h
theorem cR {T e:TypeId} (hT:P.underlying T=some (.slice e)) (A:Option Addr) (l c:Nat) (w:World):(Op.equal T (.slice A l c) (.slice none 0 0)).run P w=.ok A.isNone w:=by
 show (Op.equalIn (9999+1) T (.slice A l c) (.slice none 0 0)).run P w=_
 unfold Op.equalIn
 cases A<;>simp[run_underlying hT]
theorem dV {T e:TypeId} (hT:P.underlying T=some (.pointer e)) (p:Option Addr) (w:World):(Op.equal T (.pointer p) (.pointer none)).run P w=.ok p.isNone w:=by
 show (Op.equalIn (9999+1) T (.pointer p) (.pointer none)).run P w=_
 unfold Op.equalIn
 cases p<;>simp[run_underlying hT]
theorem lR {T:TypeId} (hT:P.underlying T=some .bool) (p q:Bool) (w:World):(Op.equal T (.bool p) (.bool q)).run P w=.ok (p==q) w:=by
 show (Op.equalIn (9999+1) T (.bool p) (.bool q)).run P w=_
 unfold Op.equalIn
 simp[run_underlying hT]
/-! ### Structs and arrays of whole numbers -/
theorem lM (cs ds:List D):∀(xs ys:List Nat) (r:Bool),mK cs ds (xs++ys)=some r→∃a b,mK cs ds xs=some a∧mK cs ds ys=some b∧r=(a&&b)
 |[],ys,r,h=>⟨true,r,rfl,h,by simp⟩
 |x::xs,ys,r,h=>by
  simp only[List.cons_append,mK]at h ⊢
  split at h<;>try contradiction
  rename_i k p k' q e1 e2
  split at h<;>try contradiction
  rename_i hk
  simp only[Option.map_eq_some_iff]at h
  obtain⟨r',h',rfl⟩:=h
  obtain⟨a,b,h1,h2,rfl⟩:=lM cs ds xs ys r' h'
  rw[if_pos hk]
  exact⟨_,b,by rw[h1];rfl,h2,by simp[Bool.and_assoc]⟩
theorem Hv (T:TypeId) {s:Nat} (hs:eO P T=some s) {ag:Bool} (hag:bN P T=some ag) (h0:ag=false→s=1) (us:Array Value) (base z off:Nat) (h1:off+s≤z) (h2:base+z≤us.size) (w:World):
  (part T (us.extract base (base+z)) off).run P w=(part T us (base+off)).run P w:=by
 unfold part
 simp only[Sem.run_bind,cq hag,Result.andThen_ok]
 cases ag with
 |true=>
  simp only[if_true,Sem.run_bind,bO hs,Result.andThen_ok,Sem.run_pure]
  congr 2
  rw[Array.extract_extract]
  congr 1
  omega
 |false=>
  have:=h0 rfl
  subst this
  simp only[Bool.false_eq_true,if_false]
  rw[Array.getElem?_extract,if_pos (by omega)]
theorem tz:∀(n:Nat) (T:TypeId) (base:Nat) (offs:List Nat),fQ P n T base=some offs→∀{z:Nat},eO P T=some z→∀{cs ds:List D} {us vs:Array Value},
  cs.length=us.size→ds.length=vs.size→us.size=vs.size→base+z≤us.size→
  (∀(j:Nat) c v,cs[j]?=some c→us[j]?=some v→VR w g c v)→(∀(j:Nat) c v,ds[j]?=some c→vs[j]?=some v→VR w g c v)→
  ∀{r:Bool},mK cs ds offs=some r→∀(d:Nat),n≤d→(∃ag,bN P T=some ag∧(ag=false→z=1))∧∀w',∃p q,(part T us base).run P w'=.ok p w'∧(part T vs base).run P w'=.ok q w'∧(Op.equalIn d T p q).run P w'=.ok r w'
 |0,T,base,offs,h,z,hz,cs,ds,us,vs,_,_,_,_,_,_,r,_,d,_=>by simp[fQ]at h
 |n+1,T,base,offs,h,z,hz,cs,ds,us,vs,l1,l2,l3,hb,hu,hv,r,hr,d,hd=>by
  obtain⟨d,rfl⟩:∃m,d=m+1:=⟨d - 1,by omega⟩
  simp only[fQ]at h
  split at h<;>try contradiction
  · -- a whole number
    rename_i k hT
    split at h<;>try contradiction
    rename_i hz1
    rw[hz]at hz1
    cases hz1
    injection h with h
    subst h
    have hag:bN P T=some false:=by simp[bN,hT]
    refine⟨⟨false,hag,fun _=>rfl⟩,fun w'=>?_⟩
    simp only[mK]at hr
    split at hr<;>try contradiction
    rename_i k1 p k2 q e1 e2
    split at hr<;>try contradiction
    rename_i hk
    subst hk
    simp at hr
    subst hr
    have hub:us[base]?=some us[base]:=Array.getElem?_eq_getElem (by omega)
    have hvb:vs[base]?=some vs[base]:=Array.getElem?_eq_getElem (by omega)
    have h1:=(hu base _ _ e1 hub).int_inv
    have h2:=(hv base _ _ e2 hvb).int_inv
    refine⟨_,_,by simp[part,cq hag,hub];rfl,by simp[part,cq hag,hvb];rfl,?_⟩
    rw[h1,h2]
    exact run_equalIn_int w' d T k1 k p q hT
  · -- a struct
    rename_i fs hT
    split at h<;>try contradiction
    rename_i hst
    have hag:bN P T=some true:=by simp[bN,hT]
    refine⟨⟨true,hag,fun h=>by cases h⟩,fun w'=>⟨_,_,by simp[part,cq hag,bO hz];rfl,by simp[part,cq hag,bO hz];rfl,?_⟩⟩
    have hfo:P.fieldsOf T=fs:=by simp[Program.fieldsOf,hT]
    rw[run_equalIn_agg w' d T _ _ (by rw[hfo];exact hT) (by simpa using hst),hfo]
    simp only[Option.map_eq_some_iff]at h
    obtain⟨os,hos,rfl⟩:=h
    generalize fs.toList=l at hos
    clear hT hfo hst hag
    induction l generalizing os r with
    |nil=>
     simp at hos
     subst hos
     simp[mK]at hr
     subst hr
     simp[Op.eqFields]
    |cons f l ih=>
     simp only[List.mapM_cons,Option.pure_def,Option.bind_eq_bind,Option.bind_eq_some_iff]at hos
     obtain⟨o1,ho1,os',hos',h3⟩:=hos
     simp at h3
     subst h3
     simp only[List.flatten_cons]at hr
     obtain⟨b1,b2,e1,e2,rfl⟩:=lM cs ds _ _ r hr
     split at ho1<;>try contradiction
     rename_i hnm
     split at ho1<;>try contradiction
     rename_i s z' hs hz'
     rw[hz]at hz'
     cases hz'
     split at ho1<;>try contradiction
     rename_i hfit
     obtain⟨⟨ag,hag,hag0⟩,hrec⟩:=tz n f.type (base+f.offset) o1 ho1 hs l1 l2 l3 (by omega) hu hv e1 d (by omega)
     obtain⟨p,q,hp,hq,hpq⟩:=hrec w'
     have ih':=ih _ os' e2 hos'
     simp only[Op.eqFields,ne_eq,hnm,not_false_eq_true,if_true,Sem.run_bind]
     rw[Hv f.type hs hag hag0 us base z f.offset hfit hb w',hp]
     simp only[Result.andThen_ok,Sem.run_bind]
     rw[Hv f.type hs hag hag0 vs base z f.offset hfit (by omega) w',hq]
     simp only[Result.andThen_ok,Sem.run_bind,hpq]
     cases b1<;>simp[ih']
  · -- an array
    rename_i len e hT
    split at h<;>try contradiction
    rename_i s z' hs hz'
    rw[hz]at hz'
    cases hz'
    split at h<;>try contradiction
    rename_i hfit
    have hag:bN P T=some true:=by simp[bN,hT]
    refine⟨⟨true,hag,fun h=>by cases h⟩,fun w'=>⟨_,_,by simp[part,cq hag,bO hz];rfl,by simp[part,cq hag,bO hz];rfl,?_⟩⟩
    simp only[Option.map_eq_some_iff]at h
    obtain⟨os,hos,rfl⟩:=h
    unfold Op.equalIn
    simp only[Sem.run_bind,run_underlying hT,Result.andThen_ok,bO hs]
    simp only[Std.Legacy.Range.forIn_eq_forIn_range',Std.Legacy.Range.size,Nat.sub_zero,Nat.add_sub_cancel,Nat.div_one]
    rw[List.range_eq_range']at hos
    have key:∀(m i0:Nat),i0+m≤len→∀(os:List (List Nat)),(List.range' i0 m).mapM (fun i=>fQ P n e (base+i*s))=some os→∀(r:Bool),mK cs ds os.flatten=some r→
      (forIn (List.range' i0 m) ((none:Option Bool),()) (fun i (_:Option Bool×Unit)=>do
         let a ←part e (us.extract base (base+z)) (i*s)
         let b ←part e (vs.extract base (base+z)) (i*s)
         let t ←Op.equalIn d e a b
         if(!t)=true then pure (ForInStep.done (some false,()))else pure (ForInStep.yield (none,()))):Sem (Option Bool×Unit)).run P w'=.ok (if r then none else some false,()) w':=by
     intro m
     induction m with
     |zero=>
      intro i0 _ os hos r hr
      simp at hos
      subst hos
      simp[mK]at hr
      subst hr
      simp
     |succ m ih=>
      intro i0 hi os hos r hr
      rw[List.range'_succ]at hos ⊢
      simp only[List.mapM_cons,Option.pure_def,Option.bind_eq_bind,Option.bind_eq_some_iff]at hos
      obtain⟨o1,ho1,os',hos',h3⟩:=hos
      simp at h3
      subst h3
      simp only[List.flatten_cons]at hr
      obtain⟨b1,b2,e1,e2,rfl⟩:=lM cs ds _ _ r hr
      have hle:i0*s+s≤len*s:=by rw[←Nat.succ_mul];exact Nat.mul_le_mul_right _ (by omega)
      obtain⟨⟨ag,hag',hag0⟩,hrec⟩:=tz n e (base+i0*s) o1 ho1 hs l1 l2 l3 (by omega) hu hv e1 d (by omega)
      obtain⟨p,q,hp,hq,hpq⟩:=hrec w'
      have ih':=ih (i0+1) (by omega) os' hos' _ e2
      simp only[List.forIn_cons,Sem.run_bind]
      rw[Hv e hs hag' hag0 us base z (i0*s) (by omega) hb w',hp]
      simp only[Result.andThen_ok,Sem.run_bind]
      rw[Hv e hs hag' hag0 vs base z (i0*s) (by omega) (by omega) w',hq]
      simp only[Result.andThen_ok,Sem.run_bind,hpq]
      cases b1
      ·simp
      ·simp only[Bool.not_true,Bool.false_eq_true,if_false,Sem.run_pure,Result.andThen_ok,Bool.true_and]
       exact ih'
    have:=key len 0 (by omega) os hos r hr
    erw [this]
    cases r<;>simp
theorem CK {op:BinOp} {T T':TypeId} {y z:Operand} (ho:o.op=.binOp op T y z T') (hc:aq P o.op=some x) (hr:x.run ρ st=some (d,st')) (he:EnvR w g ρ a.tmps):st'=st∧QG P w g st (execOp a.eval o) d:=by
 rw[ho]at hc
 simp only[aq,Option.bind_eq_bind,Option.bind_eq_some_iff]at hc
 obtain⟨y',hy,z',hz,hc⟩:=hc
 have h1:=co he hy
 have h2:=co he hz
 have BC:∀(ng:Bool) (sz:Nat) (offs:List Nat),fQ P 20 T 0=some offs→P.eqGuardType P.depth T=false→(op=if ng then .neq else .eql)→eO P T=some sz→x=.eqlP ng sz offs y' z'→bN P T=some true→st'=st∧QG P w g st (execOp a.eval o) d:=by
  intro ng sz offs ho1 hg1 hop hsz hx hag
  subst hx
  simp only[O.run]at hr
  split at hr<;>try contradiction
  rename_i p q e1 e2
  split at hr<;>try contradiction
  rename_i hl
  obtain⟨hl1,hl2⟩:=hl
  simp only[Option.map_eq_some_iff]at hr
  obtain⟨r,hr,hd⟩:=hr
  cases hd
  rw[e1]at h1
  rw[e2]at h2
  obtain⟨us,hu,lu,_,vu⟩:=h1.agg_inv
  obtain⟨vs,hv,lv,_,vv⟩:=h2.agg_inv
  obtain⟨_,hrec⟩:=tz 20 T 0 offs ho1 hsz lu lv (by omega) (by omega) vu vv hr 10000 (by omega)
  have he1:us.extract 0 sz=us:=by rw[show sz=us.size by omega];simp
  have he2:vs.extract 0 sz=vs:=by rw[show sz=vs.size by omega];simp
  have hrun:∀w',(Op.equalIn 10000 T (.agg us) (.agg vs)).run P w'=.ok r w':=fun w'=>by
   obtain⟨p',q',hp,hq,h⟩:=hrec w'
   simp[part,cq hag,bO hsz,he1]at hp
   simp[part,cq hag,bO hsz,he2]at hq
   rw[←hp,←hq]at h
   exact h
  refine⟨rfl,_,.bool _,fun w' _=>?_⟩
  cases ng
  ·simp at hop
   subst hop
   simp[execOp,ho,hu,hv,run_eqGuard_agg w' .eql T y z us vs hg1,run_eql_struct w' T us vs,hrun]
  ·simp at hop
   subst hop
   simp[execOp,ho,hu,hv,run_eqGuard_agg w' .neq T y z us vs hg1,run_neq_struct w' T us vs,hrun]
 split at hc<;>try contradiction
 · -- == of bools
   rename_i hT
   injection hc with hc
   subst hc
   simp only[O.run]at hr
   split at hr<;>try contradiction
   rename_i p q e1 e2
   simp at hr
   obtain⟨rfl,rfl⟩:=hr
   rw[e1]at h1
   rw[e2]at h2
   have h1:=h1.bool_inv
   have h2:=h2.bool_inv
   exact⟨rfl,_,.bool _,fun w' _=>by simp[execOp,ho,h1,h2,kg,binOp,lR hT]⟩
 ·rename_i hT
  injection hc with hc
  subst hc
  simp only[O.run]at hr
  split at hr<;>try contradiction
  rename_i p q e1 e2
  simp at hr
  obtain⟨rfl,rfl⟩:=hr
  rw[e1]at h1
  rw[e2]at h2
  have h1:=h1.bool_inv
  have h2:=h2.bool_inv
  exact⟨rfl,_,.bool _,fun w' _=>by simp[execOp,ho,h1,h2,kg,binOp,lR hT];cases p<;>cases q<;>rfl⟩
 · -- == nil
   rename_i e hT
   split at hc<;>try contradiction
   injection hc with hc
   subst hc
   have h2:=HN hz a
   simp only[O.run]at hr
   split at hr<;>try contradiction
   all_goals
    rename_i e1
    simp at hr
    obtain⟨rfl,rfl⟩:=hr
    rw[e1]at h1
   ·have h1:=h1.nilptr_inv
    exact⟨rfl,_,.bool _,fun w' _=>by simp[execOp,ho,h1,h2,fe,binOp,dV hT]⟩
   ·obtain⟨b,_,h1⟩:=VR.ptr_inv h1
    exact⟨rfl,_,.bool _,fun w' _=>by simp[execOp,ho,h1,h2,fe,binOp,dV hT]⟩
 ·rename_i e hT
  split at hc<;>try contradiction
  injection hc with hc
  subst hc
  have h2:=HN hz a
  simp only[O.run]at hr
  split at hr<;>try contradiction
  all_goals
   rename_i e1
   simp at hr
   obtain⟨rfl,rfl⟩:=hr
   rw[e1]at h1
  ·have h1:=h1.nilptr_inv
   exact⟨rfl,_,.bool _,fun w' _=>by simp[execOp,ho,h1,h2,fe,binOp,dV hT]⟩
  ·obtain⟨b,_,h1⟩:=VR.ptr_inv h1
   exact⟨rfl,_,.bool _,fun w' _=>by simp[execOp,ho,h1,h2,fe,binOp,dV hT]⟩
 iterate 2
  · -- a slice, with nil
    rename_i e hT
    split at hc<;>try contradiction
    injection hc with hc
    subst hc
    have h2:=un hz a
    simp only[O.run]at hr
    split at hr<;>try contradiction
    ·rename_i e1
     simp at hr
     obtain⟨rfl,rfl⟩:=hr
     rw[e1]at h1
     obtain⟨A,cap,vals,hu,_,hto,_⟩:=h1.slice_inv
     obtain⟨hA,_,_⟩:=hto
     subst hA
     exact⟨rfl,_,.bool _,fun w' _=>by simp[execOp,ho,hu,h2,dY,binOp,cR hT]⟩
    ·rename_i e1
     simp at hr
     obtain⟨rfl,rfl⟩:=hr
     rw[e1]at h1
     obtain⟨A,cap,vals,hu,_,hto,_⟩:=h1.slice_inv
     cases A with
     |none=>exact absurd rfl hto
     |some A=>exact⟨rfl,_,.bool _,fun w' _=>by simp[execOp,ho,hu,h2,dY,binOp,cR hT]⟩
    ·rename_i t0 sz q1 q2 _ _ e1
     split at hr<;>try contradiction
     rename_i hz0
     simp at hr
     obtain⟨rfl,rfl⟩:=hr
     rw[e1]at h1
     obtain⟨A,cap,vals,hu,_,hto,hs,hA,_⟩:=h1.slice_inv
     obtain⟨ad,rfl,_⟩:=hA 0 q1 0 (q1.cells[0]'(by rw[(hs 0 q1 rfl).1];exact hz0)) rfl (List.getElem?_eq_getElem _)
     exact⟨rfl,_,.bool _,fun w' _=>by simp[execOp,ho,hu,h2,dY,binOp,cR hT]⟩
    ·rename_i e1
     simp at hr
     obtain⟨rfl,rfl⟩:=hr
     rw[e1]at h1
     obtain⟨b,o',cap,vs,T',hu,_⟩:=h1.rs_inv
     exact⟨rfl,_,.bool _,fun w' _=>by simp[execOp,ho,hu,h2,dY,binOp,cR hT]⟩
 iterate 4
  ·rename_i hT
   split at hc<;>try contradiction
   rename_i hg1
   split at hc<;>try contradiction
   rename_i offs sz ho1 hsz
   injection hc with hc
   first
   |exact BC false sz offs ho1 (by simpa using hg1) rfl hsz hc.symm (by simp[bN,hT])
   |exact BC true sz offs ho1 (by simpa using hg1) rfl hsz hc.symm (by simp[bN,hT])
 · -- whole numbers
   injection hc with hc
   subst hc
   simp only[O.run,Option.map_eq_some_iff]at hr
   obtain⟨d',hd,he2⟩:=hr
   cases he2
   obtain⟨r,hr1,⟨k,n,hk⟩,hr2⟩:=E0 P _ T hd h1 h2
   exact⟨rfl,r,hr1,fun w' _=>by simp[execOp,ho,hk,HK];rw[←hk,hr2];rfl⟩
end
end Go.Ev
