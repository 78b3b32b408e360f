/-
  A part of the evaluator.
-/
import Derived.Test.YtcejefmekkiboaaEvEvQ4
import Derived.Laws.Tables
set_option linter.unusedVariables false
set_option linter.unusedSimpArgs false
set_option linter.unnecessarySimpa false
namespace Go.Ev
open Go.RowKit
section
variable {P:Program} {B:Nat} {w:World} {g:Ghost} {ρ:Nat→D} {st st':Store} {a:Act} {d:D} {o:Oper} {x:O}
theorem wL (off:Nat):∀(l:List Value) (j0:Nat) (cells:Array Value),off+j0+l.length≤cells.size→
  ((l.zipIdx j0).foldl (fun(cs:Array Value) (p:Value×Nat)=>cs.setIfInBounds (off+p.2) p.1) cells).size=cells.size∧
  ∀k,((l.zipIdx j0).foldl (fun(cs:Array Value) (p:Value×Nat)=>cs.setIfInBounds (off+p.2) p.1) cells)[k]?=if off+j0≤k∧k<off+j0+l.length then l[k - (off+j0)]? else cells[k]?
 |[],j0,cells,h=>by
  refine⟨rfl,fun k=>?_⟩
  rw[if_neg (by simp only[List.length_nil];omega)]
  rfl
 |v::l,j0,cells,h=>by
  simp only[List.length_cons]at h
  obtain⟨h1,h2⟩:=wL off l (j0+1) (cells.setIfInBounds (off+j0) v) (by rw[Array.size_setIfInBounds];omega)
  refine⟨by simpa[List.zipIdx_cons]using h1,fun k=>?_⟩
  have:=h2 k
  simp only[List.zipIdx_cons,List.foldl_cons,List.length_cons]
  rw[this]
  by_cases hk:k=off+j0
  ·subst hk
   rw[if_neg (by omega),if_pos (by omega),Array.getElem?_setIfInBounds_self_of_lt (by omega),Nat.sub_self]
   rfl
  ·by_cases hin:off+(j0+1)≤k∧k<off+(j0+1)+l.length
   ·rw[if_pos hin,if_pos (by omega)]
    obtain⟨m,hm⟩:∃m,k - (off+j0)=m+1:=⟨k - (off+j0) - 1,by omega⟩
    rw[hm,List.getElem?_cons_succ,show k - (off+(j0+1))=m by omega]
   ·rw[if_neg hin,if_neg (by omega)]
    rw[Array.getElem?_setIfInBounds_ne (by omega)]
theorem tL (place:Nat→Option (Nat×Nat)):∀(fs:List (Nat×Nat×D)) (ps:List (Nat×Value)) (cs cs':List D) (arr:Array Value),jt fs cs=some cs'→fs.length=ps.length→
  (∀(j:Nat) f p,fs[j]?=some f→ps[j]?=some p→place p.1=some (f.1,f.2.1)∧VR w g f.2.2 p.2)→
  cs.length=arr.size→(∀c∈cs,c.one=true)→(∀(j:Nat) c v,cs[j]?=some c→arr[j]?=some v→VR w g c v)→
  ∃arr',Instr.fill place arr ps=some arr'∧cs'.length=arr'.size∧(∀c∈cs',c.one=true)∧(∀(j:Nat) c v,cs'[j]?=some c→arr'[j]?=some v→VR w g c v)
 |[],ps,cs,cs',arr,h,hl,hp,h1,h2,h3=>by
  have:ps=[]:=List.eq_nil_of_length_eq_zero hl.symm
  subst this
  simp[jt]at h
  subst h
  exact⟨arr,rfl,h1,h2,h3⟩
 |(off,sz,d)::fs,[],cs,cs',arr,h,hl,hp,h1,h2,h3=>by simp at hl
 |(off,sz,d)::fs,(i,v)::ps,cs,cs',arr,h,hl,hp,h1,h2,h3=>by
  simp only[jt]at h
  split at h<;>try contradiction
  rename_i hc
  obtain⟨c1,c2,c3⟩:=hc
  obtain⟨p1,p2⟩:=hp 0 _ _ rfl rfl
  simp only at p1 p2
  obtain⟨v1,v2⟩:=p2.cells
  have hfit:off+0+v.cells.toList.length≤arr.size:=by simp;omega
  obtain⟨f1,f2⟩:=wL off v.cells.toList 0 arr hfit
  have hget:∀k,(cs.take off++d.cells++cs.drop (off+sz))[k]?=if off≤k∧k<off+sz then d.cells[k - off]? else cs[k]?:=by
   intro k
   rw[List.append_assoc,List.getElem?_append]
   have ht:(cs.take off).length=off:=by simp;omega
   rw[ht]
   by_cases hk:k<off
   ·rw[if_pos hk,if_neg (by omega),List.getElem?_take_of_lt hk]
   ·rw[if_neg hk,List.getElem?_append,c1]
    by_cases hk2:k - off<sz
    ·rw[if_pos hk2,if_pos (by omega)]
    ·rw[if_neg hk2,if_neg (by omega),List.getElem?_drop]
     congr 1
     omega
  obtain⟨arr',e1,e2,e3,e4⟩:=tL place fs ps (cs.take off++d.cells++cs.drop (off+sz)) cs' ((v.cells.toList.zipIdx 0).foldl (fun(cs:Array Value) (p:Value×Nat)=>cs.setIfInBounds (off+p.2) p.1) arr) h (by simpa using hl) (fun j f p a b=>hp (j+1) f p (by simpa using a) (by simpa using b))
   (by rw[f1];simp;omega)
   (fun c hc=>by
    rcases List.mem_append.1 hc with hc|hc
    ·rcases List.mem_append.1 hc with hc|hc
     ·exact h2 c (List.mem_of_mem_take hc)
     ·exact List.all_eq_true.1 c3 c hc
    ·exact h2 c (List.mem_of_mem_drop hc))
   (fun j c u a b=>by
    rw[hget]at a
    rw[f2]at b
    simp only[Nat.add_zero,Array.length_toList,←v1,c1]at b
    split at a
    ·rename_i hin
     rw[if_pos hin]at b
     exact v2 _ c u a (by simpa using b)
    ·rename_i hin
     rw[if_neg hin]at b
     exact h3 j c u a b)
  refine⟨arr',?_,e2,e3,e4⟩
  simp only[Instr.fill,p1]
  rw[if_neg (by simp;omega)]
  rw[←e1]
  congr 1
  rw[←Array.foldl_toList,Array.toList_zipIdx]
theorem rL {v:Value} {z:D} (h:bw v=some z):∀c∈z.cells,c.one=true:=by
 have hv:=fj v z h (default:World) ⟨fun _ _=>False,fun _=>none,fun _=>none⟩
 cases hv with
 |agg cs vs hl ho hv=>exact ho
 |undef=>
  exfalso
  unfold bw at h
  simp at h
 |tuple cs vs hl hv=>
  exfalso
  unfold bw at h
  simp at h
 |_=>intro c hc;simp[D.cells]at hc;subst hc;rfl
theorem kp {T:TypeId} {z:D} (h:mV P T=some z):∃i v,P.info? T=some i∧i.zero=some v∧(∀w g,VR w g z v)∧∀c∈z.cells,c.one=true:=by
 unfold mV at h
 cases hi:P.info? T with
 |none=>simp[hi]at h
 |some i=>
  cases hz:i.zero with
  |none=>simp[hi,hz]at h
  |some v=>
   simp[hi,hz]at h
   exact⟨i,v,rfl,hz,fun w g=>fj v z h w g,rL h⟩
theorem kq {α β:Type} (f:α→Option β):∀{l:List α} {m:List β},l.mapM f=some m→l.length=m.length∧∀(j:Nat) x,l[j]?=some x→∃y,f x=some y∧m[j]?=some y
 |[],m,h=>by simp at h;subst h;simp
 |x::l,m,h=>by
  simp only[List.mapM_cons,Option.pure_def,Option.bind_eq_bind,Option.bind_eq_some_iff]at h
  obtain⟨y,hy,m',hm,h⟩:=h
  simp at h
  subst h
  obtain⟨h1,h2⟩:=kq f hm
  refine⟨by simp[h1],fun j x' hj=>?_⟩
  cases j with
  |zero=>simp at hj;subst hj;exact⟨y,hy,rfl⟩
  |succ j=>exact h2 j x' (by simpa using hj)
theorem CP {T:TypeId} {parts:Array (Nat×Operand)} (ho:o.op=.build T parts) (hc:aq P o.op=some x) (hr:x.run ρ st=some (d,st')) (he:EnvR w g ρ a.tmps):st'=st∧QG P w g st (execOp a.eval o) d:=by
 rw[ho]at hc
 simp only[aq,Option.bind_eq_bind,Option.bind_eq_some_iff]at hc
 obtain⟨z,hz,hc⟩:=hc
 obtain⟨it,zv,hit,hiz,hzv,hz1⟩:=kp hz
 obtain⟨zl,zr⟩:=(hzv w g).cells
 have main:∀(fills:List (Nat×Nat×A)) (place:Nat→Option (Nat×Nat)),x=.build z.cells fills→fills.length=parts.toList.length→
   (∀(j:Nat) f p,fills[j]?=some f→parts.toList[j]?=some p→place p.1=some (f.1,f.2.1)∧aT p.2=some f.2.2)→
   (∀arr,Instr.fill place zv.cells (parts.toList.map fun p=>(p.1,a.eval p.2))=some arr→P.built T (parts.map fun p=>(p.1,a.eval p.2)).toList=some arr)→st'=st∧QG P w g st (execOp a.eval o) d:=by
  intro fills place hx hl hp hb
  subst hx
  simp only[O.run,Option.map_eq_some_iff]at hr
  obtain⟨cs,hcs,hd⟩:=hr
  cases hd
  obtain⟨arr,h1,h2,h3,h4⟩:=tL (w:=w) (g:=g) place (fills.map fun f=>(f.1,f.2.1,f.2.2.ev ρ)) (parts.toList.map fun p=>(p.1,a.eval p.2)) z.cells cs zv.cells hcs (by simpa using hl)
   (fun j f p hf hp'=>by
    simp only[List.getElem?_map,Option.map_eq_some_iff]at hf hp'
    obtain⟨f0,hf0,rfl⟩:=hf
    obtain⟨p0,hp0,rfl⟩:=hp'
    obtain⟨q1,q2⟩:=hp j f0 p0 hf0 hp0
    exact⟨q1,co he q2⟩) zl hz1 zr
  refine⟨rfl,.agg arr,.agg _ _ h2 h3 h4,fun w' _=>?_⟩
  have:=run_build w' T (parts.map fun p=>(p.1,a.eval p.2)) arr (hb arr h1)
  simp[execOp,ho,this]
 split at hc<;>try contradiction
 ·rename_i fs hT
  simp only[Option.bind_eq_some_iff]at hc
  obtain⟨fills,hf,hc⟩:=hc
  split at hc<;>try contradiction
  rename_i hpl
  injection hc with hc
  obtain⟨places,hpl⟩:=Option.isSome_iff_exists.1 hpl
  obtain⟨f1,f2⟩:=kq _ hf
  obtain⟨p1,p2⟩:=kq _ hpl
  refine main fills (fun i=>places.toArray[i]?) hc.symm f1.symm (fun j f p hfj hpj=>?_) (fun arr harr=>?_)
  ·obtain⟨y,hy,hy'⟩:=f2 j p hpj
   rw[hfj]at hy'
   cases hy'
   simp only[Option.bind_eq_some_iff,Option.some.injEq]at hy
   obtain⟨fd,hfd,s,hs,ax,hax,rfl⟩:=hy
   obtain⟨q,hq,hq'⟩:=p2 p.1 fd (by simpa using hfd)
   refine⟨?_,hax⟩
   simp only[eO,Option.map_eq_some_iff]at hs
   obtain⟨i,hi,rfl⟩:=hs
   rw[hi]at hq
   simp at hq
   subst hq
   simpa using hq'
  ·simp only[Program.built,hit,hT,hiz,hpl]
   simpa using harr
 ·rename_i n e hT
  simp only[Option.bind_eq_some_iff]at hc
  obtain⟨s,hs,fills,hf,hc⟩:=hc
  injection hc with hc
  obtain⟨f1,f2⟩:=kq _ hf
  refine main fills (fun i=>some (i*s,s)) hc.symm f1.symm (fun j f p hfj hpj=>?_) (fun arr harr=>?_)
  ·obtain⟨y,hy,hy'⟩:=f2 j p hpj
   rw[hfj]at hy'
   cases hy'
   simp only[Option.bind_eq_some_iff,Option.some.injEq]at hy
   obtain⟨ax,hax,rfl⟩:=hy
   exact⟨rfl,hax⟩
  ·simp only[eO,Option.map_eq_some_iff]at hs
   obtain⟨i,hi,rfl⟩:=hs
   simp only[Program.built,hit,hT,hiz,hi]
   simpa using harr
theorem la {t:TypeId} {y:Operand} (hc:aq P (.range t y)=some x):∃y',aT y=some y'∧x=.rangeM y':=by
 simp only[aq]at hc
 split at hc<;>try contradiction
 split at hc<;>try contradiction
 obtain⟨y',h1,h2⟩:=Option.map_eq_some_iff.1 hc
 exact⟨y',h1,h2.symm⟩
theorem kx {y:Operand} {b:Bool} (hc:aq P (.next y b)=some x):∃y',aT y=some y'∧x=.nextM y'∧b=false:=by
 cases b with
 |true=>simp[aq]at hc
 |false=>
  simp only[aq]at hc
  obtain⟨y',h1,h2⟩:=Option.map_eq_some_iff.1 hc
  exact⟨y',h1,h2.symm,rfl⟩
theorem Hx {y:Operand} (hc:aq P (.entry y)=some x):∃y',aT y=some y'∧x=.entryM y':=by
 simp only[aq]at hc
 obtain⟨y',h1,h2⟩:=Option.map_eq_some_iff.1 hc
 exact⟨y',h1,h2.symm⟩
theorem Bt (hq:x.quiet=true) (hncall:∀f as,x≠.call f as) (hc:aq P o.op=some x) (hr:x.run ρ st=some (d,st')) (he:EnvR w g ρ a.tmps) (hrel:Rel B w g st):st'=st∧QG P w g st (execOp a.eval o) d:=by
 cases hop:o.op with
 |move y=>exact Bm (.inl hop) hc hr he
 |assign y=>exact Bm (.inr hop) hc hr he
 |pick c y z=>exact Fv hop hc hr he
 |build t ps=>exact CP hop hc hr he
 |load t y=>exact EH hop hc hr he hrel
 |nilCheck y=>exact xK hop hc hr he
 |binOp op t y z t'=>exact CK hop hc hr he
 |unOp op t y=>exact Fe hop hc hr he
 |convert s t y=>exact EP hop hc hr he
 |makeFunc f fi cs=>exact xv hop hc hr he
 |slice t y lo hi mx=>exact Dm hop hc hr he hrel
 |fieldAddr t y f=>exact wv hop hc hr he
 |indexAddr t y z=>exact vO hop hc hr he
 |index t y z=>exact CR hop hc hr he
 |lookup t y z ok=>exact Ce hop hc hr he hrel
 |extract y i=>exact Ae hop hc hr he
 |call c=>
  obtain⟨callee,args,tys⟩:=c
  cases callee with
  |builtin b=>exact zG hop hq ⟨b,rfl⟩ hc hr he hrel
  |value f=>
   exfalso
   rw[hop]at hc
   simp only[aq,Option.bind_eq_bind,Option.bind_eq_some_iff,Option.some.injEq]at hc
   obtain⟨f',_,as,_,rfl⟩:=hc
   exact hncall f' as rfl
  |invoke r m=>rw[hop]at hc;simp[aq]at hc
 |alloc t=>exfalso;rw[hop]at hc;simp only[aq,Option.bind_eq_bind,Option.bind_eq_some_iff,Option.some.injEq]at hc;obtain⟨_,_,rfl⟩:=hc;simp[O.quiet]at hq
 |box t y=>exfalso;rw[hop]at hc;simp only[aq,Option.bind_eq_bind,Option.bind_eq_some_iff,Option.some.injEq]at hc;obtain⟨_,_,_,_,rfl⟩:=hc;simp[O.quiet]at hq
 |buildSlice t n ps=>
  exfalso
  rw[hop]at hc
  simp only[aq,Option.bind_eq_bind]at hc
  split at hc<;>try contradiction
  simp only[Option.bind_eq_some_iff]at hc
  obtain⟨_,_,_,_,hc⟩:=hc
  split at hc<;>try contradiction
  simp only[Option.bind_eq_some_iff,Option.some.injEq]at hc
  obtain⟨_,_,rfl⟩:=hc
  simp[O.quiet]at hq
 |store t y z=>exfalso;rw[hop]at hc;simp only[aq,Option.bind_eq_bind,Option.bind_eq_some_iff,Option.some.injEq]at hc;obtain⟨_,_,_,_,_,_,rfl⟩:=hc;simp[O.quiet]at hq
 |makeMap t r=>exfalso;rw[hop]at hc;cases r<;>simp[aq]at hc;split at hc<;>simp at hc;subst hc;simp[O.quiet]at hq
 |mapUpdate t m k v=>exfalso;rw[hop]at hc;simp only[aq,Option.bind_eq_bind]at hc;split at hc<;>try contradiction
                     split at hc<;>try contradiction
                     simp only[Option.bind_eq_some_iff,Option.some.injEq]at hc;obtain⟨_,_,_,_,_,_,_,_,rfl⟩:=hc;simp[O.quiet]at hq
 |insert t m k v=>exfalso;rw[hop]at hc;simp only[aq,Option.bind_eq_bind]at hc;split at hc<;>try contradiction
                  split at hc<;>try contradiction
                  simp only[Option.bind_eq_some_iff,Option.some.injEq]at hc;obtain⟨_,_,_,_,_,_,_,_,rfl⟩:=hc;simp[O.quiet]at hq
 |range t y=>exfalso;rw[hop]at hc;obtain⟨_,_,rfl⟩:=la hc;simp[O.quiet]at hq
 |next y b=>exfalso;rw[hop]at hc;obtain⟨_,_,rfl,_⟩:=kx hc;simp[O.quiet]at hq
 |entry y=>exfalso;rw[hop]at hc;obtain⟨_,_,rfl⟩:=Hx hc;simp[O.quiet]at hq
 |_=>exfalso;rw[hop]at hc;simp[aq]at hc
end
end Go.Ev
