/-
  A part of the evaluator.
-/
import Derived.Test.YtjcilbnbciclpaaEvEvS2
set_option linter.unusedVariables false
set_option linter.unusedSimpArgs false
set_option linter.unnecessarySimpa false
namespace Go.Ev
open Go.RowKit
section
variable {P:Program} {B:Nat} {w:World} {g:Ghost} {ρ:Nat→D} {st st':Store} {a:Act} {d:D} {o:Oper} {x:O}
theorem xm {y:Operand} (ho:o.op=.move y∨o.op=.assign y) (hc:ao P o.op=some x) (hr:x.run ρ st=some (d,st')) (he:EnvR w g ρ a.tmps):st'=st∧QG P w g st (execOp a.eval o) d:=by
 rcases ho with ho|ho
 all_goals
  rw[ho]at hc
  simp[ao,Option.bind_eq_some_iff]at hc
  obtain⟨y',hy,rfl⟩:=hc
  simp[O.run]at hr
  obtain⟨rfl,rfl⟩:=hr
  exact⟨rfl,_,bF he hy,fun w' _=>by simp[execOp,ho]⟩
theorem zN {c y z:Operand} (ho:o.op=.pick c y z) (hc:ao P o.op=some x) (hr:x.run ρ st=some (d,st')) (he:EnvR w g ρ a.tmps):st'=st∧QG P w g st (execOp a.eval o) d:=by
 rw[ho]at hc
 simp[ao,Option.bind_eq_some_iff]at hc
 obtain⟨c',hc',y',hy,z',hz,rfl⟩:=hc
 have h1:=bF he hc'
 simp only[O.run]at hr
 cases hcv:c'.ev ρ<;>simp[hcv]at hr
 rename_i t
 obtain⟨rfl,rfl⟩:=hr
 rw[hcv]at h1
 have h1:=h1.bool_inv
 refine⟨rfl,if t then a.eval y else a.eval z,?_,fun w' _=>by simp[execOp,ho,h1,asBool]⟩
 cases t
 ·exact bF he hz
 ·exact bF he hy
theorem VR.slice_inv {t:Tok} {sz:Nat} {xs:List D} {v:Value} (h:VR w g (.slice t sz xs) v):∃(A:Option Addr) (cap:Nat) (vals:Nat→Nat→Value),v=.slice A xs.length cap∧xs.length≤cap∧TokOK g.τ t sz A xs.length cap∧
  (∀(i:Nat) (x:D),xs[i]?=some x→x.cells.length=sz∧∀c∈x.cells,c.plain=true)∧
  (∀(i:Nat) (x:D) (j:Nat) (c:D),xs[i]?=some x→x.cells[j]?=some c→∃ad,A=some ad∧g.S ad.block (ad.off+(i*sz+j))∧ad.spot=none∧w.cell? ⟨ad.block,ad.off+(i*sz+j),none⟩=some (vals i j))∧
  (∀(i:Nat) (x:D) (j:Nat) (c:D),xs[i]?=some x→x.cells[j]?=some c→VR w g c (vals i j)):=by
 cases h with
 |slice t sz xs A len cap vals hl hc ht hs hA hv=>subst hl;exact⟨A,cap,vals,rfl,hc,ht,hs,hA,hv⟩
theorem VR.eptr_inv {sz i off:Nat} {xs:List D} {v:Value} (h:VR w g (.eptr sz xs i off) v):∃(ad:Addr) (vals:Nat→Nat→Value),v=.pointer (some ⟨ad.block,ad.off+(i*sz+off),none⟩)∧ad.spot=none∧
  (∀(i:Nat) (x:D),xs[i]?=some x→x.cells.length=sz∧∀c∈x.cells,c.plain=true)∧
  (∀(i:Nat) (x:D) (j:Nat) (c:D),xs[i]?=some x→x.cells[j]?=some c→g.S ad.block (ad.off+(i*sz+j))∧w.cell? ⟨ad.block,ad.off+(i*sz+j),none⟩=some (vals i j))∧
  (∀(i:Nat) (x:D) (j:Nat) (c:D),xs[i]?=some x→x.cells[j]?=some c→VR w g c (vals i j)):=by
 cases h with
 |eptr sz xs i off ad vals hs hsp hA hv=>exact⟨ad,vals,rfl,hsp,hs,hA,hv⟩
theorem VR.ptr_inv {l off:Nat} {v:Value} (h:VR w g (.ptr l off) v):∃b,g.ι l=some b∧v=.pointer (some ⟨b,off,none⟩):=by cases h;exact⟨_,‹_›,rfl⟩
theorem VR.rs_inv {l off sz n c:Nat} {v:Value} (h:VR w g (.rs l off sz n c) v):∃(b o cap:Nat) (vs:Array Value) (T:TypeId),v=.slice (some ⟨b,o,none⟩) n cap∧g.ι l=some b∧w.heap[b]?=some (.cells vs T (0,0))∧(o=off∨cap=0)∧n≤c∧c≤cap∧off+cap*sz≤vs.size:=by
 cases h with
 |rs l off sz n c b o cap vs T h hb ho hn hc hk=>exact⟨b,o,cap,vs,T,rfl,h,hb,ho,hn,hc,hk⟩
theorem VR.nilptr_inv {v:Value} (h:VR w g .nilptr v):v=.pointer none:=by cases h;rfl
theorem zB {op:UnOp} {T:TypeId} {y:Operand} (ho:o.op=.unOp op T y) (hc:ao P o.op=some x) (hr:x.run ρ st=some (d,st')) (he:EnvR w g ρ a.tmps):st'=st∧QG P w g st (execOp a.eval o) d:=by
 rw[ho]at hc
 simp[ao,Option.bind_eq_some_iff]at hc
 obtain⟨y',hy,hc⟩:=hc
 have h1:=bF he hy
 cases op<;>simp at hc
 all_goals
  subst hc
  simp only[O.run]at hr
  cases hcv:y'.ev ρ<;>simp[hcv]at hr
  obtain⟨rfl,rfl⟩:=hr
  rw[hcv]at h1
 ·have h1:=h1.int_inv
  exact⟨rfl,_,.int _ _,fun w' _=>by simp[execOp,ho,h1,Op.unary,Op.intArith]⟩
 ·have h1:=h1.bool_inv
  exact⟨rfl,_,.bool _,fun w' _=>by simp[execOp,ho,h1,Op.unary]⟩
theorem ze {s t:TypeId} {y:Operand} (ho:o.op=.convert s t y) (hc:ao P o.op=some x) (hr:x.run ρ st=some (d,st')) (he:EnvR w g ρ a.tmps):st'=st∧QG P w g st (execOp a.eval o) d:=by
 rw[ho]at hc
 simp only[ao]at hc
 split at hc<;>try contradiction
 rename_i ks kt hs ht
 simp[Option.bind_eq_some_iff]at hc
 obtain⟨y',hy,rfl⟩:=hc
 have h1:=bF he hy
 simp only[O.run]at hr
 cases hcv:y'.ev ρ<;>simp[hcv]at hr
 obtain⟨rfl,rfl⟩:=hr
 rw[hcv]at h1
 have h1:=h1.int_inv
 exact⟨rfl,_,.int _ _,fun w' _=>by simp[execOp,ho,h1,convert,run_underlying hs,run_underlying ht,Conv.intToInt]⟩
theorem tH {y:Operand} (ho:o.op=.nilCheck y) (hc:ao P o.op=some x) (hr:x.run ρ st=some (d,st')) (he:EnvR w g ρ a.tmps):st'=st∧QG P w g st (execOp a.eval o) d:=by
 rw[ho]at hc
 simp[ao,Option.bind_eq_some_iff]at hc
 obtain⟨y',hy,rfl⟩:=hc
 have h1:=bF he hy
 simp only[O.run]at hr
 cases hcv:y'.ev ρ<;>simp[hcv]at hr
 all_goals
  obtain⟨rfl,rfl⟩:=hr
  rw[hcv]at h1
  refine⟨rfl,_,h1,fun w' _=>?_⟩
  generalize hu:a.eval y=u at h1
  cases h1
  simp[execOp,ho,hu]
theorem uZ {y:Operand} {i:Nat} (ho:o.op=.extract y i) (hc:ao P o.op=some x) (hr:x.run ρ st=some (d,st')) (he:EnvR w g ρ a.tmps):st'=st∧QG P w g st (execOp a.eval o) d:=by
 rw[ho]at hc
 simp[ao,Option.bind_eq_some_iff]at hc
 obtain⟨y',hy,rfl⟩:=hc
 have h1:=bF he hy
 simp only[O.run]at hr
 cases hcv:y'.ev ρ<;>simp[hcv]at hr
 rename_i vs
 obtain⟨r,hr,rfl,rfl⟩:=hr
 rw[hcv]at h1
 generalize hu:a.eval y=u at h1
 cases h1
 rename_i us hl hv
 have hi:i<us.size:=by have:=(List.getElem?_eq_some_iff.1 hr).1;omega
 have hui:us[i]?=some us[i]:=Array.getElem?_eq_getElem hi
 exact⟨rfl,us[i],hv i r _ hr hui,fun w' _=>by simp[execOp,ho,hu,Instr.extract,hui]⟩
theorem rY {f:Fn} {fi caps:Array Operand} (ho:o.op=.makeFunc f fi caps) (hc:ao P o.op=some x) (hr:x.run ρ st=some (d,st')) (he:EnvR w g ρ a.tmps):st'=st∧QG P w g st (execOp a.eval o) d:=by
 rw[ho]at hc
 cases f<;>simp[ao,Option.bind_eq_some_iff]at hc
 rename_i f
 obtain⟨hf,ys,hy,rfl⟩:=hc
 obtain⟨h1,h2⟩:=o6 he hy
 simp[O.run]at hr
 obtain⟨rfl,rfl⟩:=hr
 subst hf
 exact⟨rfl,_,.func f _ (caps.map a.eval) (by simpa using h1) (fun j c v h3 h4=>h2 j c v h3 (by simpa using h4)),fun w' _=>by simp[execOp,ho,Instr.makeFunc]⟩
theorem TokOK.strip {τ:Nat→Option RowInfo} {t:Tok} {sz:Nat} {A:Option Addr} {len cap:Nat} (h:TokOK τ t sz A len cap):TokOK τ t.strip sz A len cap:=by
 cases t<;>first|exact trivial|exact h
theorem VR.strip1 {c:D} {v:Value} (h:VR w g c v):VR w g c.strip1 v:=by
 cases h<;>first|(constructor<;>assumption)|skip
 rename_i t sz xs A len cap vals hl hc ht hs hA hv
 exact .slice t.strip sz xs A len cap vals hl hc ht.strip hs hA hv
theorem D.one_strip1 {c:D} (h:c.one=true):c.strip1.one=true:=by cases c<;>simp_all[D.strip1,D.one]
theorem bc {w:World} {b:Nat} {vs:Array Value} {T:TypeId} {fr:Nat×Nat} (h:w.heap[b]?=some (.cells vs T fr)) (j:Nat):w.cell? ⟨b,j,none⟩=vs[j]?:=by simp[World.cell?,h]
theorem BoxR.cs_inv {b:Nat} {x:Box} {cs:List D} (h:BoxR w g b x) (hx:x.cs=some cs):
  ∃(vs:Array Value) (T:TypeId),w.heap[b]?=some (.cells vs T (0,0))∧cs.length≤vs.size∧(∀c∈cs,c.one=true)∧(∀(j:Nat) c v,cs[j]?=some c→vs[j]?=some v→VR w g c v):=by
 cases x with
 |cells cs'=>cases hx;obtain⟨vs,T,h1,h2,h3⟩:=h;exact⟨vs,T,h1,by omega,h3⟩
 |row cs'=>cases hx;exact h
 |map kv=>cases hx
 |mapE kv es cl=>cases hx
 |iter m es cl ks=>cases hx
theorem jx (hrel:Rel B w g st) {l b:Nat} {cs:List D} (hcs:st.cellsAt l=some cs) (hb:g.ι l=some b):
  ∃(vs:Array Value) (T:TypeId),w.heap[b]?=some (.cells vs T (0,0))∧cs.length≤vs.size∧(∀c∈cs,c.one=true)∧(∀(j:Nat) c,cs[j]?=some c→VR w g c (vs.getD j Go.undef))∧∃x,st.boxes l=some x:=by
 unfold Store.cellsAt at hcs
 cases hbx:st.boxes l with
 |none=>simp[hbx]at hcs
 |some bx=>
  cases hcs0:bx.cs with
  |none=>simp[hbx,hcs0]at hcs
  |some cs0=>
   simp[hbx,hcs0]at hcs
   obtain⟨b',hb',_,_,hbr⟩:=hrel.box _ _ hbx
   obtain⟨vs,T',hh,hl,ho,hv⟩:=BoxR.cs_inv hbr hcs0
   have:b'=b:=by rw[hb]at hb';exact(Option.some.inj hb').symm
   subst this
   have hv':∀(j:Nat) c,cs0[j]?=some c→VR w g c (vs.getD j Go.undef):=fun j c hj=>by
    have hlt:j<vs.size:=by have:=(List.getElem?_eq_some_iff.1 hj).1;omega
    exact hv j c _ hj (by simp[Array.getD,hlt])
   refine⟨vs,T',hh,?_,?_,?_,_,rfl⟩
   ·subst hcs;split<;>simp[hl]
   ·subst hcs
    split
    ·intro c hc
     obtain⟨c0,h0,rfl⟩:=List.mem_map.1 hc
     exact D.one_strip1 (ho c0 h0)
    ·exact ho
   ·subst hcs
    split
    ·intro j c hj
     simp at hj
     obtain⟨c0,h0,rfl⟩:=hj
     exact(hv' j c0 h0).strip1
    ·exact hv'
theorem zR {T:TypeId} {y:Operand} (ho:o.op=.load T y) (hc:ao P o.op=some x) (hr:x.run ρ st=some (d,st')) (he:EnvR w g ρ a.tmps) (hrel:Rel B w g st):st'=st∧QG P w g st (execOp a.eval o) d:=by
 rw[ho]at hc
 simp only[ao,Option.bind_eq_bind,Option.bind_eq_some_iff,Option.some.injEq]at hc
 obtain⟨ag,hag,sz,hsz,y',hy,rfl⟩:=hc
 have h1:=bF he hy
 simp only[O.run]at hr
 cases hcv:y'.ev ρ<;>simp[hcv,Option.bind_eq_some_iff]at hr
 case ptr l off=>
  obtain⟨cs,hcs,d',hd,rfl,rfl⟩:=hr
  rw[hcv]at h1
  obtain⟨b,hb,hu⟩:=VR.ptr_inv h1
  obtain⟨vs,T',hh,hl,ho',hv,bx,hbx⟩:=jx hrel hcs hb
  obtain⟨r,hr1,hr2⟩:=pE (P:=P) (T:=T) hag hsz b off cs (fun j=>vs.getD j Go.undef) hd ho' hv
  refine⟨rfl,r,hr1,fun w' hs=>?_⟩
  have hh':=(hs.box l b bx hbx hb).trans hh
  have:=hr2 w' 0 (fun j hj=>by
   have hlt:j<vs.size:=by omega
   simp[bc hh',Array.getD,hlt])
  simp only[Nat.zero_add]at this
  simp[execOp,ho,hu,this]
 case eptr s xs i off=>
  obtain⟨x,hx,d',hd,rfl,rfl⟩:=hr
  rw[hcv]at h1
  obtain⟨ad,vals,hu,hsp,hs,hA,hv⟩:=h1.eptr_inv
  obtain⟨r,hr1,hr2⟩:=pE (P:=P) (T:=T) (w:=w) (g:=g) hag hsz ad.block off x.cells (fun j=>vals i j) hd (fun c hc=>D.plain_one ((hs i x hx).2 c hc)) (fun j c hj=>hv i x j c hx hj)
  refine⟨rfl,r,hr1,fun w' hsm=>?_⟩
  have:=hr2 w' (ad.off+i*s) (fun j hj=>by
   have h3:=hA i x j (x.cells[j]) hx (List.getElem?_eq_getElem hj)
   have h4:=(hsm.cell _ _ h3.1).trans h3.2
   simpa[Nat.add_assoc]using h4)
  simp only[Nat.add_assoc]at this
  simp[execOp,ho,hu,Nat.add_assoc,this]
theorem rz {T:TypeId} {y:Operand} {f:Nat} (ho:o.op=.fieldAddr T y f) (hc:ao P o.op=some x) (hr:x.run ρ st=some (d,st')) (he:EnvR w g ρ a.tmps):st'=st∧QG P w g st (execOp a.eval o) d:=by
 rw[ho]at hc
 simp only[ao,Option.bind_eq_bind,Option.bind_eq_some_iff]at hc
 split at hc<;>try contradiction
 rename_i fs hfs
 simp only[Option.bind_eq_some_iff]at hc
 obtain⟨fd,hfd,sz,hsz,hc⟩:=hc
 split at hc<;>try contradiction
 rename_i hnz
 simp only[Option.bind_eq_some_iff,Option.some.injEq]at hc
 obtain⟨y',hy,rfl⟩:=hc
 have h1:=bF he hy
 simp only[O.run]at hr
 have hrun:∀(ad:Addr) (w':World),(Instr.fieldAt T (.pointer (some ad)) f).run P w'=.ok (.pointer (some (ad.add fd.offset))) w':=fun ad w'=>by
  simp[Instr.fieldAt,run_underlying hfs,hfd,Instr.sureAddr,fieldPlace,bg hsz,hnz]
 cases hcv:y'.ev ρ<;>simp[hcv]at hr
 case ptr l off=>
  obtain⟨rfl,rfl⟩:=hr
  rw[hcv]at h1
  obtain⟨b,hb,hu⟩:=VR.ptr_inv h1
  exact⟨rfl,_,.ptr l (off+fd.offset) b hb,fun w' _=>by simp[execOp,ho,hu,hrun,cj]⟩
 case eptr s xs i off=>
  obtain⟨rfl,rfl⟩:=hr
  rw[hcv]at h1
  obtain⟨ad,vals,hu,hsp,hs,hA,hv⟩:=h1.eptr_inv
  exact⟨rfl,_,.eptr s xs i (off+fd.offset) ad vals hs hsp hA hv,fun w' _=>by simp[execOp,ho,hu,hrun,cj,Nat.add_assoc]⟩
theorem cC {c:D} {n:Nat} (h:bE c=some n) {v:Value} (hv:VR w g c v):∃k,v=.int k (n:Int):=by
 cases c<;>simp[bE]at h
 rename_i k m
 obtain⟨h1,h2⟩:=h
 cases hv.int_inv
 exact⟨k,by rw[←h2];simp;omega⟩
theorem rj {T:TypeId} {y z:Operand} (ho:o.op=.indexAddr T y z) (hc:ao P o.op=some x) (hr:x.run ρ st=some (d,st')) (he:EnvR w g ρ a.tmps):st'=st∧QG P w g st (execOp a.eval o) d:=by
 rw[ho]at hc
 simp only[ao,Option.bind_eq_bind,Option.bind_eq_some_iff]at hc
 split at hc<;>try contradiction
 ·rename_i e he'
  simp only[Option.bind_eq_some_iff]at hc
  obtain⟨sz,hsz,hc⟩:=hc
  split at hc<;>try contradiction
  rename_i hnz
  simp only[Option.bind_eq_some_iff,Option.some.injEq]at hc
  obtain⟨y',hy,z',hz,rfl⟩:=hc
  have h1:=bF he hy
  have h2:=bF he hz
  simp only[O.run]at hr
  split at hr<;>try contradiction
  ·rename_i t s xs i hcv hi
   split at hr<;>try contradiction
   rename_i hlt
   obtain⟨hlt,rfl⟩:=hlt
   simp at hr
   obtain⟨rfl,rfl⟩:=hr
   obtain⟨k,hk⟩:=cC hi h2
   rw[hcv]at h1
   obtain⟨A,cap,vals,hu,hcp,ht,hs,hA,hv⟩:=h1.slice_inv
   have hxi:xs[i]?=some xs[i]:=List.getElem?_eq_getElem hlt
   have h0:=(hs i xs[i] hxi).1
   obtain⟨ad,rfl,_,hsp,_⟩:=hA i xs[i] 0 (xs[i].cells[0]'(by omega)) hxi (List.getElem?_eq_getElem (by omega))
   refine⟨rfl,_,.eptr s xs i 0 ad vals hs hsp (fun i x j c p q=>?_) hv,fun w' _=>?_⟩
   ·obtain⟨ad',e1,e2,_,e3⟩:=hA i x j c p q
    cases e1
    exact⟨e2,e3⟩
   ·simp[execOp,ho,hu,hk,Instr.indexAt,asIntOf,run_underlying he',hlt,bg hsz,cj,hsp]
  ·rename_i l off s n c i hcv hi
   split at hr<;>try contradiction
   rename_i hlt
   obtain⟨hlt,rfl⟩:=hlt
   simp at hr
   obtain⟨rfl,rfl⟩:=hr
   obtain⟨k,hk⟩:=cC hi h2
   rw[hcv]at h1
   obtain⟨b,o',cap,vs,T',hu,hb,_,hoo,hn,hcc,_⟩:=h1.rs_inv
   have:o'=off:=by omega
   subst this
   exact⟨rfl,_,.ptr l (o'+i*s) b hb,fun w' _=>by simp[execOp,ho,hu,hk,Instr.indexAt,asIntOf,run_underlying he',hlt,bg hsz,cj]⟩
 ·rename_i n e he'
  split at hc<;>try contradiction
  rename_i hn1
  simp only[Option.bind_eq_some_iff,Option.some.injEq]at hc
  obtain⟨sz,hsz,y',hy,z',hz,rfl⟩:=hc
  have h1:=bF he hy
  have h2:=bF he hz
  simp only[O.run]at hr
  have hrun:∀(ad:Addr) (k:IntKind) (i:Nat) (w':World),i<n→(Instr.indexAt T (.pointer (some ad)) (.int k (i:Int))).run P w'=.ok (.pointer (some (ad.add (i*sz)))) w':=fun ad k i w' hi=>by
   simp[Instr.indexAt,asIntOf,run_underlying he',Instr.sureAddr,hi,bg hsz]
  split at hr<;>try contradiction
  ·rename_i l off i hcv hi
   split at hr<;>try contradiction
   rename_i hlt
   simp at hr
   obtain⟨rfl,rfl⟩:=hr
   obtain⟨k,hk⟩:=cC hi h2
   rw[hcv]at h1
   obtain⟨b,hb,hu⟩:=VR.ptr_inv h1
   exact⟨rfl,_,.ptr l (off+i*sz) b hb,fun w' _=>by simp[execOp,ho,hu,hk,hrun _ _ _ _ hlt,cj]⟩
  ·rename_i s xs m off i hcv hi
   split at hr<;>try contradiction
   rename_i hlt
   simp at hr
   obtain⟨rfl,rfl⟩:=hr
   obtain⟨k,hk⟩:=cC hi h2
   rw[hcv]at h1
   obtain⟨ad,vals,hu,hsp,hs,hA,hv⟩:=h1.eptr_inv
   exact⟨rfl,_,.eptr s xs m (off+i*sz) ad vals hs hsp hA hv,fun w' _=>by simp[execOp,ho,hu,hk,hrun _ _ _ _ hlt,cj,Nat.add_assoc]⟩
end
end Go.Ev
