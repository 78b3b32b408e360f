/-
  slices.SortFunc by a whole number of each element, no two the same: a known function.
-/
import Derived.Test.YtcejefmekkiboaaEvEvX9
import Derived.Shelf.SlSortCmp.WholeK
set_option linter.unusedVariables false
set_option linter.unusedSimpArgs false
set_option linter.unnecessarySimpa false
namespace Go.Ev
open Go.RowKit
abbrev Vk (k:Nat):=Vector Int k
def fk (k:Nat) (x:Vk k):List Value:=x.toList.map (Value.int .i64)
def kN {k:Nat} (x:Vk k):List D:=x.toList.map (D.int .i64)
def kv {k:Nat} (key:Nat) (x:Vk k):Int:=x.toList.getD key 0
theorem wr {k:Nat} (x:Vk k):(fk k x).length=k:=by simp[fk]
theorem qJ {k:Nat} (x:Vk k):(kN x).length=k:=by simp[kN]
def AX:D→Option Int
 | .int .i64 n=>some n
 |_=>none
def ny (k n:Nat) (l:List Int):List (Vk k):=(List.range n).map fun i=>Vector.ofFn fun(j:Fin k)=>l.getD (i*k+j) 0
def uG {k:Nat} (key:Nat) (x:Vk k):List (Vk k)→List (Vk k)
 |[]=>[x]
 |y::s=>if kv key y<kv key x then y::uG key x s else x::y::s
def mU {k:Nat} (key:Nat):List (Vk k)→List (Vk k)
 |[]=>[]
 |x::s=>uG key x (mU key s)
def tg:List Int→Bool
 |[]=>true
 |x::s=> !s.contains x&&tg s
def HJ (k n:Nat) (l:List Int):List (List Int):=match n with
 |0=>[]
 |n+1=>l.take k::HJ k n (l.drop k)
def xq (key:Nat) (x:List Int):List (List Int)→List (List Int)
 |[]=>[x]
 |y::s=>if y.getD key 0<x.getD key 0 then y::xq key x s else x::y::s
def od (key:Nat):List (List Int)→List (List Int)
 |[]=>[]
 |x::s=>xq key x (od key s)
def fR:List D→Option (List Int)
 |[]=>some []
 | .int .i64 n::r=>match fR r with
   |some l=>some (n::l)
   |none=>none
 |_=>none
def jZ (k key g:Nat) (ds:List D) (st:Store):Option (D×Store):=
 match ds with
 |[.rs p off sz n _,.func g' []]=>match st.boxes p with
  |some (.row cs)=>match fR (cs.take (n*k))with
   |some l=>if g'=g∧off=0∧sz=k∧st.lim≤p∧n*k≤cs.length∧n<4611686018427387904∧tg ((HJ k n l).map fun x=>x.getD key 0)=true then
     some (.tuple [],{st with boxes:=ap st.boxes p (some (.row ((od key (HJ k n l)).flatMap (fun x=>x.map (D.int .i64))++cs.drop (n*k))))})else none
   |none=>none
  |_=>none
 |[.slice .isnil _ [],.func g' []]=>if g'=g then some (.tuple [],st)else none
 |_=>none
/-! ### Rows in order -/
def xe {k:Nat} (key:Nat):List (Vk k)→Prop
 |[]=>True
 |x::s=>(∀y∈s,¬kv key y<kv key x)∧xe key s
theorem oW {k:Nat} (key:Nat) (x:Vk k):∀s,(uG key x s).Perm (x::s)
 |[]=>List.Perm.refl _
 |y::s=>by
  unfold uG
  split
  ·exact(List.Perm.cons y (oW key x s)).trans (List.Perm.swap x y s)
  ·exact List.Perm.refl _
theorem kV {k:Nat} (key:Nat):∀s:List (Vk k),(mU key s).Perm s
 |[]=>List.Perm.refl _
 |x::s=>(oW key x _).trans ((kV key s).cons x)
theorem vk {k:Nat} (key:Nat) (x:Vk k):∀s,xe key s→xe key (uG key x s)
 |[],_=>⟨fun y hy=>by simp at hy,trivial⟩
 |y::s,h=>by
  unfold uG
  split
  ·rename_i hx
   refine⟨fun z hz=>?_,vk key x s h.2⟩
   rcases List.mem_cons.mp ((oW key x s).mem_iff.mp hz)with rfl|hz
   ·omega
   ·exact h.1 z hz
  ·rename_i hx
   refine⟨fun z hz=>?_,h⟩
   rcases List.mem_cons.mp hz with rfl|hz
   ·exact hx
   ·have:=h.1 z hz;omega
theorem rU {k:Nat} (key:Nat):∀s:List (Vk k),xe key (mU key s)
 |[]=>trivial
 |x::s=>vk key x _ (rU key s)
theorem sJ {k:Nat} {key:Nat}:∀{l:List (Vk k)},tg (l.map (kv key))=true→∀x∈l,∀y∈l,kv key x=kv key y→x=y
 |[],_,x,hx,_,_,_=>by simp at hx
 |z::l,h,x,hx,y,hy,e=>by
  simp only[List.map_cons,tg,Bool.and_eq_true,Bool.not_eq_true']at h
  have hn:∀w∈l,kv key w≠kv key z:=fun w hw e=>by
   have:(l.map (kv key)).contains (kv key z)=true:=by rw[List.contains_iff_mem];exact List.mem_map.mpr ⟨w,hw,e⟩
   rw[this]at h;cases h.1
  rcases List.mem_cons.mp hx with h1|h1<;>rcases List.mem_cons.mp hy with h2|h2
  ·rw[h1,h2]
  ·rw[h1]at e;exact absurd e.symm (hn y h2)
  ·rw[h2]at e;exact absurd e (hn x h1)
  ·exact sJ h.2 x h1 y h2 e
theorem su {k:Nat} {key:Nat}:∀{s t:List (Vk k)},xe key s→xe key t→s.Perm t→(∀x∈s,∀y∈s,kv key x=kv key y→x=y)→s=t
 |[],t,_,_,h,_=>(List.nil_perm.mp h).symm
 |x::s,[],_,_,h,_=>by simp at h
 |x::s,y::t,hs,ht,h,hi=>by
  have e:x=y:=by
   have h1:=h.mem_iff.mp (List.mem_cons_self (a:=x) (l:=s))
   have h2:=h.mem_iff.mpr (List.mem_cons_self (a:=y) (l:=t))
   refine hi x List.mem_cons_self y h2 ?_
   have a1:¬kv key x<kv key y:=by
    rcases List.mem_cons.mp h1 with h1|h1
    ·rw[h1];omega
    ·exact ht.1 x h1
   have a2:¬kv key y<kv key x:=by
    rcases List.mem_cons.mp h2 with h2|h2
    ·rw[h2];omega
    ·exact hs.1 y h2
   omega
  subst e
  rw[su hs.2 ht.2 ((List.perm_cons x).mp h) (fun a ha b hb=>hi a (List.mem_cons_of_mem _ ha) b (List.mem_cons_of_mem _ hb))]
theorem y3 {k:Nat} {key:Nat}:∀{l:List (Vk k)},(∀(i j:Nat) x y,i<j→l[i]?=some x→l[j]?=some y→¬kv key y<kv key x)→xe key l
 |[],_=>trivial
 |x::l,h=>⟨fun y hy=>by
   obtain⟨j,hj⟩:=List.getElem?_of_mem hy
   exact h 0 (j+1) x y (by omega) rfl (by simpa using hj),y3 fun i j a b hij ha hb=>h (i+1) (j+1) a b (by omega) (by simpa using ha) (by simpa using hb)⟩
/-! ### The function -/
open Go.Sort (HoldsK putRowK PermIn SortedIn flatK)
theorem qs {k n:Nat} {l:List Int}:(ny k n l).length=n:=by simp[ny]
theorem oT {α β:Type} {f:α→Option β}:∀{l:List α} {m:List β},l.mapM f=some m→l.length=m.length∧∀(j:Nat) a b,l[j]?=some a→m[j]?=some b→f a=some b
 |[],m,h=>by simp at h;subst h;exact⟨rfl,fun j a b p q=>by simp at p⟩
 |x::l,m,h=>by
  simp only[List.mapM_cons,Option.pure_def,Option.bind_eq_bind,Option.bind_eq_some_iff,Option.some.injEq]at h
  obtain⟨y,hy,m',hm,rfl⟩:=h
  obtain⟨h1,h2⟩:=oT hm
  refine⟨by simp[h1],fun j a b p q=>?_⟩
  cases j with
  |zero=>simp at p q;subst p;subst q;exact hy
  |succ j=>exact h2 j a b (by simpa using p) (by simpa using q)
theorem lz:∀{cs:List D} {l:List Int},fR cs=some l→cs.mapM AX=some l
 |[],l,h=>by cases h;rfl
 |d::r,l,h=>by
  have key:∃n l',d=.int .i64 n∧fR r=some l'∧l=n::l':=by
   cases d with
   |int k n=>
    cases k with
    |i64=>
     simp only[fR]at h
     cases hr:fR r with
     |none=>rw[hr]at h;cases h
     |some l'=>rw[hr]at h;cases h;exact⟨n,l',rfl,rfl,rfl⟩
    |_=>simp[fR]at h
   |_=>simp[fR]at h
  obtain⟨n,l',rfl,hr,rfl⟩:=key
  rw[List.mapM_cons,lz hr]
  rfl
theorem vg {k:Nat} (key:Nat) (x:Vk k):∀s:List (Vk k),(uG key x s).map Vector.toList=xq key x.toList (s.map Vector.toList)
 |[]=>rfl
 |y::s=>by
  unfold uG xq kv
  simp only[List.map_cons]
  split
  ·rw[List.map_cons,vg key x s]
  ·rfl
theorem sF {k:Nat} (key:Nat):∀s:List (Vk k),(mU key s).map Vector.toList=od key (s.map Vector.toList)
 |[]=>rfl
 |x::s=>by
  show (uG key x (mU key s)).map Vector.toList=xq key x.toList (od key (s.map Vector.toList))
  rw[vg,sF key s]
theorem sY {k:Nat}:∀(n:Nat) (l:List Int),l.length=n*k→(ny k n l).map Vector.toList=HJ k n l
 |0,l,_=>rfl
 |n+1,l,h=>by
  have hl:(n+1)*k=k+n*k:=by rw[Nat.add_mul];omega
  have ih:=sY (k:=k) n (l.drop k) (by rw[List.length_drop];omega)
  unfold HJ
  rw[←ih]
  simp only[ny,List.range_succ_eq_map,List.map_cons,List.map_map]
  congr 1
  ·apply List.ext_getElem?
   intro j
   simp only[Vector.toList_ofFn,List.getElem?_ofFn]
   by_cases hj:j<k
   ·rw[dif_pos hj,List.getElem?_take_of_lt hj,List.getElem?_eq_getElem (by omega)]
    simp[List.getD,List.getElem?_eq_getElem (show j<l.length by omega)]
   ·rw[dif_neg hj,List.getElem?_eq_none (by simp;omega)]
  ·apply List.map_congr_left
   intro i hi
   simp only[Function.comp]
   apply List.ext_getElem?
   intro j
   simp only[Vector.toList_ofFn,List.getElem?_ofFn]
   split
   ·simp only[List.getD,List.getElem?_drop]
    rw[show (i+1)*k+j=k+(i*k+j)by rw[Nat.add_mul];omega]
   ·rfl
theorem xp {d:D} {n:Int} (h:AX d=some n):d=.int .i64 n:=by
 unfold AX at h
 split at h
 ·cases h;rfl
 ·cases h
theorem zx {k:Nat} (hk:0<k) (l:List (Vk k)) (t:Nat) (ht:t<l.length*k):(l.flatMap kN)[t]?=some (.int .i64 ((l.toArray[t / k]!).toList.getD (t%k) 0)):=by
 obtain⟨h1,h2,h3⟩:=kZ hk ht
 have:=mh (kN (k:=k)) k l (fun x _=>qJ x) (t / k) (t%k) h2
 rw[←h3]at this
 rw[this,List.getElem?_eq_getElem h1,Option.bind_some]
 simp only[kN,List.getElem?_map]
 have e:l.toArray[t / k]! =l[t / k]:=by simp[h1]
 rw[e]
 have h4:t%k<l[t / k].toList.length:=by simpa using h2
 rw[List.getElem?_eq_getElem h4,Option.map_some]
 simp[List.getD,List.getElem?_eq_getElem h4]
theorem rZ {k:Nat} (hk:0<k) (d:Array (Vk k)) (t:Nat) (ht:t<d.size*k):(flatK (fk k) k d)[t]! =.int .i64 ((d[t / k]!).toList.getD (t%k) 0):=by
 rw[Go.Sort.get_flatK _ _ _ _ ht]
 unfold fk
 have h2:t%k<(d[t / k]!).toList.length:=by simpa using Nat.mod_lt _ hk
 generalize (d[t / k]!).toList=l at h2 ⊢
 have h3:t%k<(l.map (Value.int .i64)).length:=by simpa using h2
 rw[getElem!_pos (l.map (Value.int .i64)) (t%k) h3,List.getElem_map]
 simp[List.getD,List.getElem?_eq_getElem h2]
theorem Bg {k n:Nat} (hk:0<k) {l:List Int} (hl:l.length=n*k) (t:Nat) (ht:t<n*k):(((ny k n l).toArray)[t / k]!).toList.getD (t%k) 0=l.getD t 0:=by
 obtain⟨h1,h2,h3⟩:=kZ hk ht
 have e:(ny k n l).toArray[t / k]! =Vector.ofFn fun(j:Fin k)=>l.getD (t / k*k+j) 0:=by
  simp[ny,h1]
 rw[e]
 simp only[List.getD,Vector.toList_ofFn]
 rw[List.getElem?_ofFn,dif_pos h2]
 simp only[Option.getD_some,Nat.div_add_mod']
theorem pc {k:Nat} (w:World) (b off:Nat) (d:Array (Vk k)) (vs:Array Value) (T:TypeId) (fr:Nat×Nat) (hh:w.heap[b]?=some (.cells vs T fr)):
  (putRowK (fk k) k w b off d).heap[b]?=some (.cells (Go.Sort.putCells id off (flatK (fk k) k d) vs) T fr):=by
 unfold putRowK Go.Sort.putRow Go.Sort.mapBlock
 simp only[Array.getElem?_modify,hh,if_true,Option.map_some]
 rfl
theorem HV {k:Nat} (w:World) (b off:Nat) (d:Array (Vk k)) (vs:Array Value) (T:TypeId) (fr:Nat×Nat) (hh:w.heap[b]?=some (.cells vs T fr)):Touch b w (putRowK (fk k) k w b off d):=by
 refine⟨rfl,rfl,rfl,?_,fun j hj=>?_,fun vs' T' fr' h=>?_⟩
 ·unfold putRowK Go.Sort.putRow Go.Sort.mapBlock
  simp
 ·unfold putRowK Go.Sort.putRow Go.Sort.mapBlock
  simp only[Array.getElem?_modify]
  rw[if_neg (Ne.symm hj)]
 ·rw[hh]at h
  cases h
  exact⟨_,pc w b off d vs T fr hh,by simp[Go.Sort.putCells]⟩
theorem sL {P:Program} {f g k key:Nat} (hk:0<k) (E:Hj P f)
  (hC:∀(blk off cap:Nat) (d:Array (Vk k)) (w:World),HoldsK (fk k) k w blk off d→blk<w.heap.size→d.size<4611686018427387904→
   Calls P f #[.slice (some ⟨blk,off,none⟩) d.size cap,.func (.func g) #[] #[]] w fun e w'=>e=.returned (.tuple #[])∧∃d' n os,PermIn 0 d.size d d'∧SortedIn (Go.Proofs.ltOf fun x y=>Go.Lib.compareInt (kv key x) (kv key y)) 0 d.size d'∧w'=Go.Proofs.sortWorldK (fk k) k w blk off n d' os)
  (hN:∀(w:World),Calls P f #[.slice none 0 0,.func (.func g) #[] #[]] w fun e w'=>e=.returned (.tuple #[])∧Below w.heap.size w w'):PrimSOK P f (jZ k key g):=by
 refine⟨E,fun B w gh st ds vs r st' hrel hv hF=>?_⟩
 unfold jZ at hF
 split at hF
 ·rename_i p off sz n c g'
  split at hF<;>try contradiction
  rename_i cs hbx
  split at hF<;>try contradiction
  rename_i l hl
  split at hF<;>try contradiction
  rename_i hcond
  obtain⟨rfl,rfl,rfl,hlim,hn,hbig,hdiff⟩:=hcond
  have hll0:l.length=n*sz:=by
   have:=(oT (lz hl)).1
   rw[←this,List.length_take];omega
  have hmapv:=sY (k:=sz) n l hll0
  have hkey:(HJ sz n l).map (fun x=>x.getD key 0)=(ny sz n l).map (kv key):=by
   rw[←hmapv,List.map_map];rfl
  rw[hkey]at hdiff
  have hcell:(od key (HJ sz n l)).flatMap (fun x=>x.map (D.int .i64))=(mU key (ny sz n l)).flatMap kN:=by
   rw[←hmapv,←sF,List.flatMap_map];rfl
  rw[hcell]at hF
  have hl:=lz hl
  simp only[Option.some.injEq,Prod.mk.injEq]at hF
  obtain⟨rfl,rfl⟩:=hF
  obtain⟨hvl,hvv⟩:=hv
  have hvl':vs.toList.length=2:=by simpa using hvl.symm
  obtain⟨v0,v1,hvs⟩:∃v0 v1,vs.toList=[v0,v1]:=by
   match hh:vs.toList,hvl' with
   |[a,b],_=>exact⟨a,b,rfl⟩
  have hvs':vs= #[v0,v1]:=by rw[←Array.toArray_toList (xs:=vs),hvs]
  subst hvs'
  have hv0:=hvv 0 _ v0 rfl rfl
  have hv1:=hvv 1 _ v1 rfl rfl
  obtain⟨b,o,cap,cells,T,rfl,hb,hh,hoo,hnc,hcc,hkk⟩:=hv0.rs_inv
  obtain⟨vs1,rfl,hv2⟩:=pJ hv1
  have:vs1= #[]:=by
   have:=hv2.1
   simpa using this.symm
  subst this
  obtain⟨b',hb',hB,hS,hbr⟩:=hrel.box p _ hbx
  rw[hb]at hb'
  cases hb'
  obtain⟨cells',T',hh',hle,hone,hcv⟩:=hbr
  rw[hh]at hh'
  cases hh'
  obtain⟨hml,hmg⟩:=oT hl
  have hll:l.length=n*sz:=by rw[←hml,List.length_take];omega
  have hon:o=0∨n=0:=by
   rcases hoo with h|h
   ·exact .inl h
   ·exact .inr (by omega)
  have hlt:=hrel.ltι p b hb
  generalize hd:(ny sz n l).toArray=d at*
  have hds:d.size=n:=by rw[←hd];simp[qs]
  have hH:HoldsK (fk sz) sz w b o d:=by
   intro j hj
   rw[Go.Sort.size_flatK,hds]at hj
   have ho:o=0:=by
    rcases hon with h|h
    ·exact h
    ·rw[h]at hj;simp at hj
   subst ho
   have hjc:j<cells.size:=by omega
   have hc0:cs[j]?=some (.int .i64 (l.getD j 0)):=by
    have h1:(cs.take (n*sz))[j]?=cs[j]?:=List.getElem?_take_of_lt hj
    have h2:j<l.length:=by omega
    have h3:j<cs.length:=by omega
    have:=hmg j cs[j] l[j] (by rw[h1];exact List.getElem?_eq_getElem h3) (List.getElem?_eq_getElem h2)
    rw[List.getElem?_eq_getElem h3,xp this]
    simp[List.getD,List.getElem?_eq_getElem h2]
   have:=(hcv j _ cells[j] hc0 (Array.getElem?_eq_getElem hjc)).int_inv
   refine⟨?_,?_⟩
   ·simp only[World.cell?,hh,Nat.zero_add]
    rw[rZ hk d j (by rw[hds];exact hj),←hd,Bg hk hll j hj]
    simp[Array.getElem?_eq_getElem hjc,this]
   ·simp[World.frozen?,hh]
  have:=hC b o cap d w hH hlt (by rw[hds];exact hbig)
  rw[hds]at this
  refine this.mono fun e w' hR=>?_
  obtain⟨rfl,d',q,os,hperm,hsort,rfl⟩:=hR
  obtain⟨hps,_,hpp⟩:=hperm
  have hd's:d'.size=n:=hps.trans hds
  have hd':d'.toList=mU key (ny sz n l):=by
   have e1:(d'.extract 0 n).toList=d'.toList:=by rw[Array.extract_eq_self_of_le (by omega)]
   have e2:(d.extract 0 n).toList=d.toList:=by rw[Array.extract_eq_self_of_le (by omega)]
   rw[e1,e2]at hpp
   have e3:d.toList=ny sz n l:=by rw[←hd]
   rw[e3]at hpp
   refine su (y3 fun i j x y hij hx hy=>?_) (rU key _) (hpp.trans (kV key _).symm) (fun x hx y hy e=>sJ hdiff x (hpp.mem_iff.mp hx) y (hpp.mem_iff.mp hy) e)
   have hj:j<d'.size:=by have:=(List.getElem?_eq_some_iff.mp hy).1;simpa using this
   have:=hsort i j (Nat.zero_le _) hij (by omega)
   have ex:d'[i]! =x:=by
    have hi:i<d'.size:=by omega
    rw[getElem!_pos d' i hi]
    have:=(List.getElem?_eq_some_iff.mp hx).2
    simpa using this
   have ey:d'[j]! =y:=by
    rw[getElem!_pos d' j hj]
    have:=(List.getElem?_eq_some_iff.mp hy).2
    simpa using this
   rw[ex,ey]at this
   intro hlt'
   simp[Go.Proofs.ltOf,Go.Lib.compareInt,hlt']at this
  have hahead:Below w.heap.size w (Go.Sort.ahead w q):=⟨rfl,rfl,rfl,Nat.le_refl _,fun _ _=>rfl⟩
  have s1:=Step.below_ hrel hahead
  have hh1:(Go.Sort.ahead w q).heap[b]?=some (.cells cells T (0,0)):=hh
  have ht:=HV (Go.Sort.ahead w q) b o d' cells T (0,0) hh1
  have hh2:=pc (Go.Sort.ahead w q) b o d' cells T (0,0) hh1
  have hext:=Ext.touch s1.rel hB hS ht
  have hsz2:(Go.Sort.putCells id o (flatK (fk sz) sz d') cells).size=cells.size:=by simp[Go.Sort.putCells]
  have s2:=Step.setBox (x:=.row ((mU key (ny sz n l)).flatMap kN++cs.drop (n*sz))) s1.rel hbx hb (Nat.not_lt.mpr hlim) ht (by
   have hfl:((mU key (ny sz n l)).flatMap kN).length=n*sz:=by
    rw[gN kN sz _ (fun x _=>qJ x),(kV key _).length_eq,qs]
   refine⟨_,T,hh2,by rw[hsz2,List.length_append,hfl,List.length_drop];omega,fun x hx=>?_,fun j x u hx hu=>?_⟩
   ·rcases List.mem_append.mp hx with hx|hx
    ·obtain⟨y,_,hy⟩:=List.mem_flatMap.mp hx
     obtain⟨m,_,rfl⟩:=List.mem_map.mp hy
     rfl
    ·exact hone x (List.mem_of_mem_drop hx)
   ·have hju:j<cells.size:=by
     have:=(Array.getElem?_eq_some_iff.1 hu).1
     rw[hsz2]at this
     exact this
    have hput:u=if o≤j∧j<o+(flatK (fk sz) sz d').size then(flatK (fk sz) sz d')[j - o]! else cells[j]:=by
     simp only[Go.Sort.putCells,Array.getElem?_mapIdx,Array.getElem?_eq_getElem hju,Option.map_some,Option.some.injEq,id]at hu
     exact hu.symm
    by_cases hjn:j<n*sz
    ·have ho:o=0:=by
      rcases hon with h|h
      ·exact h
      ·rw[h]at hjn;simp at hjn
     subst ho
     rw[List.getElem?_append_left (by omega)]at hx
     have hsl:(mU key (ny sz n l)).length=n:=by rw[(kV key _).length_eq,qs]
     rw[zx hk _ j (by rw[hsl];exact hjn)]at hx
     cases hx
     rw[if_pos ⟨Nat.zero_le _,by rw[Go.Sort.size_flatK,hd's];omega⟩,Nat.sub_zero,rZ hk d' j (by rw[hd's];exact hjn)]at hput
     rw[hput,←hd']
     exact .int _ _
    ·rw[List.getElem?_append_right (by omega),hfl,List.getElem?_drop,show n*sz+(j - n*sz)=j by omega]at hx
     have hnot:¬(o≤j∧j<o+(flatK (fk sz) sz d').size):=by
      rw[Go.Sort.size_flatK,hd's]
      rcases hon with h|h
      ·omega
      ·rw[h];simp
     rw[if_neg hnot]at hput
     rw[hput]
     exact((hcv j x cells[j] hx (Array.getElem?_eq_getElem hju)).mono s1.ext).mono hext)
  have hgrow:Below (putRowK (fk sz) sz (Go.Sort.ahead w q) b o d').heap.size (putRowK (fk sz) sz (Go.Sort.ahead w q) b o d') (Go.Proofs.sortWorldK (fk sz) sz w b o q d' os):=by
   refine⟨rfl,rfl,rfl,?_,fun j hj=>?_⟩
   ·simp[Go.Proofs.sortWorldK,Go.Sort.grow]
   ·simp only[Go.Proofs.sortWorldK,Go.Sort.grow]
    rw[Array.getElem?_append_left hj]
  have s3:=Step.below_ s2.rel hgrow
  have s12:=s1.trans hrel s2
  exact⟨.tuple #[],gh,rfl,.tuple [] #[] rfl (fun j c v h=>by simp at h),s12.trans hrel s3⟩
 ·rename_i sz g'
  split at hF<;>try contradiction
  rename_i hg
  subst hg
  simp only[Option.some.injEq,Prod.mk.injEq]at hF
  obtain⟨rfl,rfl⟩:=hF
  obtain⟨hvl,hvv⟩:=hv
  have hvl':vs.toList.length=2:=by simpa using hvl.symm
  obtain⟨v0,v1,hvs⟩:∃v0 v1,vs.toList=[v0,v1]:=by
   match hh:vs.toList,hvl' with
   |[a,b],_=>exact⟨a,b,rfl⟩
  have hvs':vs= #[v0,v1]:=by rw[←Array.toArray_toList (xs:=vs),hvs]
  subst hvs'
  have hv0:=hvv 0 _ v0 rfl rfl
  have hv1:=hvv 1 _ v1 rfl rfl
  obtain⟨vs1,rfl,hv2⟩:=pJ hv1
  have:vs1= #[]:=by
   have:=hv2.1
   simpa using this.symm
  subst this
  cases hv0 with
  |slice t sz xs A len cap vals hl hc ht hs hA hv=>
   obtain⟨rfl,rfl,rfl⟩:=ht
   refine(hN w).mono fun e w' hR=>?_
   obtain⟨rfl,hb⟩:=hR
   exact⟨.tuple #[],gh,rfl,.tuple [] #[] rfl (fun j c v h=>by simp at h),Step.below_ hrel hb⟩
 ·cases hF
end Go.Ev
