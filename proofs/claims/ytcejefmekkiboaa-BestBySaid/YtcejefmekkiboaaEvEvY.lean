/-
  What a row's arguments are, as data: read from the memory at the call.
-/
import Derived.Test.YtcejefmekkiboaaEvEvV
import Derived.DataReads
import Derived.ChangeReads
set_option linter.unusedVariables false
set_option linter.unusedSimpArgs false
set_option linter.unnecessarySimpa false
namespace Go.Ev
open Go.RowKit
inductive Sh where
 |bool|int (k:IntKind)|str|slice (agg:Bool) (e:List Sh)
mutual
def DS:Sh→D→Prop
 | .bool,d=>∃b,d=.bool b
 | .int k,d=>∃n,d=.int k n∧(Lit.int k n).wf=true
 | .str,d=>∃s,d=.str s
 | .slice true e,d=>∃xs:List D,d=.slice .no e.length xs∧∀x∈xs,∃cs,x=.agg cs∧HasShs e cs
 | .slice false e,d=>∃xs:List D,d=.slice .no e.length xs∧∀x∈xs,HasShs e [x]
def HasShs:List Sh→List D→Prop
 |[],ds=>ds=[]
 |s::r,ds=>∃d ds',ds=d::ds'∧DS s d∧HasShs r ds'
end
def BU (P:Program) (f:TypeId→Option (List Sh)):List Field→Nat→Option (List Sh)
 |[],_=>some []
 |fd::r,off=>if fd.offset=off then match f fd.type with
   |some s=>if s.length=P.cellsOf fd.type then(BU P f r (off+s.length)).map (s++ ·)else none
   |none=>none
  else none
def zb (s:List Sh):Nat→List Sh
 |0=>[]
 |n+1=>zb s n++s
def nQ (P:Program):Nat→TypeId→Option (List Sh)
 |0,_=>none
 |n+1,t=>match P.underlying t with
  |some .bool=>some [.bool]
  |some (.int k)=>some [.int k]
  |some .string=>some [.str]
  |some (.slice e)=>match nQ P n e,bN P e with
   |some s,some a=>if s.length=P.cellsOf e∧0<s.length∧(a=false→s.length=1)then some [.slice a s]else none
   |_,_=>none
  |some (.struct fs)=>match BU P (nQ P n) fs.toList 0 with
   |some s=>if s.length=P.cellsOf t then some s else none
   |none=>none
  |some (.array m e)=>match nQ P n e with
   |some s=>if s.length=P.cellsOf e∧m*s.length=P.cellsOf t then some (zb s m)else none
   |none=>none
  |_=>none
theorem HasShs.len:∀{s:List Sh} {ds:List D},HasShs s ds→ds.length=s.length
 |[],ds,h=>by simp[HasShs]at h;simp[h]
 |s::r,ds,h=>by
  obtain⟨d,ds',rfl,_,h2⟩:=h
  simp[HasShs.len h2]
theorem HasShs.append:∀{s s':List Sh} {ds ds':List D},HasShs s ds→HasShs s' ds'→HasShs (s++s') (ds++ds')
 |[],s',ds,ds',h,h'=>by simp[HasShs]at h;subst h;simpa using h'
 |s::r,s',ds,ds',h,h'=>by
  obtain⟨d,ds1,rfl,h1,h2⟩:=h
  exact⟨d,ds1++ds',rfl,h1,HasShs.append h2 h'⟩
def Cy (w:World):Ghost:=⟨fun b o=>∃v,w.cell? ⟨b,o,none⟩=some v,fun _=>none,fun _=>none⟩
theorem tG (w:World):Rel w.heap.size w (Cy w) Store.empty:=
 ⟨Nat.le_refl _,fun b o ⟨v,hv⟩=>World.block_lt_of_cell? w _ hv,fun l x hx=>by simp[Store.empty]at hx,fun l l' b x x' hx=>by simp[Store.empty]at hx,fun t r ht=>by simp[Store.empty]at ht,fun t t' r r' ht=>by simp[Store.empty]at ht,fun t r l b ht=>by simp[Store.empty]at ht,fun _ _=>rfl,fun _ _=>rfl,fun l b h=>(by cases h),Nat.le_refl _,Nat.le_refl _⟩
section
variable {H:Type} {enc:TypeId×Value→H} {P:Program} {w:World}
def Reads (w:World) (s:List Sh) (cs:List Value):Prop:=∃ds,HasShs s ds∧VRs w (Cy w) ds cs∧∀c∈ds,c.plain=true
theorem Reads.append {s s':List Sh} {cs cs':List Value} (h:Reads w s cs) (h':Reads w s' cs'):Reads w (s++s') (cs++cs'):=by
 obtain⟨ds,h1,h2,h3⟩:=h
 obtain⟨ds',h1',h2',h3'⟩:=h'
 exact⟨ds++ds',h1.append h1',h2.append h2',fun c hc=>by
  rcases List.mem_append.1 hc with h|h
  ·exact h3 c h
  ·exact h3' c h⟩
theorem Reads.one {s:Sh} {d:D} {v:Value} (h:DS s d) (hv:VR w (Cy w) d v) (hp:d.plain=true):Reads w [s] [v]:=
 ⟨[d],⟨d,[],rfl,h,rfl⟩,⟨rfl,fun j d' v' p q=>by
   cases j with
   |zero=>simp at p q;subst p;subst q;exact hv
   |succ j=>simp at p⟩,fun c hc=>by simp at hc;subst hc;exact hp⟩
theorem uD {α β:Type} {f:α→Option β}:∀{l:List α} {m:List β},l.mapM f=some m→∀x∈l,∃y,f x=some y:=fun h x hx=>by
 obtain⟨_,h2⟩:=kq f h
 obtain⟨i,hi,rfl⟩:=List.getElem_of_mem hx
 obtain⟨y,hy,_⟩:=h2 i _ (List.getElem?_eq_getElem hi)
 exact⟨y,hy⟩
theorem HX {f:TypeId→Option (List Sh)} (hf:∀t s,f t=some s→∀cs x,(∃g,DataW.trod enc P w 0 (fun _=>true) true g t cs=some x)→Reads w s cs) {cs:List Value} {g:Nat}:∀(fs:List Field) (off:Nat) (s:List Sh),BU P f fs off=some s→
  (∀fd∈fs,∃y,DataW.trod enc P w 0 (fun _=>true) true g fd.type ((cs.drop fd.offset).take (P.cellsOf fd.type))=some y)→off+s.length≤cs.length→Reads w s ((cs.drop off).take s.length)
 |[],off,s,h,_,_=>by
  simp[BU]at h
  subst h
  exact⟨[],rfl,⟨by simp,fun j d v p q=>by simp at p⟩,fun c hc=>by simp at hc⟩
 |fd::r,off,s,h,ha,hl=>by
  simp only[BU]at h
  split at h<;>try contradiction
  rename_i ho
  subst ho
  split at h<;>try contradiction
  rename_i s0 hs0
  split at h<;>try contradiction
  rename_i hlen
  obtain⟨s1,hs1,rfl⟩:=Option.map_eq_some_iff.1 h
  obtain⟨y,hy⟩:=ha fd (by simp)
  have h1:=hf fd.type s0 hs0 _ _ ⟨g,hy⟩
  have h2:=HX hf r (fd.offset+s0.length) s1 hs1 (fun fd' h'=>ha fd' (by simp[h'])) (by simp at hl;omega)
  have:=h1.append h2
  rw[←hlen]at this
  simp only[List.length_append,List.take_add,List.drop_drop]
  exact this
theorem sg {s:List Sh} {cs:List Value}:∀(m:Nat),(∀i,i<m→Reads w s ((cs.drop (i*s.length)).take s.length))→Reads w (zb s m) (cs.take (m*s.length))
 |0,_=>⟨[],rfl,⟨by simp,fun j d v p q=>by simp at p⟩,fun c hc=>by simp at hc⟩
 |m+1,h=>by
  have h1:=sg m (fun i hi=>h i (by omega))
  have h2:=h m (by omega)
  have:=h1.append h2
  simp only[zb,Nat.succ_mul,List.take_add]
  exact this
def GK (ag:Bool) (ds:List D):D:=if ag then .agg ds else ds.getD 0 .undef
theorem vB {ag:Bool} {s0:List Sh} (hz:0<s0.length) (ha:ag=false→s0.length=1) {a:Addr} {len cap:Nat} (hc:len≤cap) (he:∀i,i<len→∃cs,w.cells? 0 (a.add (i*s0.length)) s0.length=some cs∧Reads w s0 cs):Reads w [.slice ag s0] [.slice (some a) len cap]:=by
 have hspot:0<len→a.spot=none:=fun h0=>by
  obtain⟨cs,h1,_⟩:=he 0 h0
  obtain⟨_,h2,h3⟩:=World.cells?_some h1
  have h4:=h3 0 hz
  rw[List.getElem?_eq_getElem (by omega)]at h4
  simp only[Nat.zero_mul,Addr.add,if_true]at h4
  cases hs:a.spot with
  |none=>rfl
  |some q=>
   exfalso
   unfold World.cell? at h4
   split at h4
   ·simp[hs]at h4
   ·cases h4
 obtain⟨xs,hl,hx⟩:∃xs:List D,xs.length=len∧∀(i:Nat) x,xs[i]?=some x→∃ds cs,x=GK ag ds∧HasShs s0 ds∧VRs w (Cy w) ds cs∧(∀c∈ds,c.plain=true)∧w.cells? 0 (a.add (i*s0.length)) s0.length=some cs:=by
  clear hc hspot
  induction len with
  |zero=>exact⟨[],rfl,fun i x h=>by simp at h⟩
  |succ n ih=>
   obtain⟨xs,h1,h2⟩:=ih (fun i hi=>he i (by omega))
   obtain⟨cs,h3,ds,h4,h5,h6⟩:=he n (by omega)
   refine⟨xs++[GK ag ds],by simp[h1],fun i x hi=>?_⟩
   by_cases hlt:i<xs.length
   ·rw[List.getElem?_append_left hlt]at hi
    exact h2 i x hi
   ·rw[List.getElem?_append_right (by omega)]at hi
    have h0:i - xs.length=0:=by
     by_cases h:i - xs.length=0
     ·exact h
     ·rw[List.getElem?_eq_none (by simp;omega)]at hi;cases hi
    rw[h0]at hi
    cases hi
    have:i=n:=by omega
    subst this
    exact⟨ds,cs,rfl,h4,h5,h6,h3⟩
 have hcell:∀(ds:List D),HasShs s0 ds→(∀c∈ds,c.plain=true)→(GK ag ds).cells=ds:=fun ds h hp=>by
  cases ag with
  |true=>rfl
  |false=>
   have hl1:ds.length=1:=by rw[h.len];exact ha rfl
   match ds,hl1 with
   |[d],_=>
    have:=hp d (by simp)
    simp only[GK,Bool.false_eq_true,if_false,List.getD_cons_zero]
    cases d<;>simp_all[D.cells,D.plain]
 have key:∀(i:Nat) x (j:Nat) c,xs[i]?=some x→x.cells[j]?=some c→a.spot=none∧∃u,w.cell? ⟨a.block,a.off+(i*s0.length+j),none⟩=some u∧VR w (Cy w) c u:=by
  intro i x j c hxi hcj
  obtain⟨ds,cs,rfl,h1,h2,h3,h4⟩:=hx i x hxi
  rw[hcell ds h1 h3]at hcj
  have hj:j<ds.length:=(List.getElem?_eq_some_iff.1 hcj).1
  obtain⟨_,h5,h6⟩:=World.cells?_some h4
  have h7:=h6 j (by rw[←h1.len];exact hj)
  have hjc:j<cs.length:=by rw[←h2.1];exact hj
  rw[List.getElem?_eq_getElem hjc]at h7
  have hsp:a.spot=none:=hspot (by have:=(List.getElem?_eq_some_iff.1 hxi).1;omega)
  refine⟨hsp,_,?_,h2.2 j c _ hcj (List.getElem?_eq_getElem hjc)⟩
  rw[dj _ hsp,dj _ rfl]at h7
  simpa[Nat.add_assoc]using h7
 have hcs:∀(i:Nat) (x:D),xs[i]?=some x→x.cells.length=s0.length∧∀c∈x.cells,c.plain=true:=fun i x hxi=>by
  obtain⟨ds,cs,rfl,h1,h2,h3,h4⟩:=hx i x hxi
  rw[hcell ds h1 h3]
  exact⟨h1.len,h3⟩
 refine Reads.one (d:=.slice .no s0.length xs) ?_ (.slice .no s0.length xs (some a) len cap (fun i j=>(w.cell? ⟨a.block,a.off+(i*s0.length+j),none⟩).getD Go.undef) hl hc trivial hcs (fun i x j c h1 h2=>?_) (fun i x j c h1 h2=>?_)) rfl
 ·cases ag with
  |true=>
   refine⟨xs,rfl,fun x hx'=>?_⟩
   obtain⟨i,hi,rfl⟩:=List.getElem_of_mem hx'
   obtain⟨ds,cs,h0,h1,_⟩:=hx i _ (List.getElem?_eq_getElem hi)
   exact⟨ds,h0,h1⟩
  |false=>
   refine⟨xs,rfl,fun x hx'=>?_⟩
   obtain⟨i,hi,rfl⟩:=List.getElem_of_mem hx'
   obtain⟨ds,cs,h0,h1,h2,h3,_⟩:=hx i _ (List.getElem?_eq_getElem hi)
   have hl1:ds.length=1:=by rw[h1.len];exact ha rfl
   rw[h0]
   match ds,hl1 with
   |[d],_=>exact h1
 ·obtain⟨hsp,u,h3,h4⟩:=key i x j c h1 h2
  exact⟨a,rfl,⟨u,h3⟩,hsp,by rw[h3];rfl⟩
 ·obtain⟨hsp,u,h3,h4⟩:=key i x j c h1 h2
  rw[h3]
  exact h4
theorem Ai {ag:Bool} {s0:List Sh}:Reads w [.slice ag s0] [.slice none 0 0]:=by
 refine Reads.one (d:=.slice .no s0.length []) ?_ (.slice .no s0.length [] none 0 0 (fun _ _=>Go.undef) rfl (Nat.le_refl _) trivial (fun i x h=>by simp at h) (fun i x j c h=>by simp at h) (fun i x j c h=>by simp at h)) rfl
 cases ag
 ·exact⟨[],rfl,fun x h=>by simp at h⟩
 ·exact⟨[],rfl,fun x h=>by simp at h⟩
theorem vz:∀(n:Nat) (t:TypeId) (s:List Sh),nQ P n t=some s→∀(cs:List Value) (x:DataW H×List MemPlace),(∃g,DataW.trod enc P w 0 (fun _=>true) true g t cs=some x)→Reads w s cs
 |0,t,s,h,_,_,_=>by simp[nQ]at h
 |n+1,t,s,h,cs,x,⟨g,hx⟩=>by
  have ih:=vz n
  cases g with
  |zero=>simp[DataW.trod]at hx
  |succ g=>
   simp only[nQ]at h
   split at h<;>try contradiction
   ·rename_i hT
    cases h
    simp only[DataW.trod,hT]at hx
    split at hx<;>simp_all
    rename_i b
    exact Reads.one ⟨b,rfl⟩ (.bool b) rfl
   ·rename_i k hT
    cases h
    simp only[DataW.trod,hT]at hx
    split at hx<;>simp_all
    obtain⟨⟨rfl,hw⟩,_⟩:=hx
    exact Reads.one ⟨_,rfl,hw⟩ (.int _ _) rfl
   ·rename_i hT
    cases h
    simp only[DataW.trod,hT]at hx
    split at hx<;>simp_all
    exact Reads.one ⟨_,rfl⟩ (.str _) rfl
   ·rename_i e hT
    split at h<;>try contradiction
    rename_i s0 ag hs0 hag
    split at h<;>try contradiction
    rename_i hc
    obtain⟨hc1,hc2,hc3⟩:=hc
    cases h
    simp only[DataW.trod,hT]at hx
    split at hx
    all_goals try (rename_i h0;cases h0;done)
    all_goals try contradiction
    case h_7=>exact Ai
    case h_8=>
     rename_i e' a len cap h0
     cases h0
     split at hx<;>try contradiction
     rename_i hcond
     obtain⟨_,hlc,_⟩:=hcond
     obtain⟨elems,hm,_⟩:=Option.bind_eq_some_iff.1 hx
     refine vB hc2 hc3 hlc (fun i hi=>?_)
     obtain⟨y,hy⟩:=uD hm i (by simpa using hi)
     obtain⟨cs,h1,h2⟩:=Option.bind_eq_some_iff.1 hy
     rw[←hc1]at h1
     exact⟨cs,h1,ih e s0 hs0 cs y ⟨g,h2⟩⟩
   ·rename_i fs hT
    split at h<;>try contradiction
    rename_i s0 hs0
    split at h<;>try contradiction
    rename_i hlen
    cases h
    have hx':∃xs,cs.length=P.cellsOf t∧(fs.toList.mapM fun f=>DataW.trod enc P w 0 (fun _=>true) true g f.type ((cs.drop f.offset).take (P.cellsOf f.type)))=some xs:=by
     simp only[DataW.trod,hT]at hx
     split at hx<;>try contradiction
     rename_i hl
     obtain⟨xs,hm,_⟩:=Option.map_eq_some_iff.1 hx
     exact⟨xs,hl,hm⟩
    obtain⟨xs,hl,hm⟩:=hx'
    have:=HX (enc:=enc) (P:=P) (w:=w) (cs:=cs) (g:=g) ih fs.toList 0 s hs0 (uD hm) (by omega)
    simpa[hlen,←hl]using this
   ·rename_i m e hT
    split at h<;>try contradiction
    rename_i s0 hs0
    split at h<;>try contradiction
    rename_i hlen
    obtain⟨hl1,hl2⟩:=hlen
    cases h
    simp only[DataW.trod,hT]at hx
    split at hx<;>try contradiction
    rename_i hl
    obtain⟨xs,hm,_⟩:=Option.map_eq_some_iff.1 hx
    have:=sg (w:=w) (s:=s0) (cs:=cs) m (fun i hi=>by
     obtain⟨y,hy⟩:=uD hm i (by simpa using hi)
     rw[←hl1]at hy
     exact ih e s0 hs0 _ _ ⟨g,hy⟩)
    rw[hl2,←hl]at this
    simpa using this
end
end Go.Ev
