/-
  What the heap's functions come to: one ahead of another one.
-/
import Derived.Test.YtcejefmekkiboaaBesBesC
import Derived.Test.YtcejefmekkiboaaEvEvN
import Derived.Test.YtcejefmekkiboaaEvEvX11
set_option linter.unusedVariables false
set_option linter.unusedSimpArgs false
set_option linter.unnecessarySimpa false
namespace Go.Bes
open Go.Ev
theorem CM (a:Int):EvP Γ 37 [.int .i64 a] (.bool false):=by
 refine aJ rfl rfl ?_
 repeat' (first
 |(refine al ?_;first
 |refine mI ?_
 |refine mB ?_
 |refine ca rfl rfl rfl rfl (by omega) ?_
 |refine Hd ?_)
 |refine He ?_
 |refine Ir ?_
 |refine an ?_)
 all_goals first|exact aK (by simp) rfl rfl|(exfalso;simp_all;done)|(exfalso;omega)
def ke (a b:Int):Int:=if a<b then -1 else if b<a then 1 else 0
theorem mj (a b:Int):EvP Γ 24 [.int .i64 a,.int .i64 b] (.int .i64 (ke a b)):=by
 refine aJ rfl rfl ?_
 repeat' (first
 |(refine al ?_;first
 |refine mI ?_
 |refine mB ?_
 |(refine gU rfl rfl rfl rfl ?_ ?_<;>intro _)
 |(refine jl rfl rfl rfl rfl ?_ ?_<;>intro _)
 |refine cA rfl (CM _) ?_
 |refine Hd ?_)
 |refine He ?_
 |refine Ir ?_
 |refine Hg ?_
 |refine aj rfl ?_
 |refine ah rfl ?_
 |refine an ?_)
 all_goals refine fJ (by simp) rfl ?_
 all_goals unfold ke
 all_goals simp_all
 all_goals omega
def tJ:List Int→Int
 |[]=>0
 |x::l=>if x=0 then tJ l else x
theorem GS (t:Tok) (ls:List Int) (hl:ls.length≤1073741824):∀(post pre:List Int),ls=pre++post→(∀x∈pre,x=0)→
  ∀(ρ:Nat→D) (h3:ρ 3=.int .i64 0) (h6:ρ 6=.slice t 1 (ls.map (D.int .i64))) (h7:ρ 7=.int .i64 ls.length) (h8:ρ 8=.int .i64 pre.length) (Q:X→(Nat→D)→Store→Prop),
  (tJ ls=0→∀ρ',ρ' 3=.int .i64 0→Q (.exit 0) ρ' Store.empty)→(∀ρ',ρ' 2=.int .i64 (tJ ls)→Q .ret ρ' Store.empty)→WC Γ (.loop lr) ρ Store.empty Q:=by
 intro post
 induction post with
 |nil=>
  intro pre hp hz ρ h3 h6 h7 h8 Q hQ hQ2
  rw[List.append_nil]at hp
  subst hp
  have:tJ ls=0:=by
   clear hl h6 h7 h8 hQ hQ2
   induction ls with
   |nil=>rfl
   |cons x l ih=>rw[tJ,if_pos (hz x (by simp)),ih (fun y hy=>hz y (by simp[hy]))]
  rw[←aa h3,←aa h6,←aa h7,←aa h8]
  refine Hh ?_
  repeat' (first
 |(refine al ?_;first
 |refine lF ?_
 |refine Hd ?_)
 |refine He ?_
 |refine Ir ?_
 |refine ah rfl ?_
 |refine Hi ?_)
  exact hQ this _ rfl
 |cons x post ih=>
  intro pre hp hz ρ h3 h6 h7 h8 Q hQ hQ2
  have hv:ls[pre.length]?=some x:=by rw[hp];simp
  have hlen:ls.length=pre.length+(post.length+1):=by rw[hp];simp
  rw[←aa h3,←aa h6,←aa h7,←aa h8]
  refine Hh ?_
  repeat' (first
 |(refine al ?_;first
 |refine mI ?_
 |refine lT ?_
 |(refine j5 rfl rfl rfl rfl ?_ ?_<;>intro _)
 |refine aD ?_
 |refine lE (d:=.int _ _) hv ?_
 |refine dT rfl rfl rfl rfl (by first|rfl|exact jB (by assumption) (by omega)) (by first|decide|(simp only[List.length_map];omega)) ?_
 |refine Hd ?_)
 |refine He ?_
 |refine Ir ?_
 |refine Hg ?_
 |refine aj rfl ?_
 |refine ah rfl ?_
 |refine Hf ?_
 |refine an ?_)
  ·rename_i hx
   exact ih (pre++[x]) (by simp[hp]) (fun y hy=>by
    rcases List.mem_append.mp hy with h|h
    ·exact hz y h
    ·rw[List.mem_singleton.mp h];exact hx) _ rfl rfl rfl (by rw[List.length_append];rfl) Q hQ hQ2
  ·rename_i hx
   refine hQ2 _ ?_
   have:tJ ls=x:=by
    rw[hp]
    clear hp hl h6 h7 h8 hQ hQ2 ih hv hlen
    induction pre with
    |nil=>simp only[List.nil_append,tJ];rw[if_neg hx]
    |cons y pre ih=>rw[List.cons_append,tJ,if_pos (hz y (by simp)),ih (fun z hz'=>hz z (by simp[hz']))]
   rw[this]
   rfl
theorem GR (t:Tok) (ls:List Int) (hl:ls.length≤1073741824):EvP Γ 23 [.slice t 1 (ls.map (D.int .i64))] (.int .i64 (tJ ls)):=by
 refine aJ rfl rfl ?_
 repeat' (first
 |(refine al ?_;first
 |refine mI ?_
 |refine mS ?_
 |refine lN ?_
 |refine Hd ?_)
 |refine He ?_
 |refine Ir ?_
 |refine Hf ?_)
 refine GS t ls hl ls [] rfl (by simp) _ rfl rfl rfl rfl _ (fun h0 ρ h3=>?_) (fun ρ h2=>?_)
 ·rw[←aa h3]
  repeat' (first
 |(refine al ?_;first
 |refine mI ?_
 |refine Hd ?_)
 |refine He ?_
 |refine Ir ?_
 |refine an ?_)
  exact fJ (by simp) rfl h0.symm
 ·exact fJ (by simp) (show some (ρ 2)=_ by rw[h2]) rfl
theorem Cm (t:Tok) (a b:Int):EvP Γ 23 [.slice t 1 [.int .i64 a,.int .i64 b]] (.int .i64 (tJ [a,b])):=GR t [a,b] (by simp)
structure Rd where
 node:Int
 at':Int
deriving DecidableEq
def Rd.e (r:Rd):D:=.agg [.int .i64 r.node,.int .i64 r.at']
def Rd.lt (a b:Rd):Prop:=a.at'<b.at'∨(a.at'=b.at'∧a.node<b.node)
instance (a b:Rd):Decidable (a.lt b):=by unfold Rd.lt;infer_instance
theorem fP {l:List Rd}:∀d∈l.map Rd.e,d.cells.length=2:=fun d hd=>by
 obtain⟨b,_,rfl⟩:=List.mem_map.mp hd;rfl
theorem u6 {l:List Rd} {i:Nat} {b:Rd} (h:l[i]?=some b):(l.map Rd.e)[i]?=some (.agg [.int .i64 b.node,.int .i64 b.at']):=by
 rw[List.getElem?_map,h];rfl
theorem Ee (a b:Rd):decide (tJ [ke a.at' b.at',ke a.node b.node]<0)=decide (a.lt b):=by
 congr 1
 simp only[tJ,ke,Rd.lt,eq_iff_iff]
 repeat' split
 all_goals constructor
 all_goals intro h
 all_goals omega
theorem Dc (xs:List Rd) (hx:xs.length≤1073741824) (st:Store) (h r c i k:Nat) (a b:Rd) (hb:(st.boxes h).bind Box.cs=some [.rs r 0 2 xs.length c]) (hh:h<st.next) (hr:r<st.next) (hR:RowAt st r 2 (xs.map Rd.e)) (ha:xs[i]?=some a) (hk:xs[k]?=some b):
  EvRO Γ 63 [.ptr h 0,.int .i64 i,.int .i64 k] st (.bool (decide (a.lt b))):=by
 have hi':i<xs.length:=(List.getElem?_eq_some_iff.mp ha).1
 have hk':k<xs.length:=(List.getElem?_eq_some_iff.mp hk).1
 have ha':=u6 ha
 have hb':=u6 hk
 refine dg rfl rfl rfl ?_
 repeat' (first
 |(refine al ?_;first
 |refine mB ?_
 |refine Hd ?_)
 |refine He ?_
 |refine Ir ?_)
 refine HC ?_
 simp only[o3,o4,o5,m3,s_,gM,gw,Store.ahead,jc,kS,Nat.add_assoc,Nat.reduceAdd,List.length_cons,List.length_nil]
 have q1:∀{p:Nat} {x y:Option Box},p<st.next→ap (ap st.boxes (st.next+14) x) (st.next+15) y p=st.boxes p:=fun{p x y} hp=>(ab _ _ (by omega)).trans (ab _ _ (by omega))
 have q2:∀{x y:Option Box},ap (ap st.boxes (st.next+14) x) (st.next+15) y (st.next+14)=x:=fun{x y}=>(ab _ _ (by omega)).trans (ae _ _ _)
 have q3:∀{x y z:Option Box},ap (ap (ap st.boxes (st.next+14) x) (st.next+15) y) (st.next+14) z (st.next+15)=y:=fun{x y z}=>(ab _ _ (by omega)).trans (ae _ _ _)
 have q4:∀{x y z u:Option Box},ap (ap (ap (ap st.boxes (st.next+14) x) (st.next+15) y) (st.next+14) z) (st.next+15) u (st.next+14)=z:=fun{x y z u}=>(ab _ _ (by omega)).trans (ae _ _ _)
 have hb1:∀{x y:Option Box},((ap (ap st.boxes (st.next+14) x) (st.next+15) y) h).bind Box.cs=some [.rs r 0 2 xs.length c]:=fun{x y}=>by rw[q1 hh];exact hb
 generalize hN:st.next=N at*
 repeat' (first
 |(refine al ?_;first
 |refine aA (j:=i) rfl rfl rfl rfl hi' ?_
 |refine aA (j:=k) rfl rfl rfl rfl hk' ?_
 |refine am (cs':=[_,_]) rfl rfl q2 rfl (Nat.le_add_right _ _) rfl rfl rfl ?_
 |refine am (cs':=[_,_]) rfl rfl q3 rfl (Nat.le_add_right _ _) rfl rfl rfl ?_
 |refine mI ?_
 |refine mP ?_
 |refine fT (agg:=false) (d:=.rs r 0 2 xs.length c) rfl rfl rfl hb1 hh rfl ?_
 |refine aH (j:=i) rfl rfl (hR.of (q1 hr)) (Nat.zero_add _) fP ha' rfl ?_
 |refine aH (j:=k) rfl rfl (hR.of (q1 hr)) (Nat.zero_add _) fP hb' rfl ?_
 |refine fD ?_
 |refine aP rfl rfl ?_
 |refine Hd ?_))
 refine⟨?_,?_⟩
 ·rw[Bool.and_eq_true]
  have e1:(decide (h<N))=true:=by simp;omega
  have e2:(decide (r<N))=true:=by simp;omega
  have e3:(N+14==r)=false:=by simp;omega
  have e4:(N+14==h)=false:=by simp;omega
  have e5:(h==N+14)=false:=by simp;omega
  have e6:(r==N+14)=false:=by simp;omega
  have e7:(h==N+15)=false:=by simp;omega
  have e8:(r==N+15)=false:=by simp;omega
  constructor
  ·simp[bB,List.range,List.range.loop,Fl.clash,e3,e4,e5,e6,e7,e8]
  ·simp[jI,rG,List.range,List.range.loop,e1,e2]
 repeat' (first
 |(refine al ?_;first
 |refine mB ?_
 |(refine gU rfl rfl rfl rfl ?_ ?_<;>intro _)
 |refine ai (agg:=false) (d:=.int _ _) rfl rfl rfl (eG (by omega) (aY rfl)) (Nat.le_add_right _ _) rfl ?_
 |refine ai (agg:=false) (d:=.int _ _) rfl rfl rfl (aY rfl) (Nat.le_add_right _ _) rfl ?_
 |refine cA rfl (mj _ _) ?_
 |refine cA rfl (Cm _ _ _) ?_
 |refine fD ?_
 |refine bg (ys:=[_,_]) rfl rfl rfl (by decide) rfl ?_
 |refine Hd ?_)
 |refine He ?_
 |refine ay ?_
 |refine an ?_
 |refine au rfl ?_)
 all_goals
  rename_i hlt
  refine⟨.inr rfl,?_⟩
  rw[←Ee]
  simp[hlt]
  rfl
end Go.Bes
/-
  What the heap's functions come to: a heap in memory; two change their places.
-/
namespace Go.Bes
open Go.Ev
structure HW (st:Store) (h:Nat) (o:Option Nat) (xs:List Rd):Prop where
 lim:st.lim≤h
 nx:h<st.next
 sl:(o=none∧xs=[]∧st.boxes h=some (.cells [.slice .isnil 0 []]))∨(∃r c,o=some r∧r≠h∧st.boxes h=some (.cells [.rs r 0 2 xs.length c])∧RowIs st r 2 (xs.map Rd.e)∧xs.length≤c)
theorem HW.of {st st':Store} {h:Nat} {o:Option Nat} {xs:List Rd} (H:HW st h o xs) (hl:st'.lim=st.lim) (hn:st.next≤st'.next) (hb:∀q,q<st.next→q=h∨some q=o→st'.boxes q=st.boxes q):HW st' h o xs:=by
 obtain⟨h1,h2,h3⟩:=H
 refine⟨by rw[hl];exact h1,Nat.lt_of_lt_of_le h2 hn,?_⟩
 rcases h3 with⟨e1,e2,e3⟩|⟨r,c,e1,e2,e3,e4,e5⟩
 ·exact .inl ⟨e1,e2,by rw[hb h h2 (.inl rfl)];exact e3⟩
 ·exact .inr ⟨r,c,e1,e2,by rw[hb h h2 (.inl rfl)];exact e3,e4.of (by rw[hl];exact e4.1) (Nat.lt_of_lt_of_le e4.2.1 hn) (hb r e4.2.1 (.inr e1.symm)),e5⟩
structure Fr (st st':Store) (h:Nat) (o o':Option Nat):Prop where
 lim:st'.lim=st.lim
 tlim:st'.tlim=st.tlim
 toks:st'.toks=st.toks
 ntok:st'.ntok=st.ntok
 next:st.next≤st'.next
 box:∀q,q<st.next→q≠h→some q≠o→st'.boxes q=st.boxes q
 own:o'=o∨∃r,o'=some r∧st.next≤r
theorem Fr.refl (st:Store) (h:Nat) (o:Option Nat):Fr st st h o o:=⟨rfl,rfl,rfl,rfl,Nat.le_refl _,fun _ _ _ _=>rfl,.inl rfl⟩
theorem Fr.trans {st st1 st2:Store} {h:Nat} {o o1 o2:Option Nat} (a:Fr st st1 h o o1) (b:Fr st1 st2 h o1 o2):Fr st st2 h o o2 where
 lim:=b.lim.trans a.lim
 tlim:=b.tlim.trans a.tlim
 toks:=b.toks.trans a.toks
 ntok:=b.ntok.trans a.ntok
 next:=Nat.le_trans a.next b.next
 box q hq h1 h2:=by
  refine(b.box q (Nat.lt_of_lt_of_le hq a.next) h1 (fun e=>?_)).trans (a.box q hq h1 h2)
  rcases a.own with rfl|⟨r,rfl,hr⟩
  ·exact h2 e
  ·cases e;omega
 own:=by
  rcases b.own with rfl|⟨r,rfl,hr⟩
  ·exact a.own
  ·exact .inr ⟨r,rfl,Nat.le_trans a.next hr⟩
def tT (xs:List Rd) (i k:Nat) (a b:Rd):List Rd:=(xs.set i b).set k a
theorem Eh (xs:List Rd) (hx:xs.length≤1073741824) (st:Store) (h:Nat) (o:Option Nat) (i k:Nat) (a b:Rd) (hH:HW st h o xs) (ha:xs[i]?=some a) (hk:xs[k]?=some b):
  EvRWX Γ 61 [.ptr h 0,.int .i64 i,.int .i64 k] st (fun r st'=>r=.tuple []∧HW st' h o (tT xs i k a b)∧Fr st st' h o o):=by
 have hi':i<xs.length:=(List.getElem?_eq_some_iff.mp ha).1
 have hk':k<xs.length:=(List.getElem?_eq_some_iff.mp hk).1
 obtain⟨hlim,hnx,⟨rfl,rfl,_⟩|⟨r,c,rfl,hrh,hb,hR,hcap⟩⟩:=hH
 ·simp at hi'
 have hb1:(st.boxes h).bind Box.cs=some [.rs r 0 2 xs.length c]:=by rw[hb];rfl
 have ha':=u6 ha
 have hb':=u6 hk
 have hi2:i<(xs.map Rd.e).length:=by simpa using hi'
 refine aR rfl rfl ?_
 repeat' (first
 |(refine al ?_;first
 |refine aA (j:=i) rfl rfl rfl rfl hi' ?_
 |refine aA (j:=k) rfl rfl rfl rfl hk' ?_
 |refine mI ?_
 |refine mP ?_
 |refine ai (agg:=false) (d:=.rs r 0 2 xs.length c) rfl rfl rfl hb1 hlim rfl ?_
 |refine aH (j:=i) rfl rfl hR.at (Nat.zero_add _) fP ha' rfl ?_
 |refine aH (j:=k) rfl rfl hR.at (Nat.zero_add _) fP hb' rfl ?_
 |(refine ck (j:=i) rfl rfl rfl hR (Nat.zero_add _) fP hi2 rfl rfl rfl ?_<;>intro st1 e1 e2 e3 e4 e5 hR1 hb2)
 |refine fD ?_
 |refine aP rfl rfl ?_)
 |refine ay ?_)
 have hk2:k<((xs.map Rd.e).set i (.agg [.int .i64 b.node,.int .i64 b.at'])).length:=by simpa using hk'
 refine ck (j:=k) rfl rfl rfl hR1 (Nat.zero_add _) ?_ hk2 rfl rfl rfl ?_
 ·intro d hd
  rcases List.mem_or_eq_of_mem_set hd with hd|rfl
  ·exact fP d hd
  ·rfl
 intro st2 f1 f2 f3 f4 f5 hR2 hb3
 have hsw:((xs.map Rd.e).set i (.agg [.int .i64 b.node,.int .i64 b.at'])).set k (.agg [.int .i64 a.node,.int .i64 a.at'])=(tT xs i k a b).map Rd.e:=by
  simp[tT,List.map_set,Rd.e]
 rw[hsw]at hR2
 repeat' (first
 |(refine al ?_;first
 |refine Hd ?_)
 |refine au rfl ?_)
 refine⟨.inl rfl,_,rfl,rfl,⟨by rw[f1,e1];exact hlim,by rw[f5,e5];exact hnx,.inr ⟨r,c,rfl,hrh,?_,hR2,by rw[show (tT xs i k a b).length=xs.length by simp[tT]];exact hcap⟩⟩,⟨f1.trans e1,f2.trans e2,f3.trans e3,f4.trans e4,Nat.le_of_eq (f5.trans e5).symm,fun q hq h1 h2=>?_,.inl rfl⟩⟩
 ·rw[hb3 h (Ne.symm hrh),hb2 h (Ne.symm hrh),hb]
  simp[tT]
 ·have:q≠r:=fun e=>h2 (by rw[e])
  rw[hb3 q this,hb2 q this]
end Go.Bes
/-
  Plain laws of heaps and rows in order; no program in it.
-/
namespace Go.Bes
open Go.Ev
def c9 (xs:List Rd) (i:Nat):Rd:=xs.getD i ⟨0,0⟩
theorem fL {xs:List Rd} {i:Nat} (h:i<xs.length):xs[i]?=some (c9 xs i):=by
 simp[c9,List.getD,List.getElem?_eq_getElem h]
theorem xa {xs:List Rd} {i:Nat} {a:Rd} (h:xs[i]?=some a):c9 xs i=a:=by simp[c9,List.getD,h]
theorem eU (xs:List Rd) (i k:Nat) (a b:Rd):(tT xs i k a b).length=xs.length:=by simp[tT]
theorem i6 {xs:List Rd} {i k:Nat} (hi:i<xs.length) (hk:k<xs.length) (j:Nat):c9 (tT xs i k (c9 xs i) (c9 xs k)) j=if j=k then c9 xs i else if j=i then c9 xs k else c9 xs j:=by
 unfold tT
 by_cases h1:j=k
 ·subst h1
  rw[if_pos rfl]
  exact xa (by rw[List.getElem?_set_self (by simpa using hk)])
 ·rw[if_neg h1]
  by_cases h2:j=i
  ·subst h2
   rw[if_pos rfl]
   exact xa (by rw[List.getElem?_set_ne (Ne.symm h1),List.getElem?_set_self hi])
  ·rw[if_neg h2]
   unfold c9 List.getD
   rw[List.getElem?_set_ne (Ne.symm h1),List.getElem?_set_ne (Ne.symm h2)]
theorem rh {xs:List Rd} {i k:Nat} (hi:i<xs.length) (hk:k<xs.length):(tT xs i k (c9 xs i) (c9 xs k)).Perm xs:=by
 have ha:=(List.getElem?_eq_some_iff.mp (fL hi)).2
 have hb:=(List.getElem?_eq_some_iff.mp (fL hk)).2
 have:=List.set_set_perm (i:=i) (j:=k) hi hk
 rw[ha,hb]at this
 exact this
theorem lt_irrefl (a:Rd):¬a.lt a:=by unfold Rd.lt;omega
theorem nZ {a b:Rd} (h:a.lt b):¬b.lt a:=by unfold Rd.lt at*;omega
theorem oz {a b c:Rd} (h:¬b.lt a) (h':¬c.lt b):¬c.lt a:=by unfold Rd.lt at*;omega
theorem GE {a b c:Rd} (h:a.lt b) (h':¬c.lt b):¬c.lt a:=by unfold Rd.lt at*;omega
theorem ww {a b:Rd} (h:¬a.lt b) (h':¬b.lt a):a=b:=by
 obtain⟨n,t⟩:=a
 obtain⟨m,u⟩:=b
 unfold Rd.lt at*
 simp only at*
 have:t=u:=by omega
 have:n=m:=by omega
 subst_vars
 rfl
def hp (xs:List Rd):Prop:=∀j,0<j→j<xs.length→¬(c9 xs j).lt (c9 xs ((j - 1) / 2))
def zy (k:Nat) (xs:List Rd):Prop:=(∀j,0<j→j<xs.length→(j - 1) / 2≠k→¬(c9 xs j).lt (c9 xs ((j - 1) / 2)))∧(∀j,0<j→j<xs.length→(j - 1) / 2=k→0<k→¬(c9 xs j).lt (c9 xs ((k - 1) / 2)))
def FI (k:Nat) (xs:List Rd):Prop:=(∀j,0<j→j<xs.length→j≠k→¬(c9 xs j).lt (c9 xs ((j - 1) / 2)))∧(∀j,0<j→j<xs.length→(j - 1) / 2=k→0<k→¬(c9 xs j).lt (c9 xs ((k - 1) / 2)))
def sh (xs:List Rd) (l b:Nat):Nat:=if b<xs.length∧(c9 xs b).lt (c9 xs l)then b else l
theorem rQ {xs:List Rd} {k:Nat} (h:zy k xs) (he:sh xs (sh xs k (2*k+1)) (2*k+2)=k):hp xs:=by
 intro j h0 hj
 by_cases hp:(j - 1) / 2=k
 ·have hjk:j=2*k+1∨j=2*k+2:=by omega
  rw[hp]
  unfold sh at he
  intro hlt
  by_cases c1:2*k+1<xs.length∧(c9 xs (2*k+1)).lt (c9 xs k)
  ·rw[if_pos c1]at he
   split at he<;>omega
  ·rw[if_neg c1]at he
   rcases hjk with rfl|rfl
   ·exact c1 ⟨hj,hlt⟩
   ·rw[if_pos ⟨hj,hlt⟩]at he
    omega
 ·exact h.1 j h0 hj hp
theorem zm {xs:List Rd} {k l:Nat} (h:zy k xs) (hk:k<xs.length) (hl:sh xs (sh xs k (2*k+1)) (2*k+2)=l) (hne:l≠k):k<l∧l<xs.length∧zy l (tT xs k l (c9 xs k) (c9 xs l)):=by
 have key:(l=2*k+1∨l=2*k+2)∧l<xs.length∧(c9 xs l).lt (c9 xs k)∧∀j,j<xs.length→(j=2*k+1∨j=2*k+2)→¬(c9 xs j).lt (c9 xs l):=by
  unfold sh at hl
  by_cases c1:2*k+1<xs.length∧(c9 xs (2*k+1)).lt (c9 xs k)
  ·rw[if_pos c1]at hl
   by_cases c2:2*k+2<xs.length∧(c9 xs (2*k+2)).lt (c9 xs (2*k+1))
   ·rw[if_pos c2]at hl
    subst hl
    refine⟨.inr rfl,c2.1,?_,fun j hj hjj=>?_⟩
    ·have:=c1.2;have:=c2.2;unfold Rd.lt at*;omega
    ·rcases hjj with rfl|rfl
     ·exact nZ c2.2
     ·exact lt_irrefl _
   ·rw[if_neg c2]at hl
    subst hl
    refine⟨.inl rfl,c1.1,c1.2,fun j hj hjj=>?_⟩
    rcases hjj with rfl|rfl
    ·exact lt_irrefl _
    ·exact fun h=>c2 ⟨hj,h⟩
  ·rw[if_neg c1]at hl
   by_cases c2:2*k+2<xs.length∧(c9 xs (2*k+2)).lt (c9 xs k)
   ·rw[if_pos c2]at hl
    subst hl
    refine⟨.inr rfl,c2.1,c2.2,fun j hj hjj=>?_⟩
    rcases hjj with rfl|rfl
    ·intro hlt
     refine c1 ⟨hj,?_⟩
     have:=c2.2;unfold Rd.lt at*;omega
    ·exact lt_irrefl _
   ·rw[if_neg c2]at hl
    exact absurd hl.symm hne
 obtain⟨k1,k2,k3,k4⟩:=key
 refine⟨by omega,k2,?_,?_⟩
 ·intro j h0 hj hjp
  rw[eU]at hj
  rw[i6 hk k2,i6 hk k2]
  by_cases e1:j=l
  ·have:(j - 1) / 2=k:=by omega
   rw[if_pos e1,this,if_neg (by omega),if_pos rfl]
   exact nZ k3
  ·rw[if_neg e1]
   by_cases e2:j=k
   ·subst e2
    rw[if_pos rfl,if_neg (by omega),if_neg (by omega)]
    exact h.2 l (by omega) k2 (by omega) h0
   ·rw[if_neg e2]
    by_cases e3:(j - 1) / 2=k
    ·rw[e3,if_neg (by omega),if_pos rfl]
     exact k4 j hj (by omega)
    ·rw[if_neg hjp,if_neg e3]
     exact h.1 j h0 hj e3
 ·intro j h0 hj hjp hl0
  rw[eU]at hj
  rw[i6 hk k2,i6 hk k2]
  have e:(l - 1) / 2=k:=by omega
  rw[e,if_neg (by omega),if_neg (by omega),if_neg (by omega),if_pos rfl]
  have:=h.1 j h0 hj (by omega)
  rw[hjp]at this
  exact this
theorem uQ {xs:List Rd} {k:Nat} (h:FI k xs) (he:k=0∨¬(c9 xs k).lt (c9 xs ((k - 1) / 2))):hp xs:=by
 intro j h0 hj
 by_cases e:j=k
 ·subst e
  rcases he with he|he
  ·omega
  ·exact he
 ·exact h.1 j h0 hj e
theorem CV {xs:List Rd} {k:Nat} (h:FI k xs) (hk:k<xs.length) (h0:0<k) (hlt:(c9 xs k).lt (c9 xs ((k - 1) / 2))):FI ((k - 1) / 2) (tT xs k ((k - 1) / 2) (c9 xs k) (c9 xs ((k - 1) / 2))):=by
 have ha:(k - 1) / 2<xs.length:=by omega
 refine⟨fun j j0 hj hja=>?_,fun j j0 hj hjp ha0=>?_⟩
 ·rw[eU]at hj
  rw[i6 hk ha,i6 hk ha]
  rw[if_neg hja]
  by_cases e1:j=k
  ·subst e1
   rw[if_pos rfl,if_pos rfl]
   exact nZ hlt
  ·rw[if_neg e1]
   by_cases e2:(j - 1) / 2=(k - 1) / 2
   ·rw[if_pos e2]
    have:=h.1 j j0 hj e1
    rw[e2]at this
    exact GE hlt this
   ·rw[if_neg e2]
    by_cases e3:(j - 1) / 2=k
    ·rw[if_pos e3]
     exact h.2 j j0 hj e3 h0
    ·rw[if_neg e3]
     exact h.1 j j0 hj e1
 ·rw[eU]at hj
  rw[i6 hk ha,i6 hk ha]
  have h1:=h.1 ((k - 1) / 2) ha0 ha (by omega)
  rw[if_neg (show¬j=(k - 1) / 2 by omega)]
  rw[if_neg (show¬((k - 1) / 2 - 1) / 2=(k - 1) / 2 by omega),if_neg (show¬((k - 1) / 2 - 1) / 2=k by omega)]
  by_cases e1:j=k
  ·rw[if_pos e1]
   exact h1
  ·rw[if_neg e1]
   have h2:=h.1 j j0 hj e1
   rw[hjp]at h2
   exact oz h1 h2
theorem yp {xs:List Rd} {r:Rd} {j:Nat} (h:j<xs.length):c9 (xs++[r]) j=c9 xs j:=by
 unfold c9 List.getD
 rw[List.getElem?_append_left h]
theorem Bl {xs:List Rd} (r:Rd) (h:hp xs):FI xs.length (xs++[r]):=by
 refine⟨fun j h0 hj hne=>?_,fun j h0 hj hjp _=>?_⟩
 ·simp at hj
  rw[yp (by omega),yp (by omega)]
  exact h j h0 (by omega)
 ·simp at hj
  omega
theorem vU {xs:List Rd} {n j:Nat} (h:j<n):c9 (xs.take n) j=c9 xs j:=by
 unfold c9 List.getD
 rw[List.getElem?_take_of_lt h]
theorem DF {xs:List Rd} (h:hp xs) (h0:0<xs.length):zy 0 ((tT xs 0 (xs.length - 1) (c9 xs 0) (c9 xs (xs.length - 1))).take (xs.length - 1)):=by
 have hl:xs.length - 1<xs.length:=by omega
 refine⟨fun j j0 hj hjp=>?_,fun j _ _ _ h=>absurd h (Nat.lt_irrefl 0)⟩
 rw[List.length_take,eU]at hj
 rw[vU (by omega),vU (by omega),i6 h0 hl,i6 h0 hl]
 rw[if_neg (by omega),if_neg (by omega),if_neg (by omega),if_neg hjp]
 exact h j j0 (by omega)
theorem Co {xs:List Rd} (h0:0<xs.length):xs.Perm (c9 xs 0::(tT xs 0 (xs.length - 1) (c9 xs 0) (c9 xs (xs.length - 1))).take (xs.length - 1)):=by
 have hl:xs.length - 1<xs.length:=by omega
 have hp:=rh h0 hl
 generalize hz:tT xs 0 (xs.length - 1) (c9 xs 0) (c9 xs (xs.length - 1))=zs at*
 have hlen:zs.length=xs.length:=by rw[←hz,eU]
 have hlast:c9 zs (xs.length - 1)=c9 xs 0:=by rw[←hz,i6 h0 hl,if_pos rfl]
 have e:zs=zs.take (xs.length - 1)++[c9 xs 0]:=by
  apply List.ext_getElem?
  intro j
  by_cases h1:j<xs.length - 1
  ·rw[List.getElem?_append_left (by rw[List.length_take];omega),List.getElem?_take_of_lt h1]
  ·by_cases h2:j=xs.length - 1
   ·rw[List.getElem?_append_right (by rw[List.length_take];omega),h2,fL (by omega),hlast]
    simp[hlen]
   ·rw[List.getElem?_eq_none (by omega),List.getElem?_eq_none (by simp;omega)]
 refine hp.symm.trans ?_
 conv=>lhs;rw[e]
 exact List.perm_append_comm
theorem EW {xs:List Rd} (h:hp xs):∀j,j<xs.length→¬(c9 xs j).lt (c9 xs 0):=by
 intro j
 induction j using Nat.strongRecOn with
 |_ j ih=>
  intro hj
  by_cases e:j=0
  ·rw[e];exact lt_irrefl _
  ·exact oz (ih ((j - 1) / 2) (by omega) (by omega)) (h j (by omega) hj)
/-! ### Rows in order -/
def zR (r:Rd):List Rd→List Rd
 |[]=>[r]
 |x::s=>if x.lt r then x::zR r s else r::x::s
def mX (l:List Rd):List Rd:=l.foldl (fun s r=>zR r s) []
def Cl:List Rd→Prop
 |[]=>True
 |x::s=>(∀y∈s,¬y.lt x)∧Cl s
theorem jX (r:Rd):∀s,(zR r s).Perm (r::s)
 |[]=>List.Perm.refl _
 |x::s=>by
  unfold zR
  split
  ·exact(List.Perm.cons x (jX r s)).trans (List.Perm.swap r x s)
  ·exact List.Perm.refl _
theorem uu (r:Rd):∀s,Cl s→Cl (zR r s)
 |[],_=>⟨fun y hy=>by simp at hy,trivial⟩
 |x::s,h=>by
  unfold zR
  split
  ·rename_i hx
   refine⟨fun y hy=>?_,uu r s h.2⟩
   rcases List.mem_cons.mp ((jX r s).mem_iff.mp hy)with rfl|hy
   ·exact nZ hx
   ·exact h.1 y hy
  ·rename_i hx
   refine⟨fun y hy=>?_,h⟩
   rcases List.mem_cons.mp hy with rfl|hy
   ·exact hx
   ·exact oz hx (h.1 y hy)
theorem Ab (l:List Rd):(mX l).Perm l:=by
 have:∀(l s:List Rd),(l.foldl (fun s r=>zR r s) s).Perm (l++s):=by
  intro l
  induction l with
  |nil=>intro s;exact List.Perm.refl _
  |cons x l ih=>
   intro s
   refine(ih (zR x s)).trans ?_
   refine((jX x s).append_left l).trans ?_
   exact List.perm_middle
 simpa[mX]using this l []
end Go.Bes
/-
  What the heap's functions come to: one sinks; the first one is taken.
-/
namespace Go.Bes
open Go.Ev
theorem GM (j:Nat):bL (.int .i64 (j:Int))=some j:=by simp[bL]
theorem HW.len_ {st:Store} {h:Nat} {o:Option Nat} {xs:List Rd} (H:HW st h o xs):∃sl,(st.boxes h).bind Box.cs=some [sl]∧sl.strip1=sl∧((xs=[]∧sl=.slice .isnil 0 [])∨∃r c,o=some r∧sl=.rs r 0 2 xs.length c∧RowAt st r 2 (xs.map Rd.e)∧r<st.next∧r≠h):=by
 obtain⟨hlim,hnx,⟨rfl,rfl,hb⟩|⟨r,c,rfl,hrh,hb,hR,_⟩⟩:=H
 ·exact⟨_,by rw[hb];rfl,rfl,.inl ⟨rfl,rfl⟩⟩
 ·exact⟨_,by rw[hb];rfl,rfl,.inr ⟨r,c,rfl,rfl,hR.at,hR.2.1,hrh⟩⟩
theorem Gu (xs:List Rd) (hx:xs.length≤1073741824) (st:Store) (h:Nat) (o:Option Nat) (hH:HW st h o xs):EvRO Γ 40 [.ptr h 0] st (.int .i64 xs.length):=by
 have hh:=hH.nx
 obtain⟨sl,hb,_,⟨rfl,rfl⟩|⟨r,c,rfl,rfl,_⟩⟩:=hH.len_
 ·refine dg rfl rfl rfl ?_
  repeat' (first
 |(refine al ?_;first
 |refine mI ?_
 |refine mP ?_
 |refine fT (agg:=false) (d:=.slice .isnil 0 []) rfl rfl rfl hb hh rfl ?_
 |refine cn rfl rfl rfl ?_
 |refine fD ?_
 |refine aP rfl rfl ?_
 |refine Hd ?_)
 |refine He ?_
 |refine Ir ?_
 |refine an ?_)
  exact⟨.inr rfl,rfl⟩
 ·refine dg rfl rfl rfl ?_
  repeat' (first
 |(refine al ?_;first
 |refine mI ?_
 |refine mP ?_
 |refine fT (agg:=false) (d:=.rs r 0 2 xs.length c) rfl rfl rfl hb hh rfl ?_
 |refine bD rfl rfl rfl ?_
 |refine fD ?_
 |refine aP rfl rfl ?_
 |refine Hd ?_)
 |refine He ?_
 |refine Ir ?_
 |refine an ?_)
  exact⟨.inr rfl,rfl⟩
theorem En (xs:List Rd) (hx:xs.length≤1073741824) (st:Store) (h:Nat) (o:Option Nat) (hH:HW st h o xs):EvRO Γ 60 [.ptr h 0] st (.tuple [(c9 xs 0).e,.bool (decide (0<xs.length))]):=by
 have hh:=hH.nx
 have hne:h≠st.next:=Nat.ne_of_lt hh
 obtain⟨sl,hb,_,⟨rfl,rfl⟩|⟨r,c,rfl,rfl,hR,hr,hrh⟩⟩:=hH.len_
 ·refine dg rfl rfl rfl ?_
  repeat' (first
 |(refine al ?_;first
 |refine am (cs':=[_,_]) rfl rfl (ae _ _ _) rfl (Nat.le_refl _) rfl rfl rfl ?_
 |refine mB ?_
 |refine mP ?_
 |refine cb rfl rfl rfl rfl (by omega) ?_
 |refine fT (agg:=false) (d:=.slice .isnil 0 []) rfl rfl rfl (eG hne hb) hh rfl ?_
 |refine ai (agg:=true) (d:=.agg [_,_]) rfl rfl rfl (aY rfl) (Nat.le_refl _) rfl ?_
 |refine cn rfl rfl rfl ?_
 |refine fD ?_
 |refine aP rfl rfl ?_
 |refine av rfl rfl ?_
 |refine Hd ?_)
 |refine He ?_
 |refine Ir ?_
 |refine aj rfl ?_
 |refine an ?_)
  refine⟨.inr rfl,?_⟩
  simp[aI,oS,bW,ap,Store.cellsAt,Box.cs,cut,rH,D.free,D.free1,fv,aU,a8,D.strip,D.strip1,c9,Rd.e,Box.set]
 ·have hne2:r≠st.next:=Nat.ne_of_lt hr
  by_cases h0:xs=[]
  ·subst h0
   refine dg rfl rfl rfl ?_
   repeat' (first
 |(refine al ?_;first
 |refine am (cs':=[_,_]) rfl rfl (ae _ _ _) rfl (Nat.le_refl _) rfl rfl rfl ?_
 |refine mB ?_
 |refine mP ?_
 |refine cb rfl rfl rfl rfl (by omega) ?_
 |refine fT (agg:=false) (d:=.rs r 0 2 0 c) rfl rfl rfl (eG hne hb) hh rfl ?_
 |refine ai (agg:=true) (d:=.agg [_,_]) rfl rfl rfl (aY rfl) (Nat.le_refl _) rfl ?_
 |refine bD rfl rfl rfl ?_
 |refine fD ?_
 |refine aP rfl rfl ?_
 |refine av rfl rfl ?_
 |refine Hd ?_)
 |refine He ?_
 |refine Ir ?_
 |refine aj rfl ?_
 |refine an ?_)
   refine⟨.inr rfl,?_⟩
   simp[aI,oS,bW,ap,Store.cellsAt,Box.cs,cut,rH,D.free,D.free1,fv,aU,a8,D.strip,D.strip1,c9,Rd.e,Box.set]
  ·have hl:0<xs.length:=List.length_pos_iff.mpr h0
   have hv:=u6 (fL hl)
   refine dg rfl rfl rfl ?_
   repeat' (first
 |(refine al ?_;first
 |refine aA (j:=0) rfl rfl rfl rfl hl ?_
 |refine am (cs':=[_,_]) rfl rfl (ae _ _ _) rfl (Nat.le_refl _) rfl rfl rfl ?_
 |refine mB ?_
 |refine mP ?_
 |refine b7 rfl rfl rfl rfl (by omega) ?_
 |refine fT (agg:=false) (d:=.rs r 0 2 xs.length c) rfl rfl rfl (eG hne hb) hh rfl ?_
 |refine aH (j:=0) rfl rfl (hR.of (ab _ _ hne2)) rfl fP hv rfl ?_
 |refine bD rfl rfl rfl ?_
 |refine fD ?_
 |refine aP rfl rfl ?_
 |refine av rfl rfl ?_
 |refine Hd ?_)
 |refine He ?_
 |refine Ir ?_
 |refine Hg ?_
 |refine ah rfl ?_
 |refine an ?_)
   refine⟨.inr rfl,?_⟩
   simp[aI,oS,bW,ap,Store.cellsAt,Box.cs,cut,rH,D.free,D.free1,fv,aU,a8,D.strip,D.strip1,Rd.e,Box.set,hl,h0]
theorem wR {st:Store} {h:Nat} {o:Option Nat} {xs:List Rd} (hH:HW st h o xs) (hx:xs.length≤1073741824) {i k:Nat} (hi:i<xs.length) (hk:k<xs.length):EvRO Γ 63 [.ptr h 0,.int .i64 i,.int .i64 k] st (.bool (decide ((c9 xs i).lt (c9 xs k)))):=by
 obtain⟨sl,hb,_,⟨rfl,rfl⟩|⟨r,c,rfl,rfl,hR,hr,hrh⟩⟩:=hH.len_
 ·simp at hi
 ·exact Dc xs hx st h r c i k _ _ hb hH.nx hr hR (fL hi) (fL hk)
theorem pH {st:Store} {h:Nat} {o:Option Nat} {xs:List Rd} (hH:HW st h o xs) (hx:xs.length≤1073741824) (k j l b b1 b2:Nat) (hj:(j=0∧b=b1)∨(j=1∧b=b2)) (hl:l<xs.length∨xs.length≤b) (ρ:Nat→D)
  (h0:ρ 0=.ptr h 0) (h1:ρ 1=.int .i64 k) (h4:ρ 4=.int .i64 l) (h14:ρ 14=.agg [.int .i64 b1,.int .i64 b2]) (h15:ρ 15=.int .i64 j) (Q:X→(Nat→D)→Store→Prop)
  (hQ:∀ρ',ρ' 0=.ptr h 0→ρ' 1=.int .i64 k→ρ' 4=.int .i64 (sh xs l b:Nat)→ρ' 14=.agg [.int .i64 b1,.int .i64 b2]→ρ' 15=.int .i64 (j+1:Nat)→WC Γ (.loop eL) ρ' st Q):WC Γ (.loop eL) ρ st Q:=by
 have hnx:=hH.nx
 have hlim:=hH.lim
 obtain⟨sl,hb,_,hsl⟩:=hH.len_
 have hc:∀i,j=i→cut false 1 (i*1) [D.int .i64 b1,.int .i64 b2]=some (.int .i64 (b:Nat)):=fun i hi=>by
  subst hi
  rcases hj with⟨rfl,rfl⟩|⟨rfl,rfl⟩<;>rfl
 have hj2:j<2:=by omega
 rw[←aa h0,←aa h1,←aa h4,←aa h14,←aa h15]
 refine Hh ?_
 rcases hsl with⟨rfl,rfl⟩|⟨r,c,rfl,rfl,hR,hr,hrh⟩
 ·repeat' (first
 |(refine al ?_;first
 |refine qR (agg:=false) (j:=j) rfl rfl rfl (GM j) hj2 (hc j rfl) ?_
 |refine ak rfl ?_
 |refine mI ?_
 |refine mB ?_
 |refine mP ?_
 |refine lT ?_
 |refine lF ?_
 |refine aD ?_
 |refine ai (agg:=false) (d:=.slice .isnil 0 []) rfl rfl rfl hb hlim rfl ?_
 |refine ak rfl ?_
 |refine pB ?_
 |refine cn rfl rfl rfl ?_
 |refine fD ?_
 |refine aP rfl rfl ?_
 |refine Hd ?_)
 |refine He ?_
 |refine Ir ?_
 |refine Hg ?_
 |refine aj rfl ?_
 |refine ah rfl ?_
 |refine Hf ?_)
  have e:sh [] l b=l:=if_neg (fun h=>by simp at h)
  exact hQ _ rfl rfl (by rw[e];rfl) rfl rfl
 ·by_cases hbx:b<xs.length
  ·have ha:=wR hH hx hbx (by omega:l<xs.length)
   repeat' (first
 |(refine al ?_;first
 |refine qR (agg:=false) (j:=j) rfl rfl rfl (GM j) hj2 (hc j rfl) ?_
 |refine mI ?_
 |refine mB ?_
 |refine mP ?_
 |refine lT ?_
 |refine aD ?_
 |refine ai (agg:=false) (d:=.rs r 0 2 xs.length c) rfl rfl rfl hb hlim rfl ?_
 |(refine oO rfl rfl rfl ha rfl ?_ ?_<;>intro _)
 |refine pB ?_
 |refine bD rfl rfl rfl ?_
 |refine fD ?_
 |refine aP rfl rfl ?_
 |refine Hd ?_)
 |refine He ?_
 |refine Ir ?_
 |refine Hg ?_
 |refine aj rfl ?_
 |refine ah rfl ?_
 |refine Hf ?_)
   ·rename_i hlt
    have e:sh xs l b=b:=if_pos ⟨hbx,of_decide_eq_true hlt⟩
    exact hQ _ rfl rfl (by rw[e];rfl) rfl rfl
   ·rename_i hlt
    have e:sh xs l b=l:=if_neg (fun h=>of_decide_eq_false hlt h.2)
    exact hQ _ rfl rfl (by rw[e];rfl) rfl rfl
  ·repeat' (first
 |(refine al ?_;first
 |refine qR (agg:=false) (j:=j) rfl rfl rfl (GM j) hj2 (hc j rfl) ?_
 |refine ak rfl ?_
 |refine mI ?_
 |refine mB ?_
 |refine mP ?_
 |refine lT ?_
 |refine lF ?_
 |refine aD ?_
 |refine ai (agg:=false) (d:=.rs r 0 2 xs.length c) rfl rfl rfl hb hlim rfl ?_
 |refine ak rfl ?_
 |refine pB ?_
 |refine bD rfl rfl rfl ?_
 |refine fD ?_
 |refine aP rfl rfl ?_
 |refine Hd ?_)
 |refine He ?_
 |refine Ir ?_
 |refine Hg ?_
 |refine aj rfl ?_
 |refine ah rfl ?_
 |refine Hf ?_)
   have e:sh xs l b=l:=if_neg (fun h=>hbx h.1)
   exact hQ _ rfl rfl (by rw[e];rfl) rfl rfl
theorem E1 {xs:List Rd} {l b:Nat} (h:l<xs.length):sh xs l b<xs.length:=by
 unfold sh
 split
 ·rename_i h1;exact h1.1
 ·exact h
theorem wV {st:Store} {h:Nat} {o:Option Nat} {xs:List Rd} (hx:xs.length≤1073741824) (hH:HW st h o xs) {i k:Nat} (hi:i<xs.length) (hk:k<xs.length):
  EvRWX Γ 61 [.ptr h 0,.int .i64 i,.int .i64 k] st (fun r st'=>r=.tuple []∧HW st' h o (tT xs i k (c9 xs i) (c9 xs k))∧Fr st st' h o o):=Eh xs hx st h o i k _ _ hH (fL hi) (fL hk)
theorem Eb (h:Nat) (o:Option Nat):∀(m k:Nat) (xs:List Rd) (st:Store),xs.length≤m+k→k≤xs.length→xs.length≤1073741824→HW st h o xs→zy k xs→
  EvRWX Γ 62 [.ptr h 0,.int .i64 k] st (fun r st'=>r=.tuple []∧∃ys,HW st' h o ys∧hp ys∧ys.Perm xs∧Fr st st' h o o):=by
 intro m
 induction m with
 |zero=>
  intro k xs st hm hk hx hH hX
  have hke:k=xs.length:=by omega
  have e1:sh xs k (2*k+1)=k:=if_neg (fun h=>by omega)
  have e2:sh xs k (2*k+2)=k:=if_neg (fun h=>by omega)
  refine aR rfl rfl ?_
  repeat' (first
 |(refine al ?_;first
 |refine mI ?_
 |refine aD ?_
 |refine tp rfl rfl rfl rfl (by first|exact ea (by omega)|rfl) ?_
 |refine bJ (cs:=[_,_]) rfl rfl rfl ?_
 |refine Hd ?_)
 |refine He ?_
 |refine Ir ?_
 |refine Hf ?_)
  refine pH hH hx k 0 k (2*k+1) (2*k+1) (2*k+2) (.inl ⟨rfl,rfl⟩) (by omega) _ ?_ ?_ ?_ ?_ ?_ _ (fun ρ1 a0 a1 a4 a14 a15=>?_)
  ·rfl
  ·rfl
  ·rfl
  ·rfl
  ·rfl
  rw[e1]at a4
  refine pH hH hx k 1 k (2*k+2) (2*k+1) (2*k+2) (.inr ⟨rfl,rfl⟩) (by omega) _ a0 a1 a4 a14 a15 _ (fun ρ2 b0 b1 b4 b14 b15=>?_)
  rw[e2]at b4
  rw[←aa b0,←aa b1,←aa b4,←aa b14,←aa b15]
  refine Hh ?_
  repeat' (first
 |(refine al ?_;first
 |refine mI ?_
 |refine lF ?_
 |refine ca rfl rfl rfl rfl (by omega) ?_
 |refine Hd ?_)
 |refine He ?_
 |refine Ir ?_
 |refine Hg ?_
 |refine ah rfl ?_
 |refine Hi ?_)
  exact⟨.inl rfl,_,rfl,rfl,xs,hH,rQ hX (by rw[e1,e2]),List.Perm.refl _,Fr.refl _ _ _⟩
 |succ m ih=>
  intro k xs st hm hk hx hH hX
  refine aR rfl rfl ?_
  repeat' (first
 |(refine al ?_;first
 |refine mI ?_
 |refine aD ?_
 |refine tp rfl rfl rfl rfl (by first|exact ea (by omega)|rfl) ?_
 |refine bJ (cs:=[_,_]) rfl rfl rfl ?_
 |refine Hd ?_)
 |refine He ?_
 |refine Ir ?_
 |refine Hf ?_)
  refine pH hH hx k 0 k (2*k+1) (2*k+1) (2*k+2) (.inl ⟨rfl,rfl⟩) (by omega) _ ?_ ?_ ?_ ?_ ?_ _ (fun ρ1 a0 a1 a4 a14 a15=>?_)
  ·rfl
  ·rfl
  ·rfl
  ·rfl
  ·rfl
  refine pH hH hx k 1 (sh xs k (2*k+1)) (2*k+2) (2*k+1) (2*k+2) (.inr ⟨rfl,rfl⟩) ?_ _ a0 a1 a4 a14 a15 _ (fun ρ2 b0 b1 b4 b14 b15=>?_)
  ·by_cases hk':k<xs.length
   ·exact .inl (E1 hk')
   ·exact .inr (by omega)
  generalize hl:sh xs (sh xs k (2*k+1)) (2*k+2)=l at b4
  rw[←aa b0,←aa b1,←aa b4,←aa b14,←aa b15]
  refine Hh ?_
  by_cases hlk:l=k
  ·subst hlk
   repeat' (first
 |(refine al ?_;first
 |refine mI ?_
 |refine lF ?_
 |refine ca rfl rfl rfl rfl (by omega) ?_
 |refine Hd ?_)
 |refine He ?_
 |refine Ir ?_
 |refine Hg ?_
 |refine ah rfl ?_
 |refine Hi ?_)
   exact⟨.inl rfl,_,rfl,rfl,xs,hH,rQ hX hl,List.Perm.refl _,Fr.refl _ _ _⟩
  ·by_cases hk':k<xs.length
   ·obtain⟨d1,d2,d3⟩:=zm hX hk' hl hlk
    have hsw:=wV hx hH hk' d2
    have hlk':¬(l:Int)=k:=by omega
    repeat' (first
 |(refine al ?_;first
 |refine mI ?_
 |refine mP ?_
 |refine lF ?_
 |refine cu rfl rfl rfl rfl (by omega) ?_
 |(refine a7 rfl rfl rfl hsw ?_<;>intro r1 st1 hp1)
 |refine Hd ?_)
 |refine He ?_
 |refine Ir ?_
 |refine aj rfl ?_
 |refine ah rfl ?_
 |refine Hi ?_)
    obtain⟨rfl,hH1,hF1⟩:=hp1
    have hrec:=ih l _ st1 (by rw[eU];omega) (by rw[eU];omega) (by rw[eU];exact hx) hH1 d3
    repeat' (first
 |(refine al ?_;first
 |(refine a7 rfl rfl rfl hrec ?_<;>intro r2 st2 hp2)
 |refine Hd ?_))
    obtain⟨rfl,ys,hH2,hhp,hperm,hF2⟩:=hp2
    exact⟨.inl rfl,_,rfl,rfl,ys,hH2,hhp,hperm.trans (rh hk' d2),hF1.trans hF2⟩
   ·exfalso
    apply hlk
    rw[←hl]
    have e1:sh xs k (2*k+1)=k:=if_neg (fun h=>by omega)
    have e2:sh xs k (2*k+2)=k:=if_neg (fun h=>by omega)
    rw[e1,e2]
end Go.Bes
/-
  What the heap's functions come to: one more is laid; the first one is taken.
-/
namespace Go.Bes
open Go.Ev
theorem FS (k:Nat) (h:k≤1073741824):IntKind.i64.wrap ((k:Int).tdiv 2)=((k / 2:Nat):Int):=by
 have e:(k:Int).tdiv 2=((k / 2:Nat):Int):=rfl
 rw[e]
 exact ea (by omega)
theorem GW (h:Nat) (o:Option Nat) (Q:X→(Nat→D)→Store→Prop):∀(m k:Nat) (xs:List Rd) (st:Store) (ρ:Nat→D),k≤m→k<xs.length→xs.length≤1073741824→HW st h o xs→FI k xs→ρ 0=.ptr h 0→ρ 4=.int .i64 k→
  (∀ρ' st' ys,HW st' h o ys→hp ys→ys.Perm xs→Fr st st' h o o→Q .normal ρ' st')→
  WC Γ bq ρ st (fun x ρ1 st1=>match x with| .goto l'=>l'=0∧WC Γ (.again 0 bq) ρ1 st1 Q|x=>Q x ρ1 st1):=by
 intro m
 induction m with
 |zero=>
  intro k xs st ρ hm hk hx hH hU h0 h4 hQ
  have hk0:k=0:=by omega
  subst hk0
  have h4':ρ 4=.int .i64 0:=h4
  rw[←aa h0,←aa h4']
  unfold bq
  repeat' (first
 |(refine al ?_;first
 |refine ak rfl ?_
 |refine mI ?_
 |refine mB ?_
 |refine gF ?_
 |refine aS ?_
 |refine wl rfl rfl rfl rfl (by omega) rfl ?_
 |refine ak rfl ?_
 |refine pB ?_
 |refine Hd ?_)
 |refine He ?_
 |refine Ir ?_
 |refine Hg ?_
 |refine ah rfl ?_)
  exact hQ _ _ xs hH (uQ hU (.inl rfl)) (List.Perm.refl _) (Fr.refl _ _ _)
 |succ m ih=>
  intro k xs st ρ hm hk hx hH hU h0 h4 hQ
  cases k with
  |zero=>
   have h4':ρ 4=.int .i64 0:=h4
   rw[←aa h0,←aa h4']
   unfold bq
   repeat' (first
 |(refine al ?_;first
 |refine ak rfl ?_
 |refine mI ?_
 |refine mB ?_
 |refine gF ?_
 |refine aS ?_
 |refine wl rfl rfl rfl rfl (by omega) rfl ?_
 |refine ak rfl ?_
 |refine pB ?_
 |refine Hd ?_)
 |refine He ?_
 |refine Ir ?_
 |refine Hg ?_
 |refine ah rfl ?_)
   exact hQ _ _ xs hH (uQ hU (.inl rfl)) (List.Perm.refl _) (Fr.refl _ _ _)
  |succ k=>
   have hak:k / 2<xs.length:=by omega
   have ha:=wR hH hx hk hak
   have h4':ρ 4=.int .i64 ((k:Int)+1):=h4
   have hsub:IntKind.i64.wrap ((k:Int)+1 - 1)=(k:Int):=by rw[Int.add_sub_cancel];exact ea (by omega)
   have hpar:(k+1 - 1) / 2=k / 2:=by omega
   rw[←aa h0,←aa h4']
   unfold bq
   by_cases hlt:(c9 xs (k+1)).lt (c9 xs (k / 2))
   ·have hsw:=wV hx hH hk hak
    have hU':=CV hU hk (by omega) (by rw[hpar];exact hlt)
    rw[hpar]at hU'
    rw[decide_eq_true hlt]at ha
    repeat' (first
 |(refine al ?_;first
 |refine aS (hs:=hsub) ?_
 |refine wl rfl rfl rfl rfl (by omega) (FS k (by omega)) ?_
 |refine mI ?_
 |refine mB ?_
 |refine mP ?_
 |refine gT ?_
 |refine dM rfl rfl rfl ha rfl rfl ?_
 |(refine a7 rfl rfl rfl hsw ?_<;>intro r1 st1 hp1)
 |refine pB ?_
 |refine Hd ?_)
 |refine He ?_
 |refine Ir ?_
 |refine Hg ?_
 |refine aj rfl ?_
 |refine yn ?_)
    obtain⟨rfl,hH1,hF1⟩:=hp1
    skip
    refine⟨rfl,vF ?_⟩
    refine ih (k / 2) _ st1 _ (by omega) (by rw[eU];omega) (by rw[eU];exact hx) hH1 hU' rfl rfl (fun ρ' st' ys a b c d=>?_)
    exact hQ ρ' st' ys a b (c.trans (rh hk hak)) (hF1.trans d)
   ·rw[decide_eq_false hlt]at ha
    repeat' (first
 |(refine al ?_;first
 |refine aS (hs:=hsub) ?_
 |refine wl rfl rfl rfl rfl (by omega) (FS k (by omega)) ?_
 |refine mI ?_
 |refine mB ?_
 |refine mP ?_
 |refine gT ?_
 |refine dM rfl rfl rfl ha rfl rfl ?_
 |refine pB ?_
 |refine Hd ?_)
 |refine He ?_
 |refine Ir ?_
 |refine Hg ?_
 |refine ah rfl ?_)
    exact hQ _ _ xs hH (uQ hU (.inr (by rw[hpar];exact hlt))) (List.Perm.refl _) (Fr.refl _ _ _)
def PQ (st:Store) (h:Nat) (o:Option Nat) (a:Rd) (xs:List Rd):X→(Nat→D)→Store→Prop:=fun x ρ1 st1=>(x=.normal∨x=.ret)∧∃r,aI ρ1 st1 di.res=some r∧(r.strip=.tuple []∧∃ys o',HW st1 h o' ys∧hp ys∧ys.Perm (a::xs)∧Fr st st1 h o o')
theorem Ex (xs:List Rd) (hx:xs.length≤1073741823) (st:Store) (h:Nat) (o:Option Nat) (a:Rd) (hH:HW st h o xs) (hX:hp xs):
  EvRWX Γ 43 [.ptr h 0,a.e] st (fun r st'=>r=.tuple []∧∃ys o',HW st' h o' ys∧hp ys∧ys.Perm (a::xs)∧Fr st st' h o o'):=by
 have hlim:=hH.lim
 have hnx:=hH.nx
 have hne:h≠st.next:=Nat.ne_of_lt hnx
 have hel:∀d∈[a.e],eb 2 d:=by intro d hd;rw[List.mem_singleton.mp hd];exact⟨rfl,rfl⟩
 have hfin:∀(ρ:Nat→D) (st1:Store) (o':Option Nat),HW st1 h o' (xs++[a])→Fr st st1 h o o'→ρ 0=.ptr h 0→ρ 4=.int .i64 xs.length→
   WC Γ bq ρ st1 (fun x ρ1 st1=>match x with| .goto l'=>l'=0∧WC Γ (.again 0 bq) ρ1 st1 (PQ st h o a xs)|x=>PQ st h o a xs x ρ1 st1):=by
  intro ρ st1 o' hH1 hF1 e0 e4
  refine GW h o' _ xs.length xs.length (xs++[a]) st1 ρ (Nat.le_refl _) (by simp) (by simp;omega) hH1 (Bl a hX) e0 e4 (fun ρ' st' ys q1 q2 q3 q4=>?_)
  refine⟨.inl rfl,_,rfl,rfl,ys,o',q1,q2,q3.trans (List.perm_append_comm (l₁:=xs) (l₂:=[a])),hF1.trans q4⟩
 obtain⟨_,_,⟨rfl,rfl,hb⟩|⟨r,c,rfl,hrh,hb,hR,hcap⟩⟩:=hH
 ·refine aR rfl rfl ?_
  repeat' (first
 |(refine al ?_;first
 |refine cm rfl rfl rfl rfl rfl ?_
 |refine Hd ?_)
 |refine He ?_
 |refine Ir ?_)
  refine p9 ?_
  have hb1:∀{x:Option Box},(ap st.boxes st.next x h).bind Box.cs=some [.slice .isnil 0 []]:=fun{x}=>by rw[ab _ _ hne,hb];rfl
  have hl2:st.lim≤st.next:=Nat.le_trans hlim (Nat.le_of_lt hnx)
  repeat' (first
 |(refine al ?_;first
 |refine sZ (ys:=[a.e]) rfl rfl rfl rfl (by decide) ?_
 |(refine ko (xs:=[]) (ys:=[a.e]) rfl rfl (.inr rfl) (.inr rfl) rfl rfl (.inl rfl) (by simp) (by simp) hel (by simp) (Nat.le_succ_of_le hl2) ?_<;>intro st1 e1 e2 e3 e4 hR1 hb2 e5)
 |refine mP ?_
 |refine nP (agg:=false) (d:=.slice .isnil 0 []) rfl rfl hb1 hlim rfl ?_
 |refine nP (agg:=true) (d:=.agg [_,_]) rfl rfl (aY rfl) hl2 rfl ?_
 |refine fD ?_
 |refine aP rfl rfl ?_
 |refine H5 rfl rfl ?_)
 |refine He ?_
 |refine ay ?_)
  have hb3:st1.boxes h=some (.cells [.slice .isnil 0 []]):=by
   rw[hb2 h (Nat.lt_succ_of_lt hnx)]
   show ap st.boxes st.next _ h=_
   rw[ab _ _ hne,hb]
  have hne3:h≠st.next+1:=by omega
  repeat' (first
 |(refine al ?_;first
 |refine am (cs':=[.rs (st.next+1) 0 2 1 1]) rfl rfl hb3 rfl (by rw[e1];exact hlim) rfl rfl rfl ?_
 |refine mI ?_
 |refine mP ?_
 |refine aS ?_
 |refine ai (agg:=false) (d:=.rs (st.next+1) 0 2 1 1) rfl rfl rfl (aY rfl) (by show st1.lim≤h;rw[e1];exact hlim) rfl ?_
 |refine bD rfl rfl rfl ?_
 |refine fD ?_
 |refine aP rfl rfl ?_
 |refine Hd ?_)
 |refine hfin _ _ (some (st.next+1)) ?_ ?_ ?_ ?_
 |refine He ?_
 |refine Ir ?_
 |refine au rfl ?_)
  ·refine⟨by show st1.lim≤h;rw[e1];exact hlim,by show h<st1.next;rw[e5];exact Nat.lt_succ_of_lt (Nat.lt_succ_of_lt hnx),.inr ⟨st.next+1,1,rfl,Ne.symm hne3,ae _ _ _,?_,Nat.le_refl _⟩⟩
   exact hR1.of (by show st1.lim≤_;rw[e1];exact Nat.le_succ_of_le hl2) (by show _<st1.next;rw[e5];exact Nat.lt_succ_self _) (ab _ _ (Ne.symm hne3))
  ·refine⟨e1,e2,e3,e4,by show st.next≤st1.next;rw[e5];exact Nat.le_succ_of_le (Nat.le_succ _),fun q hq h1 _=>?_,.inr ⟨_,rfl,Nat.le_succ _⟩⟩
   show ap st1.boxes h _ q=_
   rw[ab _ _ h1,hb2 q (Nat.lt_succ_of_lt hq)]
   exact ab _ _ (Nat.ne_of_lt hq)
  ·rfl
  ·rfl
 ·refine aR rfl rfl ?_
  repeat' (first
 |(refine al ?_;first
 |refine cm rfl rfl rfl rfl rfl ?_
 |refine Hd ?_)
 |refine He ?_
 |refine Ir ?_)
  refine p9 ?_
  have hb1:∀{x:Option Box},(ap st.boxes st.next x h).bind Box.cs=some [.rs r 0 2 xs.length c]:=fun{x}=>by rw[ab _ _ hne,hb];rfl
  have hl2:st.lim≤st.next:=Nat.le_trans hlim (Nat.le_of_lt hnx)
  have hrn:r≠st.next:=Nat.ne_of_lt hR.2.1
  have hR':∀{x:Option Box},RowIs {st with boxes:=ap st.boxes st.next x,next:=st.next+1} r 2 (xs.map Rd.e):=fun{x}=>hR.of hR.1 (Nat.lt_succ_of_lt hR.2.1) (ab _ _ hrn)
  repeat' (first
 |(refine al ?_;first
 |refine sZ (ys:=[a.e]) rfl rfl rfl rfl (by decide) ?_
 |(refine sW (xs:=xs.map Rd.e) (ys:=[a.e]) rfl rfl rfl hR' (List.length_map _).symm (.inl rfl) fP hel (by simp;omega) ?_<;>intro p' c' st1 e1 e2 e3 e4 hR1 hb2 e5 e6 e7)
 |refine mP ?_
 |refine nP (agg:=false) (d:=.rs r 0 2 xs.length c) rfl rfl hb1 hlim rfl ?_
 |refine nP (agg:=true) (d:=.agg [_,_]) rfl rfl (aY rfl) hl2 rfl ?_
 |refine fD ?_
 |refine aP rfl rfl ?_
 |refine H5 rfl rfl ?_)
 |refine He ?_
 |refine ay ?_)
  have hb3:st1.boxes h=some (.cells [.rs r 0 2 xs.length c]):=by
   rw[hb2 h (Ne.symm hrh) (Nat.lt_succ_of_lt hnx)]
   show ap st.boxes st.next _ h=_
   rw[ab _ _ hne,hb]
  have e5':st.next+1≤st1.next:=e5
  have hp':p'≠h:=by
   rcases e6 with rfl|e6
   ·exact hrh
   ·have e6:st.next+1≤p':=e6
    omega
  have hlen1:xs.length+[a.e].length - 1=xs.length:=by simp
  repeat' (first
 |(refine al ?_;first
 |refine am (cs':=[.rs p' 0 2 (xs.length+1) c']) rfl rfl hb3 rfl (by rw[e1];exact hlim) rfl rfl rfl ?_
 |refine aS (s:=(xs.length:Int)) (hs:=by rw[show ((xs.length+1:Nat):Int) - 1=(xs.length:Int)by omega];exact ea (by omega)) ?_
 |refine mI ?_
 |refine mP ?_
 |refine ai (agg:=false) (d:=.rs p' 0 2 (xs.length+1) c') rfl rfl rfl (aY rfl) (by show st1.lim≤h;rw[e1];exact hlim) rfl ?_
 |refine bD rfl rfl rfl ?_
 |refine fD ?_
 |refine aP rfl rfl ?_
 |refine Hd ?_)
 |refine hfin _ _ (some p') ?_ ?_ ?_ ?_
 |refine He ?_
 |refine Ir ?_
 |refine au rfl ?_)
  ·refine⟨by show st1.lim≤h;rw[e1];exact hlim,by show h<st1.next;omega,.inr ⟨p',c',rfl,hp',?_,?_,?_⟩⟩
   ·show ap st1.boxes h _ h=_
    rw[ae]
    simp[Box.set]
   ·have:RowIs st1 p' 2 ((xs++[a]).map Rd.e):=by simpa using hR1
    exact this.of this.1 this.2.1 (ab _ _ hp')
   ·simpa using e7
  ·refine⟨e1,e2,e3,e4,by show st.next≤st1.next;omega,fun q hq h1 h2=>?_,?_⟩
   ·show ap st1.boxes h _ q=_
    rw[ab _ _ h1,hb2 q (fun e=>h2 (by rw[e])) (Nat.lt_succ_of_lt hq)]
    exact ab _ _ (Nat.ne_of_lt hq)
   ·rcases e6 with rfl|e6
    ·exact .inl rfl
    ·have e6:st.next+1≤p':=e6
     exact .inr ⟨p',rfl,by omega⟩
  ·rfl
  ·rfl
end Go.Bes
/-
  What the heap's functions come to: the first one is taken; a heap of some.
-/
namespace Go.Bes
open Go.Ev
theorem Cd {ρ:Nat→D} {st:Store} {p:Nat} {a b:D} {t:Bool} (h2:ρ 2=.ptr p 0) (h3:ρ 3=.bool t) (hb:(st.boxes p).bind Box.cs=some [a,b]) (hl:st.lim≤p):aI ρ st cM.res=some (.tuple [.agg [a,b],.bool t]):=by
 simp[aI,oS,cM,h2,h3,Store.cellsAt,hb,Nat.not_lt.mpr hl,cut]
theorem F6 (xs:List Rd) (hx:xs.length≤1073741823) (st:Store) (h:Nat) (o:Option Nat) (hH:HW st h o xs) (hX:hp xs):
  EvRWX Γ 41 [.ptr h 0] st (fun r st'=>(xs=[]∧r=.tuple [.agg [.int .i64 0,.int .i64 0],.bool false]∧HW st' h o []∧Fr st st' h o o)∨(0<xs.length∧r=.tuple [(c9 xs 0).e,.bool true]∧∃ys,HW st' h o ys∧hp ys∧xs.Perm (c9 xs 0::ys)∧Fr st st' h o o)):=by
 have hlim:=hH.lim
 have hnx:=hH.nx
 have hl2:st.lim≤st.next:=Nat.le_trans hlim (Nat.le_of_lt hnx)
 have hne:h≠st.next:=Nat.ne_of_lt hnx
 have hne1:st.next≠st.next+1:=by omega
 have H1:∀{x:Option Box},HW {st with boxes:=ap st.boxes st.next x,next:=st.next+1} h o xs:=fun{x}=>hH.of rfl (Nat.le_succ _) (fun q hq _=>ab _ _ (Nat.ne_of_lt hq))
 have hpk:=fun{x}=>En xs (by omega) _ h o (H1 (x:=x))
 by_cases h0:xs=[]
 ·subst h0
  refine aR rfl rfl ?_
  repeat' (first
 |(refine al ?_;first
 |refine am (cs':=[_,_]) rfl rfl (ae _ _ _) rfl (Nat.le_succ_of_le hl2) rfl rfl rfl ?_
 |refine am (cs':=[_,_]) rfl rfl ((ab _ _ hne1).trans ((ab _ _ hne1).trans (ae _ _ _))) rfl hl2 rfl rfl rfl ?_
 |refine mB ?_
 |refine mP ?_
 |refine mT ?_
 |refine ai (agg:=true) (d:=.agg [_,_]) rfl rfl rfl (aY rfl) (Nat.le_succ_of_le hl2) rfl ?_
 |refine dM rfl rfl rfl hpk rfl rfl ?_
 |refine eB ?_
 |refine eA ?_
 |refine nT ?_
 |refine av rfl rfl ?_
 |refine Hd ?_)
 |refine He ?_
 |refine Ir ?_
 |refine aj rfl ?_
 |refine an ?_)
  refine⟨.inr rfl,_,Cd rfl rfl (aY rfl) hl2,.inl ⟨rfl,rfl,hH.of rfl ?_ (fun q hq _=>?_),⟨rfl,rfl,rfl,rfl,?_,fun q hq _ _=>?_,.inl rfl⟩⟩⟩
  ·show st.next≤st.next+1+1;omega
  ·have k1:q≠st.next:=Nat.ne_of_lt hq
   have k2:q≠st.next+1:=by omega
   exact(ab _ _ k1).trans ((ab _ _ k2).trans ((ab _ _ k2).trans (ab _ _ k1)))
  ·show st.next≤st.next+1+1;omega
  ·have k1:q≠st.next:=Nat.ne_of_lt hq
   have k2:q≠st.next+1:=by omega
   exact(ab _ _ k1).trans ((ab _ _ k2).trans ((ab _ _ k2).trans (ab _ _ k1)))
 ·have hl:0<xs.length:=List.length_pos_iff.mpr h0
  have hl1:xs.length - 1<xs.length:=by omega
  have hok:(decide (0<xs.length))=true:=by simp[hl]
  obtain⟨_,_,⟨rfl,rfl,hb⟩|⟨r,c,rfl,hrh,hb,hR,hcap⟩⟩:=id hH
  ·exact absurd rfl h0
  rw[hok]at hpk
  have hbh:∀{x y z:Option Box},((ap (ap (ap st.boxes st.next x) (st.next+1) y) (st.next+1) z) h).bind Box.cs=some [.rs r 0 2 xs.length c]:=fun{x y z}=>by
   rw[ab _ _ (by omega),ab _ _ (by omega),ab _ _ (by omega),hb];rfl
  have H2:∀{x y z:Option Box},HW {st with boxes:=ap (ap (ap st.boxes st.next x) (st.next+1) y) (st.next+1) z,next:=st.next+1+1} h (some r) xs:=fun{x y z}=>hH.of rfl (by show st.next≤st.next+1+1;omega) (fun q hq _=>(ab _ _ (by omega)).trans ((ab _ _ (by omega)).trans (ab _ _ (by omega))))
  have hsw:=fun{x y z}=>wV (by omega) (H2 (x:=x) (y:=y) (z:=z)) hl hl1
  have hcast:((xs.length:Int) - 1)=((xs.length - 1:Nat):Int):=by omega
  refine aR rfl rfl ?_
  repeat' (first
 |(refine al ?_;first
 |refine aS (s:=((xs.length - 1:Nat):Int)) (hs:=by rw[hcast];exact ea (by omega)) ?_
 |refine am (cs':=[_,_]) rfl rfl (ae _ _ _) rfl (Nat.le_succ_of_le hl2) rfl rfl rfl ?_
 |refine mI ?_
 |refine mB ?_
 |refine mP ?_
 |refine mT ?_
 |refine ai (agg:=false) (d:=.rs r 0 2 xs.length c) rfl rfl rfl hbh hlim rfl ?_
 |refine dM rfl rfl rfl hpk rfl rfl ?_
 |(refine a7 rfl rfl rfl hsw ?_<;>intro r1 st1 hp1)
 |refine eB ?_
 |refine eA ?_
 |refine nT ?_
 |refine bD rfl rfl rfl ?_
 |refine fD ?_
 |refine aP rfl rfl ?_
 |refine av rfl rfl ?_
 |refine Hd ?_)
 |refine He ?_
 |refine Ir ?_
 |refine Hg ?_
 |refine ah rfl ?_)
  obtain⟨rfl,hH1,hF1⟩:=hp1
  have hn1:st.next+1+1≤st1.next:=hF1.next
  have hl3:st1.lim=st.lim:=hF1.lim
  have hzl:(tT xs 0 (xs.length - 1) (c9 xs 0) (c9 xs (xs.length - 1))).length=xs.length:=eU _ _ _ _ _
  have hperm:=Co hl
  have zy:=DF hX hl
  generalize hzs:tT xs 0 (xs.length - 1) (c9 xs 0) (c9 xs (xs.length - 1))=zs at*
  obtain⟨hlim1,hnx1,⟨e,_,_⟩|⟨r2,c2,e,hrh2,hb2,hR2,hcap2⟩⟩:=id hH1
  ·cases e
  cases e
  have hbN:st1.boxes st.next=some (.cells [.int .i64 0,.int .i64 0]):=by
   have k1:st.next≠st.next+1:=by omega
   have:=hF1.box st.next (by show st.next<st.next+1+1;omega) (Ne.symm hne) (fun e=>by cases e;exact absurd hR.2.1 (Nat.lt_irrefl _))
   rw[this]
   exact(ab _ _ k1).trans ((ab _ _ k1).trans (ae _ _ _))
  have hbN1:st1.boxes (st.next+1)=some (.cells [.int .i64 (c9 xs 0).node,.int .i64 (c9 xs 0).at']):=by
   have:=hF1.box (st.next+1) (by show st.next+1<st.next+1+1;omega) (by omega) (fun e=>by cases e;have:=hR.2.1;omega)
   rw[this]
   exact ae _ _ _
  have hb3:(st1.boxes h).bind Box.cs=some [.rs r 0 2 zs.length c2]:=by rw[hb2];rfl
  have htl:(zs.take (xs.length - 1)).length=xs.length - 1:=by rw[List.length_take,hzl];omega
  have H4:HW {st1 with boxes:=ap st1.boxes h (some (.cells [.rs r 0 2 (xs.length - 1) c2]))} h (some r) (zs.take (xs.length - 1)):=by
   refine⟨hlim1,hnx1,.inr ⟨r,c2,rfl,hrh,by rw[htl];exact ae _ _ _,?_,by rw[htl];omega⟩⟩
   have:RowAt st1 r 2 ((zs.take (xs.length - 1)).map Rd.e):=by
    have h1:=hR2.at
    rw[←List.take_append_drop (xs.length - 1) zs,List.map_append]at h1
    exact h1.pre fP
   exact⟨hR2.1,hR2.2.1,this.of (ab _ _ hrh)⟩
  have hdn:=Eb h (some r) (xs.length - 1) 0 _ _ (by rw[htl];omega) (Nat.zero_le _) (by rw[htl];omega) H4 zy
  have hcj:xs.length - 1≤c2:=by omega
  repeat' (first
 |(refine al ?_;first
 |refine nr rfl rfl (GM (xs.length - 1)) hcj rfl ?_
 |refine am (cs':=[.rs r 0 2 (xs.length - 1) c2]) rfl rfl hb2 rfl hlim1 rfl rfl rfl ?_
 |refine mI ?_
 |refine mP ?_
 |refine ai (agg:=false) (d:=.rs r 0 2 zs.length c2) rfl rfl rfl hb3 hlim1 rfl ?_
 |(refine a7 rfl rfl rfl hdn ?_<;>intro r1 st2 hp2)
 |refine fD ?_
 |refine aP rfl rfl ?_
 |refine Hd ?_)
 |refine He ?_
 |refine Ir ?_)
  obtain⟨rfl,ys,hH2,hhp,hperm2,hF2⟩:=hp2
  have hn2:st1.next≤st2.next:=hF2.next
  have hl4:st2.lim=st.lim:=hF2.lim.trans hl3
  have hcN:st2.boxes st.next=some (.cells [.int .i64 0,.int .i64 0]):=by
   rw[hF2.box st.next (by show st.next<st1.next;omega) (Ne.symm hne) (fun e=>by cases e;exact absurd hR.2.1 (Nat.lt_irrefl _)),←hbN]
   exact ab _ _ (Ne.symm hne)
  have hcN1:(st2.boxes (st.next+1)).bind Box.cs=some [.int .i64 (c9 xs 0).node,.int .i64 (c9 xs 0).at']:=by
   have k1:st.next+1≠h:=by omega
   have eN1:st2.boxes (st.next+1)=st1.boxes (st.next+1):=(hF2.box (st.next+1) (by show st.next+1<st1.next;omega) k1 (fun e=>by cases e;have:=hR.2.1;omega)).trans (ab _ _ k1)
   rw[eN1,hbN1]
   rfl
  repeat' (first
 |(refine al ?_;first
 |refine am (cs':=[_,_]) rfl rfl hcN rfl (by rw[hl4];exact hl2) rfl rfl rfl ?_
 |refine mB ?_
 |refine ai (agg:=true) (d:=.agg [_,_]) rfl rfl rfl hcN1 (by rw[hl4];exact Nat.le_succ_of_le hl2) rfl ?_
 |refine Hd ?_)
 |refine an ?_)
  refine⟨.inr rfl,_,Cd rfl rfl (aY rfl) (by show st2.lim≤_;rw[hl4];exact hl2),.inr ⟨hl,rfl,ys,?_,hhp,hperm.trans (List.Perm.cons _ hperm2.symm),?_⟩⟩
  ·refine hH2.of rfl (Nat.le_refl _) (fun q hq hq2=>ab _ _ ?_)
   rcases hq2 with rfl|hq2
   ·exact hne
   ·cases hq2
    exact Nat.ne_of_lt hR.2.1
  ·refine⟨hl4,hF2.tlim.trans hF1.tlim,hF2.toks.trans hF1.toks,hF2.ntok.trans hF1.ntok,by show st.next≤st2.next;omega,fun q hq q1 q2=>?_,.inl rfl⟩
   have k1:q≠st.next:=Nat.ne_of_lt hq
   have k2:q≠st.next+1:=by omega
   refine(ab _ _ k1).trans ?_
   rw[hF2.box q (by show q<st1.next;omega) q1 q2]
   refine(ab _ _ q1).trans ?_
   rw[hF1.box q (by show q<st.next+1+1;omega) q1 q2]
   exact(ab _ _ k2).trans ((ab _ _ k2).trans (ab _ _ k1))
end Go.Bes
/-
  What the heap's functions come to, as rows in order.
-/
namespace Go.Bes
open Go.Ev
def AH (st:Store) (h:Nat) (o:Option Nat) (s:List Rd):Prop:=∃xs,HW st h o xs∧hp xs∧xs.Perm s∧Cl s
theorem AH.of {st st':Store} {h:Nat} {o:Option Nat} {s:List Rd} (H:AH st h o s) (hl:st'.lim=st.lim) (hn:st.next≤st'.next) (hb:∀q,q<st.next→q=h∨some q=o→st'.boxes q=st.boxes q):AH st' h o s:=by
 obtain⟨xs,h1,h2,h3,h4⟩:=H
 exact⟨xs,h1.of hl hn hb,h2,h3,h4⟩
theorem AH.nx {st:Store} {h:Nat} {o:Option Nat} {s:List Rd} (H:AH st h o s):h<st.next:=by
 obtain⟨xs,h1,_⟩:=H
 exact h1.nx
theorem AH.lim {st:Store} {h:Nat} {o:Option Nat} {s:List Rd} (H:AH st h o s):st.lim≤h:=by
 obtain⟨xs,h1,_⟩:=H
 exact h1.lim
theorem AH.onx {st:Store} {h r:Nat} {s:List Rd} (H:AH st h (some r) s):r<st.next:=by
 obtain⟨xs,⟨_,_,⟨h1,_⟩|⟨r',c,h1,_,_,h3,_⟩⟩,_⟩:=H
 ·cases h1
 ·cases h1;exact h3.2.1
def GJ (s:List Rd):Rd:=s.headD ⟨0,0⟩
theorem xV {st:Store} {h:Nat} {o:Option Nat} {s:List Rd} (H:AH st h o s) (hs:s.length≤1073741823):EvRO Γ 40 [.ptr h 0] st (.int .i64 s.length):=by
 obtain⟨xs,h1,h2,h3,h4⟩:=H
 rw[←h3.length_eq]
 exact Gu xs (by have:=h3.length_eq;omega) st h o h1
theorem EC {xs s:List Rd} (h2:hp xs) (h3:xs.Perm s) (h4:Cl s) (hl:0<xs.length):c9 xs 0=GJ s:=by
 cases s with
 |nil=>have:=h3.length_eq;simp at this;simp[this]at hl
 |cons x s=>
  show c9 xs 0=x
  have hm:c9 xs 0∈xs:=List.mem_of_getElem? (fL hl)
  have hx:x∈xs:=h3.mem_iff.mpr List.mem_cons_self
  refine ww ?_ ?_
  ·rcases List.mem_cons.mp (h3.mem_iff.mp hm)with e|e
   ·rw[e];exact lt_irrefl _
   ·exact h4.1 _ e
  ·obtain⟨j,hj,e⟩:=List.getElem_of_mem hx
   have:=EW h2 j hj
   rw[xa (List.getElem?_eq_some_iff.mpr ⟨hj,e⟩)]at this
   exact this
theorem ye {st:Store} {h:Nat} {o:Option Nat} {s:List Rd} (H:AH st h o s) (hs:s.length≤1073741823) (a:Rd):
  EvRWX Γ 43 [.ptr h 0,a.e] st (fun r st'=>r=.tuple []∧∃o',AH st' h o' (zR a s)∧Fr st st' h o o'):=by
 obtain⟨xs,h1,h2,h3,h4⟩:=H
 refine(Ex xs (by have:=h3.length_eq;omega) st h o a h1 h2).mono (fun r st' hp=>?_)
 obtain⟨rfl,ys,o',k1,k2,k3,k4⟩:=hp
 exact⟨rfl,o',⟨ys,k1,k2,k3.trans ((h3.cons a).trans (jX a s).symm),uu a s h4⟩,k4⟩
theorem EO {st:Store} {h:Nat} {o:Option Nat} {s:List Rd} (H:AH st h o s) (hs:s.length≤1073741823):
  EvRWX Γ 41 [.ptr h 0] st (fun r st'=>r=.tuple [(GJ s).e,.bool (decide (0<s.length))]∧AH st' h o s.tail∧Fr st st' h o o):=by
 obtain⟨xs,h1,h2,h3,h4⟩:=H
 have hl:=h3.length_eq
 refine(F6 xs (by omega) st h o h1 h2).mono (fun r st' hp=>?_)
 rcases hp with⟨rfl,rfl,k1,k2⟩|⟨k0,rfl,ys,k1,k2,k3,k4⟩
 ·have e2:s=[]:=List.length_eq_zero_iff.mp (by simpa using hl.symm)
  subst e2
  exact⟨rfl,⟨[],k1,h2,List.Perm.refl _,trivial⟩,k2⟩
 ·have ht:=EC h2 h3 h4 k0
  have h0:0<s.length:=by omega
  cases s with
  |nil=>simp at h0
  |cons x s=>
   have ht:c9 xs 0=x:=ht
   rw[ht]at k3 ⊢
   exact⟨by simp[GJ],⟨ys,k1,k2,(List.perm_cons x).mp (k3.symm.trans h3),h4.2⟩,k4⟩
structure Nw (st st':Store):Prop where
 lim:st'.lim=st.lim
 tlim:st'.tlim=st.tlim
 toks:st'.toks=st.toks
 ntok:st'.ntok=st.ntok
 next:st.next≤st'.next
 box:∀q,q<st.next→st'.boxes q=st.boxes q
theorem CO {l pre post:List Rd} {x:Rd} (h:l=pre++x::post):l[pre.length]?=some x:=by rw[h];simp
theorem GH (st0:Store) (h:Nat) (hh:st0.next≤h) (hl:st0.lim≤st0.next) (l:List Rd) (hll:l.length≤1073741823) (t:Tok) (sz:Nat) (hsz:sz=2∨l=[]):∀(post pre:List Rd),l=pre++post→
  ∀(ρ:Nat→D) (st:Store) (o:Option Nat),AH st h o (mX pre)→Nw st0 st→(∀r,o=some r→st0.next≤r)→ρ 3=.ptr h 0→ρ 8=.slice t sz (l.map Rd.e)→ρ 9=.int .i64 l.length→ρ 10=.int .i64 pre.length→∀(Q:X→(Nat→D)→Store→Prop),
  (∀ρ' st' o',AH st' h o' (mX l)→Nw st0 st'→(∀r,o'=some r→st0.next≤r)→ρ' 3=.ptr h 0→Q (.exit 0) ρ' st')→WC Γ (.loop HE) ρ st Q:=by
 intro post
 induction post with
 |nil=>
  intro pre hp ρ st o H N ho h3 h8 h9 h10 Q hQ
  rw[List.append_nil]at hp
  subst hp
  rw[←aa h3,←aa h8,←aa h9,←aa h10]
  refine Hh ?_
  repeat' (first
 |(refine al ?_;first
 |refine lF ?_
 |refine Hd ?_)
 |refine He ?_
 |refine Ir ?_
 |refine ah rfl ?_
 |refine Hi ?_)
  exact hQ _ _ o H N ho rfl
 |cons x post ih=>
  intro pre hp ρ st o H N ho h3 h8 h9 h10 Q hQ
  have hv:=CO hp
  have hlen:l.length=pre.length+(post.length+1):=by rw[hp];simp
  have hnx:=H.nx
  have hlim2:st.lim≤st.next:=Nat.le_trans H.lim (Nat.le_of_lt hnx)
  have hsl:(mX pre).length=pre.length:=(Ab pre).length_eq
  have hA:∀{x y:Option Box},AH {st with boxes:=ap (ap st.boxes st.next x) st.next y,next:=st.next+1} h o (mX pre):=fun{x y}=>H.of rfl (Nat.le_succ _) (fun q hq _=>(ab _ _ (Nat.ne_of_lt hq)).trans (ab _ _ (Nat.ne_of_lt hq)))
  have hps:=fun{u v:Option Box}=>ye (hA (x:=u) (y:=v)) (by omega) x
  rw[←aa h3,←aa h8,←aa h9,←aa h10]
  refine Hh ?_
  repeat' (first
 |(refine al ?_;first
 |refine am (cs':=[_,_]) rfl rfl (ae _ _ _) rfl hlim2 rfl rfl rfl ?_
 |refine mI ?_
 |refine mP ?_
 |refine lT ?_
 |refine aD ?_
 |refine lE (d:=.agg [_,_]) hv ?_
 |refine ai (agg:=true) (d:=.agg [_,_]) rfl rfl rfl (aY rfl) hlim2 rfl ?_
 |(refine a7 rfl rfl rfl hps ?_<;>intro r1 st1 hp1)
 |refine av rfl rfl ?_
 |refine dT rfl rfl rfl rfl (by first|rfl|exact jB (by assumption) (by omega)) (by first|decide|(simp only[List.length_map];omega)) ?_
 |refine Hd ?_)
 |refine He ?_
 |refine Ir ?_
 |refine Hg ?_
 |refine aj rfl ?_
 |refine Hf ?_)
  obtain⟨rfl,o',H1,F1⟩:=hp1
  skip
  have hn1:st.next+1≤st1.next:=F1.next
  refine ih (pre++[x]) (by simp[hp]) _ st1 o' (by rw[show mX (pre++[x])=zR x (mX pre)by simp[mX]];exact H1) ?_ ?_ rfl rfl rfl (by rw[List.length_append];rfl) Q hQ
  ·refine⟨F1.lim.trans N.lim,F1.tlim.trans N.tlim,F1.toks.trans N.toks,F1.ntok.trans N.ntok,by have:=N.next;omega,fun q hq=>?_⟩
   have hq2:q<st.next:=Nat.lt_of_lt_of_le hq N.next
   rw[F1.box q (Nat.lt_succ_of_lt hq2) (by omega) (fun e=>by have:=ho q e.symm;omega),←N.box q hq]
   exact(ab _ _ (Nat.ne_of_lt hq2)).trans (ab _ _ (Nat.ne_of_lt hq2))
  ·intro r hr
   rcases F1.own with e|⟨r',e,hr'⟩
   ·exact ho r (by rw[←e];exact hr)
   ·rw[hr]at e
    cases e
    have:=N.next
    have hr':st.next+1≤r:=hr'
    omega
theorem Gt (l:List Rd) (hll:l.length≤1073741823) (t:Tok) (sz:Nat) (hsz:sz=2∨l=[]) (st:Store) (hl:st.lim≤st.next):
  EvRWX Γ 39 [.slice t sz (l.map Rd.e)] st (fun r st'=>∃h o,r=.ptr h 0∧st.next≤h∧(∀r,o=some r→st.next≤r)∧AH st' h o (mX l)∧Nw st st'):=by
 refine aR rfl rfl ?_
 repeat' (first
 |(refine al ?_;first
 |refine lN ?_
 |refine mI ?_
 |refine mS ?_
 |refine mP ?_
 |refine aB (v:=.nilptr) rfl rfl rfl ?_
 |refine bJ (cs:=[_]) rfl rfl rfl ?_
 |refine cm rfl rfl rfl rfl rfl ?_
 |refine Hd ?_)
 |refine He ?_
 |refine Ir ?_
 |refine Hf ?_)
 refine GH st st.next (Nat.le_refl _) hl l hll _ sz hsz l [] rfl _ _ none ?_ ?_ (fun r hr=>by cases hr) rfl rfl rfl rfl _ (fun ρ' st' o' H N ho h3=>?_)
 ·exact⟨[],⟨hl,Nat.lt_succ_self _,.inl ⟨rfl,rfl,ae _ _ _⟩⟩,fun j _ hj=>by simp at hj,List.Perm.refl _,trivial⟩
 ·exact⟨rfl,rfl,rfl,rfl,Nat.le_succ _,fun q hq=>ab _ _ (Nat.ne_of_lt hq)⟩
 ·rw[←aa h3]
  repeat' (first
 |(refine al ?_;first
 |refine mP ?_
 |refine Hd ?_)
 |refine He ?_
 |refine Ir ?_
 |refine an ?_)
  exact⟨.inr rfl,_,rfl,_,o',rfl,Nat.le_refl _,ho,H,N⟩
end Go.Bes
/-
  What may be, rounding up.
-/
namespace Go.Bes
open Go.Ev
theorem lQ (n lo hi:Int):EvP Γ 33 [.int .i64 n,.int .i64 lo,.int .i64 hi] (.bool (decide (lo≤n∧n≤hi))):=by
 refine aJ rfl rfl ?_
 repeat' (first
 |(refine al ?_;first
 |refine ak rfl ?_
 |refine mI ?_
 |refine mB ?_
 |refine ak rfl ?_
 |(refine lp rfl rfl rfl rfl ?_ ?_<;>intro _)
 |refine pB ?_
 |refine Hd ?_)
 |refine He ?_
 |refine Ir ?_
 |refine an ?_)
 all_goals refine aK (by simp) rfl ?_
 all_goals simp[*]
theorem kC (n:Int):EvP Γ 19 [.int .i64 n] (.bool (decide (1≤n∧n≤255))):=by
 refine aJ rfl rfl ?_
 repeat' (first
 |(refine al ?_;first
 |refine mI ?_
 |refine mB ?_
 |refine fF rfl rfl rfl (lQ _ _ _) rfl ?_ ?_<;>intro _
 |refine Hd ?_)
 |refine He ?_
 |refine Ir ?_
 |refine an ?_)
 all_goals refine aK (by simp) rfl ?_
 all_goals simp_all
def mL (a b:Int):Int:=a.tdiv b+(if 1<a.tmod b then 1 else a.tmod b)
theorem vh {a b:Int} (ha:0≤a) (hb:1≤b):0≤mL a b∧mL a b≤a+1:=by
 unfold mL
 rw[Int.tdiv_eq_ediv_of_nonneg ha,Int.tmod_eq_emod_of_nonneg ha]
 have h1:=Int.ediv_nonneg ha (show 0≤b by omega)
 have h2:=Int.emod_nonneg a (show b≠0 by omega)
 have h3:a / b≤a:=Int.ediv_le_self _ ha
 split<;>omega
theorem Ed (a b:Int) (ha:0≤a) (ha2:a≤4611686018427387904) (hb:1≤b):EvP Γ 77 [.int .i64 a,.int .i64 b] (.tuple [.int .i64 (mL a b),.bool true]):=by
 refine aJ rfl rfl ?_
 have hc:=vh ha hb
 unfold mL at hc ⊢
 have h1:0≤a.tdiv b∧a.tdiv b≤a:=by
  rw[Int.tdiv_eq_ediv_of_nonneg ha]
  exact⟨Int.ediv_nonneg ha (by omega),Int.ediv_le_self _ ha⟩
 have h2:0≤a.tmod b:=by
  rw[Int.tmod_eq_emod_of_nonneg ha]
  exact Int.emod_nonneg a (by omega)
 generalize hq:a.tdiv b=q at*
 generalize hr:a.tmod b=r at*
 have hb0:b≠0:=by omega
 have hq':IntKind.wrap .i64 (a.tdiv b)=q:=by rw[hq];exact ea (by omega)
 have hsum:IntKind.wrap .i64 (q+if 1<r then 1 else r)=q+if 1<r then 1 else r:=ea (by omega)
 repeat' (first
 |(refine al ?_;first
 |refine wl (s:=q) rfl rfl rfl rfl hb0 hq' ?_
 |refine GA (s:=r) rfl rfl rfl rfl hb0 hr ?_
 |refine aD (hs:=hsum) ?_
 |refine mI ?_
 |refine mB ?_
 |refine lF ?_
 |refine pB ?_
 |refine qD rfl rfl rfl rfl ?_
 |refine Hd ?_)
 |refine He ?_
 |refine Ir ?_
 |refine ay ?_
 |refine Hg ?_
 |refine ah rfl ?_
 |refine an ?_
 |refine au rfl ?_)
 exact bM (r':=.tuple [.int _ _,.bool _]) (.inr rfl) rfl rfl rfl
end Go.Bes
/-
  What the view's functions come to: edges from a node.
-/
namespace Go.Bes
open Go.Ev
structure Eg where
 id:Int
 fr:Int
 to:Int
 op:Int
 en:Int
 ra:Int
 ow:Int
 ro:Int
deriving DecidableEq
def Eg.e (r:Eg):D:=.agg [.int .i64 r.id,.int .i64 r.fr,.int .i64 r.to,.int .i64 r.op,.int .i64 r.en,.int .i64 r.ra,.int .i64 r.ow,.int .i64 r.ro]
theorem lU {l pre post:List Eg} {x:Eg} (h:l=pre++x::post):l[pre.length]?=some x:=by rw[h];simp
def ci (n:Int) (l:List Eg):List Eg:=l.filter (fun x=>decide (x.fr=n))
theorem nM (n:Int) (l:List Eg) (x:Eg):ci n (l++[x])=if x.fr=n then ci n l++[x]else ci n l:=by
 unfold ci
 rw[List.filter_append]
 by_cases h:x.fr=n<;>simp[h]
theorem Fg (n:Int) (l:List Eg) (hll:l.length≤1073741824) (t0:Tok) (sz0:Nat) (hs0:sz0=8∨l=[]):∀(post pre:List Eg),l=pre++post→∀(ρ:Nat→D) (st:Store) (t:Tok) (sz:Nat),st.lim≤0→st.tlim≤st.ntok→ft st 8 t sz ((ci n pre).map Eg.e)→
  ρ 1=.int .i64 n→ρ 4=.slice t sz ((ci n pre).map Eg.e)→ρ 7=.slice t0 sz0 (l.map Eg.e)→ρ 8=.int .i64 l.length→ρ 9=.int .i64 pre.length→∀(Q:X→(Nat→D)→Store→Prop),
  (∀ρ' st' t' sz',(sz'=8∨ci n l=[])→ρ' 4=.slice t' sz' ((ci n l).map Eg.e)→Q (.exit 0) ρ' st')→WC Γ (.loop mf) ρ st Q:=by
 intro post
 induction post with
 |nil=>
  intro pre hp ρ st t sz hlim htk hO h1 h4 h7 h8 h9 Q hQ
  rw[List.append_nil]at hp
  subst hp
  have hsz:sz=8∨ci n l=[]:=by
   rcases hO with⟨_,h|⟨_,h⟩⟩|⟨k,_,_,_,h⟩
   ·exact .inl h
   ·exact .inr (List.map_eq_nil_iff.mp h)
   ·exact .inl h
  rw[←aa h1,←aa h4,←aa h7,←aa h8,←aa h9]
  refine Hh ?_
  repeat' (first
 |(refine al ?_;first
 |refine lF ?_
 |refine Hd ?_)
 |refine He ?_
 |refine Ir ?_
 |refine ah rfl ?_
 |refine Hi ?_)
  exact hQ _ _ t sz hsz rfl
 |cons x post ih=>
  intro pre hp ρ st t sz hlim htk hO h1 h4 h7 h8 h9 Q hQ
  have hv:=lU hp
  have hlen:l.length=pre.length+(post.length+1):=by rw[hp];simp
  have hsz0:sz0=8:=by
   rcases hs0 with h|h
   ·exact h
   ·rw[h]at hlen;simp at hlen
  subst hsz0
  have hlim2:st.lim≤st.next:=by omega
  have hfl:(ci n pre).length≤pre.length:=List.length_filter_le _ _
  have hby:(((ci n pre).map Eg.e).length+([x.e]:List D).length)*64≤140737488355328:=by simp;omega
  have hO1:∀{u v:Option Box},ft {st with boxes:=ap (ap st.boxes st.next u) st.next v,next:=st.next+1} 8 t sz ((ci n pre).map Eg.e):=fun{u v}=>hO
  have hpl:pre.length<(l.map Eg.e).length:=by simp;omega
  have hltl:(pre.length:Int)<l.length:=by omega
  rw[←aa h1,←aa h4,←aa h7,←aa h8,←aa h9]
  refine Hh ?_
  by_cases hx:x.fr=n
  ·repeat' (first
 |(refine al ?_;first
 |refine iA (pre.length) hpl ?_
 |refine am (cs':=[_,_,_,_,_,_,_,_]) rfl rfl (ae _ _ _) rfl hlim2 rfl rfl rfl ?_
 |(refine oZ (ys:=[x.e]) rfl rfl rfl hO1 (.inl rfl) hby htk rfl ?_<;>intro k1 st1 e1 e2 e3 e4 e5 e6 e7)
 |refine mI ?_
 |refine mS ?_
 |refine lT ?_
 |refine cb rfl rfl rfl rfl (by omega) ?_
 |refine aD ?_
 |refine lE (d:=.agg [_,_,_,_,_,_,_,_]) hv ?_
 |refine ai (agg:=false) (d:=.int _ _) rfl rfl rfl (aY rfl) hlim2 rfl ?_
 |refine ai (agg:=true) (d:=.agg [_,_,_,_,_,_,_,_]) rfl rfl rfl (aY rfl) hlim2 rfl ?_
 |refine fD ?_
 |refine av rfl rfl ?_
 |refine bg (ys:=[_]) rfl rfl rfl (by decide) rfl ?_
 |refine Hd ?_)
 |refine He ?_
 |refine Ir ?_
 |refine Hg ?_
 |refine aj rfl ?_
 |refine Hf ?_)
   refine ih (pre++[x]) (by simp[hp]) _ st1 (.own k1) 8 (by rw[e3];exact hlim) e5 (.inr ⟨k1,rfl,e6,e7,rfl⟩) ?_ ?_ ?_ ?_ ?_ Q hQ
   ·rfl
   ·rw[nM,if_pos hx,List.map_append];rfl
   ·rfl
   ·rfl
   ·rw[List.length_append];rfl
  ·repeat' (first
 |(refine al ?_;first
 |refine iA (pre.length) hpl ?_
 |refine am (cs':=[_,_,_,_,_,_,_,_]) rfl rfl (ae _ _ _) rfl hlim2 rfl rfl rfl ?_
 |refine mI ?_
 |refine lT ?_
 |refine b7 rfl rfl rfl rfl (by omega) ?_
 |refine aD ?_
 |refine lE (d:=.agg [_,_,_,_,_,_,_,_]) hv ?_
 |refine ai (agg:=false) (d:=.int _ _) rfl rfl rfl (aY rfl) hlim2 rfl ?_
 |refine fD ?_
 |refine av rfl rfl ?_
 |refine Hd ?_)
 |refine He ?_
 |refine Ir ?_
 |refine Hg ?_
 |refine aj rfl ?_
 |refine ah rfl ?_
 |refine Hf ?_)
   refine ih (pre++[x]) (by simp[hp]) _ _ t sz ?_ ?_ ?_ ?_ ?_ ?_ ?_ ?_ Q hQ
   ·exact hlim
   ·exact htk
   ·rw[nM,if_neg hx];exact hO
   ·rfl
   ·rw[nM,if_neg hx];rfl
   ·rfl
   ·rfl
   ·rw[List.length_append];rfl
theorem Az (n:Int) (l:List Eg) (hll:l.length≤1073741824) (t:Tok) (sz:Nat) (hs:sz=8∨l=[]):EvX Γ 42 [.slice t sz (l.map Eg.e),.int .i64 n] (GQ Eg.e 8 (ci n l)):=by
 refine bR rfl rfl ?_
 repeat' (first
 |(refine al ?_;first
 |refine lN ?_
 |refine mI ?_
 |refine mS ?_
 |refine Hd ?_)
 |refine He ?_
 |refine Ir ?_
 |refine Hf ?_)
 refine Fg n l hll t sz hs l [] rfl _ _ .isnil 0 (Nat.le_refl _) (Nat.le_refl _) (.inl ⟨.inl rfl,.inr ⟨rfl,rfl⟩⟩) ?_ ?_ ?_ ?_ ?_ _ (fun ρ' st' t' sz' hsz h4=>?_)
 ·rfl
 ·rfl
 ·rfl
 ·rfl
 ·rfl
 rw[←aa h4]
 repeat' (first
 |(refine al ?_;first
 |refine mS ?_
 |refine Hd ?_)
 |refine He ?_
 |refine Ir ?_
 |refine an ?_)
 exact AN (.inr rfl) rfl hsz rfl
end Go.Bes
/-
  What hop's functions come to: when what is ready is there.
-/
namespace Go.Bes
open Go.Ev
def Eg.ok (x:Eg):Prop:=((1≤x.fr∧x.fr≤255)∧(1≤x.to∧x.to≤255)∧x.fr≠x.to)∧((0≤x.op∧x.op≤1099511627776)∧(1≤x.en∧x.en≤2147483647)∧(0≤x.ow∧x.ow≤2147483647))∧(1≤x.id∧x.id≤1048576)∧(1≤x.ra∧x.ra≤2147483647)∧(0≤x.ro∧x.ro≤4611686018427387904)
instance (x:Eg):Decidable x.ok:=by unfold Eg.ok;infer_instance
set_option maxHeartbeats 4000000 in
theorem wP (x:Eg):EvP Γ 76 [x.e] (.bool (decide x.ok)):=by
 refine aJ rfl rfl ?_
 unfold Eg.ok
 repeat' (first
 |(refine al ?_;first
 |refine ak rfl ?_
 |refine mB ?_
 |refine ak rfl ?_
 |(refine j5 rfl rfl rfl rfl ?_ ?_<;>intro _)
 |refine ak rfl ?_
 |refine lO (d:=.int _ _) ?_
 |refine ak rfl ?_
 |(refine fF rfl rfl rfl (kC _) rfl ?_ ?_<;>intro _)
 |(refine fF rfl rfl rfl (lQ _ _ _) rfl ?_ ?_<;>intro _)
 |refine pB ?_
 |refine cm rfl rfl rfl rfl rfl ?_
 |refine fD ?_
 |refine ak rfl ?_
 |refine Hd ?_)
 |refine He ?_
 |refine Ir ?_
 |refine an ?_)
 all_goals (refine aK (by simp) rfl ?_;first|(simp_all;done)|(simp_all;omega)|(simp only[eq_comm (a:=true),eq_comm (a:=false),decide_eq_true_eq,decide_eq_false_iff_not]at*;omega)|grind)
def ji (x:Eg) (t sz:Int):Prop:=(0≤t∧t≤1099511627776)∧(0≤sz∧sz≤1099511627775)∧x.ok
instance (x:Eg) (t sz:Int):Decidable (ji x t sz):=by unfold ji;infer_instance
theorem pD (x:Eg) (t sz:Int):EvP Γ 59 [x.e,.int .i64 t,.int .i64 sz] (.bool (decide (ji x t sz))):=by
 refine aJ rfl rfl ?_
 unfold ji
 repeat' (first
 |(refine al ?_;first
 |refine ak rfl ?_
 |refine mI ?_
 |refine mB ?_
 |refine ak rfl ?_
 |refine lO (d:=.agg [_,_,_,_,_,_,_,_]) ?_
 |refine ak rfl ?_
 |(refine fF rfl rfl rfl (wP _) rfl ?_ ?_<;>intro _)
 |(refine fF rfl rfl rfl (lQ _ _ _) rfl ?_ ?_<;>intro _)
 |refine pB ?_
 |refine cm rfl rfl rfl rfl rfl ?_
 |refine Hd ?_)
 |refine He ?_
 |refine Ir ?_
 |refine an ?_)
 all_goals (refine aK (by simp) rfl ?_;first|(simp_all;done)|(simp_all;omega)|(simp only[eq_comm (a:=true),eq_comm (a:=false),decide_eq_true_eq,decide_eq_false_iff_not]at*;omega)|grind)
def br (x:Eg) (sz:Int):Int:=if ji x 0 sz then mL sz x.ra else 0
theorem ku (x:Eg) (sz:Int):0≤br x sz∧br x sz≤1099511627776:=by
 unfold br
 split
 ·rename_i h
  have:=vh (a:=sz) (b:=x.ra) h.2.1.1 h.2.2.2.2.2.1.1
  have:=h.2.1.2
  omega
 ·omega
theorem yE (x:Eg) (sz:Int):EvP Γ 58 [x.e,.int .i64 sz] (.int .i64 (br x sz)):=by
 refine aJ rfl rfl ?_
 unfold br
 by_cases h:ji x 0 sz
 ·rw[if_pos h]
  have hc:=Ed sz x.ra h.2.1.1 (by have:=h.2.1.2;omega) h.2.2.2.2.2.1.1
  have hr:=pD x 0 sz
  rw[decide_eq_true h]at hr
  generalize mL sz x.ra=c at hc ⊢
  repeat' (first
 |(refine al ?_;first
 |refine mI ?_
 |refine mB ?_
 |refine mT ?_
 |refine lO (d:=.int _ _) ?_
 |refine lO (d:=.agg [_,_,_,_,_,_,_,_]) ?_
 |refine cA rfl hr ?_
 |refine cA rfl hc ?_
 |refine eI ?_
 |refine eB ?_
 |refine cm rfl rfl rfl rfl rfl ?_
 |refine nT ?_
 |refine fD ?_
 |refine Hd ?_)
 |refine He ?_
 |refine Ir ?_
 |refine Hg ?_
 |refine ah rfl ?_
 |refine an ?_)
  exact fJ (.inr rfl) rfl rfl
 ·rw[if_neg h]
  have hr:=pD x 0 sz
  rw[decide_eq_false h]at hr
  repeat' (first
 |(refine al ?_;first
 |refine mI ?_
 |refine lO (d:=.agg [_,_,_,_,_,_,_,_]) ?_
 |refine cA rfl hr ?_
 |refine cm rfl rfl rfl rfl rfl ?_
 |refine nT ?_
 |refine Hd ?_)
 |refine He ?_
 |refine Ir ?_
 |refine aj rfl ?_
 |refine an ?_)
  exact fJ (.inr rfl) rfl rfl
def mx (a b:Int):Int:=if b>a then b else a
theorem rz {a b c:Int}:mx a b≤c↔a≤c∧b≤c:=by unfold mx;split<;>omega
theorem mN {a b:Int}:a≤mx a b∧b≤mx a b:=by unfold mx;split<;>omega
section
variable {Γ:Nat→Option FD} {ρ:Nat→D} {st:Store} {dr:Bool} {R:(Nat→D)→Store→List Fl→Prop} {l:List Op1} {g:Option (Nat×Bool)} {mv:Bool} {k:Nat} {x y:A}
theorem Bx {κ κ':IntKind} {n m s:Int} (hg:ao ρ g=some true) (hx:x.ev ρ=.int κ n) (hm:mv=false) (hy:y.ev ρ=.int κ' m) (hs:mx n m=s) (h:WS Γ dr l (ap ρ k (.int κ s)) st (nx .n R)):WS Γ dr (⟨some k,g,mv,.max [x,y]⟩::l) ρ st R:=by
 subst hs
 exact qY hg hx hm hy h
end
def eT (x:Eg) (t sz:Int):Prop:=ji x t sz∧sz≤x.ro∧mx t x.op≤x.en - mx (br x sz) 1
instance (x:Eg) (t sz:Int):Decidable (eT x t sz):=by unfold eT;infer_instance
def aX (x:Eg) (t sz:Int):Int:=mx t x.op+br x sz+x.ow
def vL (x:Eg) (t sz:Int):D:=if eT x t sz then .tuple [.int .i64 (mx t x.op),.int .i64 (aX x t sz),.bool true]else .tuple [.int .i64 0,.int .i64 0,.bool false]
set_option maxHeartbeats 4000000 in
theorem xJ (x:Eg) (t sz:Int):EvP Γ 36 [x.e,.int .i64 t,.int .i64 sz] (vL x t sz):=by
 refine aJ rfl rfl ?_
 have hT:=yE x sz
 have hk:=ku x sz
 have hr:=pD x t sz
 unfold vL
 by_cases hc:eT x t sz
 ·rw[if_pos hc]
  obtain⟨h1,h2,h3⟩:=hc
  rw[decide_eq_true h1]at hr
  obtain⟨ht,hs,hok⟩:=h1
  have hop:=hok.2.1.1
  have hen:=hok.2.1.2.1
  have how:=hok.2.1.2.2
  have hro:=hok.2.2.2.2
  have hm:=mN (a:=t) (b:=x.op)
  have hm1:=mN (a:=br x sz) (b:=1)
  have hmt:mx (br x sz) 1≤1099511627776:=rz.mpr ⟨hk.2,by omega⟩
  have hmo:mx t x.op≤1099511627776:=rz.mpr ⟨ht.2,hop.2⟩
  have hm0:0≤mx t x.op:=by omega
  unfold aX
  clear hok
  generalize br x sz=k at*
  generalize e1:mx t x.op=m at*
  generalize e2:mx k 1=k1 at*
  repeat' (first
 |(refine al ?_;first
 |refine Bx rfl rfl rfl rfl e1 ?_
 |refine Bx rfl rfl rfl rfl e2 ?_
 |refine mI ?_
 |refine mB ?_
 |refine gF ?_
 |refine aD ?_
 |refine aS ?_
 |refine lO (d:=.int _ _) ?_
 |refine lO (d:=.agg [_,_,_,_,_,_,_,_]) ?_
 |refine cA rfl hr ?_
 |refine cA rfl hT ?_
 |refine pB ?_
 |refine cm rfl rfl rfl rfl rfl ?_
 |refine nT ?_
 |refine fD ?_
 |refine Hd ?_)
 |refine He ?_
 |refine Ir ?_
 |refine ay ?_
 |refine Hg ?_
 |refine ah rfl ?_
 |refine an ?_
 |refine au rfl ?_)
  all_goals exact bM (r':=.tuple [.int _ _,.int _ _,.bool _]) (.inr rfl) rfl rfl rfl
 ·rw[if_neg hc]
  by_cases h1:ji x t sz
  ·have h1':=h1
   obtain⟨ht,hs,hok⟩:=h1'
   have hop:=hok.2.1.1
   have hen:=hok.2.1.2.1
   have hm1:=mN (a:=br x sz) (b:=1)
   have hmt:mx (br x sz) 1≤1099511627776:=rz.mpr ⟨hk.2,by omega⟩
   have hc':¬(sz≤x.ro∧mx t x.op≤x.en - mx (br x sz) 1):=fun h=>hc ⟨h1,h.1,h.2⟩
   rw[decide_eq_true h1]at hr
   clear hok hc h1
   generalize br x sz=k at*
   generalize e1:mx t x.op=m at*
   generalize e2:mx k 1=k1 at*
   repeat' (first
 |(refine al ?_;first
 |refine Bx rfl rfl rfl rfl e1 ?_
 |refine Bx rfl rfl rfl rfl e2 ?_
 |refine ak rfl ?_
 |refine mI ?_
 |refine mB ?_
 |refine ak rfl ?_
 |refine gT ?_
 |(refine jl rfl rfl rfl rfl ?_ ?_<;>intro _)
 |refine aS ?_
 |refine ak rfl ?_
 |refine lO (d:=.int _ _) ?_
 |refine lO (d:=.agg [_,_,_,_,_,_,_,_]) ?_
 |refine cA rfl hr ?_
 |refine cA rfl hT ?_
 |refine pB ?_
 |refine cm rfl rfl rfl rfl rfl ?_
 |refine nT ?_
 |refine fD ?_
 |refine ak rfl ?_
 |refine Hd ?_)
 |refine He ?_
 |refine Ir ?_
 |refine aj rfl ?_
 |refine an ?_)
   all_goals first
    |exact bM (r':=.tuple [.int _ _,.int _ _,.bool _]) (.inr rfl) rfl rfl rfl
    |(exfalso;omega)
  ·rw[decide_eq_false h1]at hr
   repeat' (first
 |(refine al ?_;first
 |refine ak rfl ?_
 |refine mI ?_
 |refine mB ?_
 |refine ak rfl ?_
 |refine ak rfl ?_
 |refine lO (d:=.int _ _) ?_
 |refine lO (d:=.agg [_,_,_,_,_,_,_,_]) ?_
 |refine cA rfl hr ?_
 |refine cA rfl hT ?_
 |refine pB ?_
 |refine cm rfl rfl rfl rfl rfl ?_
 |refine nT ?_
 |refine qY rfl rfl rfl rfl ?_
 |refine fD ?_
 |refine ak rfl ?_
 |refine Hd ?_)
 |refine He ?_
 |refine Ir ?_
 |refine aj rfl ?_
 |refine an ?_)
   all_goals exact bM (r':=.tuple [.int _ _,.int _ _,.bool _]) (.inr rfl) rfl rfl rfl
end Go.Bes
/-
  What is asked, and what is told of a node.
-/
namespace Go.Bes
open Go.Ev
def RL (l:List Eg):Prop:=(∀e∈l,e.ok)∧l.Pairwise fun a b=>a.id<b.id
instance (l:List Eg):Decidable (RL l):=by unfold RL;infer_instance
theorem RL.nil:RL []:=⟨by simp,by simp⟩
theorem pC {pre:List Eg} {x:Eg}:RL (pre++[x])↔RL pre∧x.ok∧∀y∈pre,y.id<x.id:=by
 unfold RL
 rw[List.pairwise_append]
 constructor
 ·rintro⟨h1,h2,h3,h4⟩
  exact⟨⟨fun e he=>h1 e (by simp[he]),h2⟩,h1 x (by simp),fun y hy=>h4 y hy x (by simp)⟩
 ·rintro⟨⟨h1,h2⟩,h3,h4⟩
  refine⟨fun e he=>?_,h2,by simp,fun a ha b hb=>?_⟩
  ·rcases List.mem_append.mp he with he|he
   ·exact h1 e he
   ·rw[List.mem_singleton.mp he];exact h3
  ·rw[List.mem_singleton.mp hb]
   exact h4 a ha
theorem RL.pre {pre post:List Eg} (h:RL (pre++post)):RL pre:=⟨fun e he=>h.1 e (by simp[he]),(List.pairwise_append.mp h.2).1⟩
theorem Dx {pre:List Eg} (h:RL pre) {y:Eg} (hy:pre[pre.length - 1]?=some y):∀z∈pre,z.id≤y.id:=by
 intro z hz
 obtain⟨i,hi,rfl⟩:=List.getElem_of_mem hz
 obtain⟨hk,rfl⟩:=List.getElem?_eq_some_iff.mp hy
 by_cases e:i=pre.length - 1
 ·subst e;exact Int.le_refl _
 ·exact Int.le_of_lt (List.pairwise_iff_getElem.mp h.2 i (pre.length - 1) hi hk (by omega))
set_option maxHeartbeats 4000000 in
theorem G8 (l:List Eg) (hll:l.length≤1073741824) (t:Tok) (sz:Nat) (hs:sz=8∨l=[]):∀(post pre:List Eg),l=pre++post→RL pre→∀(ρ:Nat→D) (st:Store),st.lim≤st.next→
  ρ 0=.slice t sz (l.map Eg.e)→ρ 5=.slice t sz (l.map Eg.e)→ρ 6=.int .i64 l.length→ρ 7=.int .i64 pre.length→∀(Q:X→(Nat→D)→Store→Prop),
  (RL l→∀ρ' st',Q (.exit 0) ρ' st')→(¬RL l→∀ρ' st',ρ' 2=.bool false→Q .ret ρ' st')→WC Γ (.loop gY) ρ st Q:=by
 intro post
 induction post with
 |nil=>
  intro pre hpp hR ρ st hlim h0 h5 h6 h7 Q hQ hQ2
  rw[List.append_nil]at hpp
  subst hpp
  rw[←aa h0,←aa h5,←aa h6,←aa h7]
  refine Hh ?_
  repeat' (first
 |(refine al ?_;first
 |refine lF ?_
 |refine Hd ?_)
 |refine He ?_
 |refine Ir ?_
 |refine ah rfl ?_
 |refine Hi ?_)
  exact hQ hR _ _
 |cons x post ih=>
  intro pre hpp hR ρ st hlim h0 h5 h6 h7 Q hQ hQ2
  have hv:=lU hpp
  have hlen:l.length=pre.length+(post.length+1):=by rw[hpp];simp
  have hz:sz=8:=hs.resolve_right (by rintro rfl;simp at hlen)
  subst hz
  have hpl:pre.length<(l.map Eg.e).length:=by simp;omega
  have hpl2:pre.length - 1<(l.map Eg.e).length:=by simp;omega
  have hltl:(pre.length:Int)<l.length:=by omega
  have hRl:RL l→RL (pre++[x]):=fun h=>by
   rw[hpp,show pre++x::post=(pre++[x])++post by simp]at h
   exact h.pre
  have hbad:∀ρ' st',decide x.ok=false→ρ' 2=.bool false→Q .ret ρ' st':=fun ρ' st' hx e=>hQ2 (fun h=>(of_decide_eq_false hx) (pC.mp (hRl h)).2.1) ρ' st' e
  have hnext:∀ρ' st',st'.lim≤st'.next→RL (pre++[x])→ρ' 0=.slice t 8 (l.map Eg.e)→ρ' 5=.slice t 8 (l.map Eg.e)→ρ' 6=.int .i64 l.length→ρ' 7=.int .i64 ((pre.length:Int)+1)→WC Γ (.loop gY) ρ' st' Q:=fun ρ' st' e1 e2 k0 k5 k6 k7=>
   ih (pre++[x]) (by simp[hpp]) e2 ρ' st' e1 k0 k5 k6 (by rw[List.length_append];exact k7) Q hQ hQ2
  have hok:=wP x
  rw[←aa h0,←aa h5,←aa h6,←aa h7]
  refine Hh ?_
  by_cases hz:0<pre.length
  ·have hsub:IntKind.i64.wrap ((pre.length:Int) - 1)=((pre.length - 1:Nat):Int):=by rw[ea (by omega)];omega
   have hz':(0:Int)<pre.length:=by omega
   obtain⟨y,hy⟩:∃y,pre[pre.length - 1]?=some y:=⟨pre[pre.length - 1]'(by omega),List.getElem?_eq_getElem _⟩
   have hvy:l[pre.length - 1]?=some y:=by rw[hpp,List.getElem?_append_left (by omega)];exact hy
   have hmem:=List.mem_of_getElem? hy
   have hbad2:∀ρ' st',x.id≤y.id→ρ' 2=.bool false→Q .ret ρ' st':=fun ρ' st' hx e=>hQ2 (fun h=>by
    have:=(pC.mp (hRl h)).2.2 y hmem
    omega) ρ' st' e
   have hgo:decide x.ok=true→y.id<x.id→RL (pre++[x]):=fun h1 h2=>pC.mpr ⟨hR,of_decide_eq_true h1,fun z hz=>by have:=Dx hR hy z hz;omega⟩
   clear ih hQ hQ2 hRl hpp hR
   generalize decide x.ok=bk at*
   repeat' (first
 |(refine al ?_;first
 |refine aS (s:=((pre.length - 1:Nat):Int)) (hs:=hsub) ?_
 |refine iA (pre.length) hpl ?_
 |refine iA (pre.length - 1) hpl2 ?_
 |refine am (cs':=[_,_,_,_,_,_,_,_]) rfl rfl (ae _ _ _) rfl hlim rfl rfl rfl ?_
 |refine ak rfl ?_
 |refine mI ?_
 |refine mB ?_
 |refine mS ?_
 |refine ak rfl ?_
 |refine lT ?_
 |refine gT ?_
 |(refine AF rfl rfl rfl rfl ?_ ?_<;>intro _)
 |refine aD ?_
 |refine ak rfl ?_
 |refine lE (d:=.agg [_,_,_,_,_,_,_,_]) hv ?_
 |refine lE (d:=.int _ _) hvy ?_
 |refine lP (d:=.int _ _) ?_
 |refine lP (d:=.agg [_,_,_,_,_,_,_,_]) ?_
 |(refine fF rfl rfl rfl hok rfl ?_ ?_<;>intro _)
 |refine pB ?_
 |refine ak rfl ?_
 |refine nT ?_
 |refine fD ?_
 |refine eN rfl rfl rfl ?_
 |refine av rfl rfl ?_
 |refine ak rfl ?_
 |refine Hd ?_)
 |refine au (aE rfl) ?_
 |refine He ?_
 |refine Ir ?_
 |refine ay ?_
 |refine Hg ?_
 |refine aj rfl ?_
 |refine ah rfl ?_
 |refine Hf ?_
 |refine an ?_)
   all_goals first
    |(refine hbad _ _ (by assumption) ?_;rfl;done)
    |(refine hbad2 _ _ (by omega) ?_;rfl;done)
    |(refine hnext _ _ ?_ (hgo (by assumption) (by omega)) ?_ ?_ ?_ ?_<;>first|rfl|exact Nat.le_succ_of_le hlim)
  ·have hz':(pre.length:Int)≤0:=by omega
   have hp0:pre=[]:=List.length_eq_zero_iff.mp (by omega)
   have hgo:decide x.ok=true→RL (pre++[x]):=fun h1=>pC.mpr ⟨hR,of_decide_eq_true h1,fun z hz=>by rw[hp0]at hz;cases hz⟩
   clear ih hQ hQ2 hRl hpp hR hp0
   generalize decide x.ok=bk at*
   repeat' (first
 |(refine al ?_;first
 |refine iA (pre.length) hpl ?_
 |refine am (cs':=[_,_,_,_,_,_,_,_]) rfl rfl (ae _ _ _) rfl hlim rfl rfl rfl ?_
 |refine ak rfl ?_
 |refine mI ?_
 |refine mB ?_
 |refine ak rfl ?_
 |refine lT ?_
 |refine gF ?_
 |refine aD ?_
 |refine ak rfl ?_
 |refine lE (d:=.agg [_,_,_,_,_,_,_,_]) hv ?_
 |refine lP (d:=.agg [_,_,_,_,_,_,_,_]) ?_
 |(refine fF rfl rfl rfl hok rfl ?_ ?_<;>intro _)
 |refine pB ?_
 |refine ak rfl ?_
 |refine nT ?_
 |refine av rfl rfl ?_
 |refine ak rfl ?_
 |refine Hd ?_)
 |refine au (aE rfl) ?_
 |refine He ?_
 |refine Ir ?_
 |refine ay ?_
 |refine Hg ?_
 |refine aj rfl ?_
 |refine ah rfl ?_
 |refine Hf ?_
 |refine an ?_)
   all_goals first
    |(refine hbad _ _ (by assumption) ?_;rfl;done)
    |(refine hnext _ _ ?_ (hgo (by assumption)) ?_ ?_ ?_ ?_<;>first|rfl|exact Nat.le_succ_of_le hlim)
theorem Ct (l:List Eg) (hll:l.length≤1073741824) (t:Tok) (sz:Nat) (hs:sz=8∨l=[]):EvP Γ 57 [.slice t sz (l.map Eg.e)] (.bool (decide (RL l))):=by
 refine aJ rfl rfl ?_
 repeat' (first
 |(refine al ?_;first
 |refine lN ?_
 |refine mI ?_
 |refine mB ?_
 |refine mS ?_
 |refine Hd ?_)
 |refine He ?_
 |refine Ir ?_
 |refine Hf ?_)
 refine G8 l hll t sz hs l [] rfl RL.nil _ _ (Nat.le_refl _) ?_ ?_ ?_ ?_ _ (fun h ρ' st'=>?_) (fun h ρ' st' h2=>?_)
 ·rfl
 ·rfl
 ·rfl
 ·rfl
 ·repeat' (first
 |(refine al ?_;first
 |refine mB ?_
 |refine Hd ?_)
 |refine He ?_
 |refine Ir ?_
 |refine an ?_)
  exact aK (.inr rfl) rfl (decide_eq_true h).symm
 ·rw[←aa h2]
  exact aK (.inr rfl) rfl (decide_eq_false h).symm
def bV (l:List Eg) (fr now sz:Int):Prop:=(1≤fr∧fr≤255)∧(0≤sz∧sz≤1099511627775)∧(0≤now∧now≤1099511627776)∧RL l
instance (l:List Eg) (fr now sz:Int):Decidable (bV l fr now sz):=by unfold bV;infer_instance
theorem Bb (fr to sz now:Int):EvP Γ 56 [.agg [.int .i64 fr,.int .i64 to,.int .i64 sz,.int .i64 0,.int .i64 now]] (.bool (decide ((1≤fr∧fr≤255)∧(1≤to∧to≤255)∧(0≤sz∧sz≤1099511627775)∧(0≤now∧now≤1099511627776)))):=by
 refine aJ rfl rfl ?_
 have h0:=lQ 0 0 2
 rw[decide_eq_true (by omega)]at h0
 repeat' (first
 |(refine al ?_;first
 |refine mB ?_
 |refine ak rfl ?_
 |refine lO (d:=.int _ _) ?_
 |refine ak rfl ?_
 |refine cA rfl h0 ?_
 |(refine fF rfl rfl rfl (kC _) rfl ?_ ?_<;>intro _)
 |(refine fF rfl rfl rfl (lQ _ _ _) rfl ?_ ?_<;>intro _)
 |refine pB ?_
 |refine cm rfl rfl rfl rfl rfl ?_
 |refine fD ?_
 |refine ak rfl ?_
 |refine Hd ?_)
 |refine He ?_
 |refine Ir ?_
 |refine an ?_)
 all_goals (refine aK (by simp) rfl ?_;first|(simp_all;done)|(simp_all;omega)|(simp only[eq_comm (a:=true),eq_comm (a:=false),decide_eq_true_eq,decide_eq_false_iff_not]at*;omega)|grind)
theorem l9 (l:List Eg) (hll:l.length≤1073741824) (fr now sz:Int) (t:Tok) (s:Nat) (hs:s=8∨l=[]):EvP Γ 35 [.slice t s (l.map Eg.e),.int .i64 fr,.int .i64 fr,.int .i64 now,.int .i64 sz] (.bool (decide (bV l fr now sz))):=by
 refine aJ rfl rfl ?_
 have hR:=fun t=>Ct l hll t s hs
 have hB:=Bb fr fr sz now
 have ht:decide ((1≤fr∧fr≤255)∧(1≤fr∧fr≤255)∧(0≤sz∧sz≤1099511627775)∧(0≤now∧now≤1099511627776))=true→decide (RL l)=true→decide (bV l fr now sz)=true:=fun h1 h2=>by
  have h1:=of_decide_eq_true h1
  exact decide_eq_true ⟨h1.1,h1.2.2.1,h1.2.2.2,of_decide_eq_true h2⟩
 have hf1:decide ((1≤fr∧fr≤255)∧(1≤fr∧fr≤255)∧(0≤sz∧sz≤1099511627775)∧(0≤now∧now≤1099511627776))=false→decide (bV l fr now sz)=false:=fun h1=>
  decide_eq_false fun h=>(of_decide_eq_false h1) ⟨h.1,h.1,h.2.1,h.2.2.1⟩
 have hf2:decide (RL l)=false→decide (bV l fr now sz)=false:=fun h1=>
  decide_eq_false fun h=>(of_decide_eq_false h1) h.2.2.2
 generalize decide (bV l fr now sz)=q at*
 generalize decide (RL l)=q2 at*
 generalize decide ((1≤fr∧fr≤255)∧(1≤fr∧fr≤255)∧(0≤sz∧sz≤1099511627775)∧(0≤now∧now≤1099511627776))=q1 at*
 repeat' (first
 |(refine al ?_;first
 |refine ak rfl ?_
 |refine mI ?_
 |refine mB ?_
 |refine mS ?_
 |refine ak rfl ?_
 |(refine fF rfl rfl rfl hB rfl ?_ ?_<;>intro _)
 |(refine fF rfl rfl rfl (hR _) rfl ?_ ?_<;>intro _)
 |refine pB ?_
 |refine bJ (cs:=[_,_,_,_,_]) rfl rfl rfl ?_
 |refine Hd ?_)
 |refine He ?_
 |refine Ir ?_
 |refine an ?_)
 all_goals first
  |exact aK (.inr rfl) rfl (ht (by assumption) (by assumption)).symm
  |exact aK (.inr rfl) rfl (hf1 (by assumption)).symm
  |exact aK (.inr rfl) rfl (hf2 (by assumption)).symm
theorem EQ {l pre post:List Rd} {x:Rd} (h:l=pre++x::post):l[pre.length]?=some x:=by rw[h];simp
def cK (n:Int):List Rd→Option Int
 |[]=>none
 |r::l=>if r.node=n then some r.at' else cK n l
theorem yv {n:Int}:∀{pre post:List Rd} {x:Rd},(∀y∈pre,y.node≠n)→x.node=n→cK n (pre++x::post)=some x.at'
 |[],post,x,_,h=>by simp[cK,h]
 |y::pre,post,x,h0,h=>by
  rw[List.cons_append,cK,if_neg (h0 y (by simp))]
  exact yv (fun z hz=>h0 z (by simp[hz])) h
theorem vi {n:Int}:∀{l:List Rd},(∀y∈l,y.node≠n)→cK n l=none
 |[],_=>rfl
 |y::l,h=>by rw[cK,if_neg (h y (by simp))];exact vi (fun z hz=>h z (by simp[hz]))
set_option maxHeartbeats 4000000 in
theorem G4 (n:Int) (l:List Rd) (hll:l.length≤1073741824) (t:Tok) (sz:Nat) (hs:sz=2∨l=[]):∀(post pre:List Rd),l=pre++post→(∀y∈pre,y.node≠n)→∀(ρ:Nat→D) (st:Store),st.lim≤st.next→
  ρ 1=.int .i64 n→ρ 8=.slice t sz (l.map Rd.e)→ρ 9=.int .i64 l.length→ρ 10=.int .i64 pre.length→∀(Q:X→(Nat→D)→Store→Prop),
  (cK n l=none→∀ρ' st',Q (.exit 0) ρ' st')→(∀u,cK n l=some u→∀ρ' st',ρ' 4=.int .i64 u→ρ' 5=.bool true→Q .ret ρ' st')→WC Γ (.loop jN) ρ st Q:=by
 intro post
 induction post with
 |nil=>
  intro pre hpp hn ρ st hlim h1 h8 h9 h10 Q hQ hQ2
  rw[List.append_nil]at hpp
  subst hpp
  rw[←aa h1,←aa h8,←aa h9,←aa h10]
  refine Hh ?_
  repeat' (first
 |(refine al ?_;first
 |refine lF ?_
 |refine Hd ?_)
 |refine He ?_
 |refine Ir ?_
 |refine ah rfl ?_
 |refine Hi ?_)
  exact hQ (vi hn) _ _
 |cons x post ih=>
  intro pre hpp hn ρ st hlim h1 h8 h9 h10 Q hQ hQ2
  have hv:=EQ hpp
  have hlen:l.length=pre.length+(post.length+1):=by rw[hpp];simp
  have hz:sz=2:=hs.resolve_right (by rintro rfl;simp at hlen)
  subst hz
  have hpl:pre.length<(l.map Rd.e).length:=by simp;omega
  have hltl:(pre.length:Int)<l.length:=by omega
  have hyes:x.node=n→∀ρ' st',ρ' 4=.int .i64 x.at'→ρ' 5=.bool true→Q .ret ρ' st':=fun e ρ' st' k4 k5=>hQ2 x.at' (by rw[hpp];exact yv hn e) ρ' st' k4 k5
  have hnext:x.node≠n→∀ρ' st',st'.lim≤st'.next→ρ' 1=.int .i64 n→ρ' 8=.slice t 2 (l.map Rd.e)→ρ' 9=.int .i64 l.length→ρ' 10=.int .i64 ((pre.length:Int)+1)→WC Γ (.loop jN) ρ' st' Q:=fun e ρ' st' e1 k1 k8 k9 k10=>
   ih (pre++[x]) (by simp[hpp]) (fun y hy=>by
    rcases List.mem_append.mp hy with hy|hy
    ·exact hn y hy
    ·rw[List.mem_singleton.mp hy];exact e) ρ' st' e1 k1 k8 k9 (by rw[List.length_append];exact k10) Q hQ hQ2
  clear ih hQ hQ2 hn hpp
  rw[←aa h1,←aa h8,←aa h9,←aa h10]
  refine Hh ?_
  repeat' (first
 |(refine al ?_;first
 |refine iA (pre.length) hpl ?_
 |refine am (cs':=[_,_]) rfl rfl (ae _ _ _) rfl hlim rfl rfl rfl ?_
 |refine mI ?_
 |refine mB ?_
 |refine lT ?_
 |(refine ln rfl rfl rfl rfl ?_ ?_<;>intro _)
 |refine aD ?_
 |refine lE (d:=.agg [_,_]) hv ?_
 |refine lP (d:=.int _ _) ?_
 |refine fD ?_
 |refine av rfl rfl ?_
 |refine Hd ?_)
 |refine He ?_
 |refine Ir ?_
 |refine Hg ?_
 |refine aj rfl ?_
 |refine ah rfl ?_
 |refine Hf ?_
 |refine an ?_)
  all_goals first
   |(refine hyes (by assumption) _ _ ?_ ?_<;>rfl)
   |(refine hnext (by assumption) _ _ ?_ ?_ ?_ ?_ ?_<;>first|rfl|exact Nat.le_succ_of_le hlim)
theorem GC (n:Int) (l:List Rd) (hll:l.length≤1073741824) (t:Tok) (sz:Nat) (hs:sz=2∨l=[]):EvP Γ 26 [.slice t sz (l.map Rd.e),.int .i64 n] (.tuple [.int .i64 ((cK n l).getD 0),.bool (cK n l).isSome]):=by
 refine aJ rfl rfl ?_
 repeat' (first
 |(refine al ?_;first
 |refine lN ?_
 |refine mI ?_
 |refine mB ?_
 |refine mS ?_
 |refine Hd ?_)
 |refine He ?_
 |refine Ir ?_
 |refine Hf ?_)
 refine G4 n l hll t sz hs l [] rfl (by simp) _ _ (Nat.le_refl _) ?_ ?_ ?_ ?_ _ (fun h ρ' st'=>?_) (fun u h ρ' st' h4 h5=>?_)
 ·rfl
 ·rfl
 ·rfl
 ·rfl
 ·rw[h]
  repeat' (first
 |(refine al ?_;first
 |refine mI ?_
 |refine mB ?_
 |refine Hd ?_)
 |refine He ?_
 |refine Ir ?_
 |refine an ?_)
  exact bM (r':=.tuple [.int _ _,.bool _]) (.inr rfl) rfl rfl rfl
 ·rw[←aa h4,←aa h5,h]
  exact bM (r':=.tuple [.int _ _,.bool _]) (.inr rfl) rfl rfl rfl
end Go.Bes
/-
  When one is to be ready at the latest; is a number one of some?
-/
namespace Go.Bes
open Go.Ev
def mn (a b:Int):Int:=if b<a then b else a
theorem yq {a b c:Int}:c≤mn a b↔c≤a∧c≤b:=by unfold mn;split<;>omega
theorem sE {a b:Int}:mn a b≤a∧mn a b≤b:=by unfold mn;split<;>omega
section
variable {Γ:Nat→Option FD} {ρ:Nat→D} {st:Store} {dr:Bool} {R:(Nat→D)→Store→List Fl→Prop} {l:List Op1} {g:Option (Nat×Bool)} {mv:Bool} {k:Nat} {x y:A}
theorem Gd {κ κ':IntKind} {n m s:Int} (hg:ao ρ g=some true) (hx:x.ev ρ=.int κ n) (hm:mv=false) (hy:y.ev ρ=.int κ' m) (hs:mn n m=s) (h:WS Γ dr l (ap ρ k (.int κ s)) st (nx .n R)):WS Γ dr (⟨some k,g,mv,.min [x,y]⟩::l) ρ st R:=by
 subst hs
 exact qD hg hx hm hy h
end
def ot (x:Eg) (by' sz:Int):Int:=mn (x.en - mx (br x sz) 1) (by' - br x sz - x.ow)
def Aw (x:Eg) (by' sz:Int):Prop:=ji x by' sz∧sz≤x.ro∧x.op≤ot x by' sz
instance (x:Eg) (t sz:Int):Decidable (Aw x t sz):=by unfold Aw;infer_instance
def nc (x:Eg) (by' sz:Int):Option Int:=if Aw x by' sz then some (ot x by' sz)else none
def uK (x:Eg) (by' sz:Int):D:=match nc x by' sz with
 |some t=>.tuple [.int .i64 t,.bool true]
 |none=>.tuple [.int .i64 0,.bool false]
set_option maxHeartbeats 4000000 in
theorem BO (x:Eg) (by' sz:Int):EvP Γ 66 [x.e,.int .i64 by',.int .i64 sz] (uK x by' sz):=by
 refine aJ rfl rfl ?_
 have hT:=yE x sz
 have hk:=ku x sz
 have hr:=pD x by' sz
 by_cases h1:ji x by' sz
 ·have h1':=h1
  obtain⟨ht,hs,hok⟩:=h1'
  have hop:=hok.2.1.1
  have hen:=hok.2.1.2.1
  have how:=hok.2.1.2.2
  have hm1:=mN (a:=br x sz) (b:=1)
  have hmt:mx (br x sz) 1≤1099511627776:=rz.mpr ⟨hk.2,by omega⟩
  have hc1:sz≤x.ro→x.op≤ot x by' sz→uK x by' sz=.tuple [.int .i64 (ot x by' sz),.bool true]:=fun a b=>by unfold uK nc;rw[if_pos ⟨h1,a,b⟩]
  have hc2:¬(sz≤x.ro∧x.op≤ot x by' sz)→uK x by' sz=.tuple [.int .i64 0,.bool false]:=fun a=>by unfold uK nc;rw[if_neg (fun h=>a h.2)]
  have hle:=sE (a:=x.en - mx (br x sz) 1) (b:=by' - br x sz - x.ow)
  have hge: -20000000000000≤mn (x.en - mx (br x sz) 1) (by' - br x sz - x.ow):=yq.mpr ⟨by omega,by omega⟩
  unfold ot at hc1 hc2
  rw[decide_eq_true h1]at hr
  clear hok h1
  generalize br x sz=k at*
  generalize e2:mx k 1=k1 at*
  generalize e3:mn (x.en - k1) (by' - k - x.ow)=m at*
  generalize uK x by' sz=T at*
  repeat' (first
 |(refine al ?_;first
 |refine Bx rfl rfl rfl rfl e2 ?_
 |refine Gd rfl rfl rfl rfl e3 ?_
 |refine ak rfl ?_
 |refine mI ?_
 |refine mB ?_
 |refine ak rfl ?_
 |(refine gU rfl rfl rfl rfl ?_ ?_<;>intro _)
 |(refine jl rfl rfl rfl rfl ?_ ?_<;>intro _)
 |refine aS ?_
 |refine ak rfl ?_
 |refine lO (d:=.int _ _) ?_
 |refine lO (d:=.agg [_,_,_,_,_,_,_,_]) ?_
 |refine cA rfl hr ?_
 |refine cA rfl hT ?_
 |refine pB ?_
 |refine cm rfl rfl rfl rfl rfl ?_
 |refine nT ?_
 |refine fD ?_
 |refine ak rfl ?_
 |refine Hd ?_)
 |refine He ?_
 |refine Ir ?_
 |refine Hg ?_
 |refine aj rfl ?_
 |refine ah rfl ?_
 |refine an ?_)
  all_goals first
   |(rw[hc1 (by omega) (by omega)];exact bM (r':=.tuple [.int _ _,.bool _]) (.inr rfl) rfl rfl rfl)
   |(rw[hc2 (by omega)];exact bM (r':=.tuple [.int _ _,.bool _]) (.inr rfl) rfl rfl rfl)
   |(exfalso;omega)
 ·have hc2:uK x by' sz=.tuple [.int .i64 0,.bool false]:=by unfold uK nc;rw[if_neg (fun h=>h1 h.1)]
  rw[decide_eq_false h1]at hr
  rw[hc2]
  repeat' (first
 |(refine al ?_;first
 |refine ak rfl ?_
 |refine mI ?_
 |refine mB ?_
 |refine ak rfl ?_
 |refine aS ?_
 |refine ak rfl ?_
 |refine lO (d:=.int _ _) ?_
 |refine lO (d:=.agg [_,_,_,_,_,_,_,_]) ?_
 |refine cA rfl hr ?_
 |refine cA rfl hT ?_
 |refine pB ?_
 |refine cm rfl rfl rfl rfl rfl ?_
 |refine nT ?_
 |refine qD rfl rfl rfl rfl ?_
 |refine qY rfl rfl rfl rfl ?_
 |refine fD ?_
 |refine ak rfl ?_
 |refine Hd ?_)
 |refine He ?_
 |refine Ir ?_
 |refine aj rfl ?_
 |refine an ?_)
  all_goals exact bM (r':=.tuple [.int _ _,.bool _]) (.inr rfl) rfl rfl rfl
theorem pZ {l pre post:List Int} {x:Int} (h:l=pre++x::post):l[pre.length]?=some x:=by rw[h];simp
def HI (n:Int):List Int→Int→Int
 |[],_=> -1
 |x::L,k=>if n=x then k else HI n L (k+1)
theorem za (n:Int):∀(L:List Int) (k:Int),0≤k→((0≤HI n L k)↔n∈L)∧ -1≤HI n L k
 |[],k,h=>by simp[HI]
 |x::L,k,h=>by
  obtain⟨h1,h2⟩:=za n L (k+1) (by omega)
  unfold HI
  by_cases e:n=x
  ·rw[if_pos e];simp[e];omega
  ·rw[if_neg e];simp[e,h1,h2]
theorem Gp (n:Int) (L:List Int) (hll:L.length≤1073741824) (t:Tok) (s:Nat) (hs:s=1∨L=[]):∀(post pre:List Int),L=pre++post→∀(ρ:Nat→D) (st:Store),
  ρ 0=.slice t s (L.map (D.int .i64))→ρ 1=.int .i64 n→ρ 7=.int .i64 L.length→ρ 8=.int .i64 pre.length→∀(Q:X→(Nat→D)→Store→Prop),
  (HI n post pre.length= -1→∀ρ',Q (.exit 0) ρ' st)→(∀ρ',ρ' 4=.int .i64 (HI n post pre.length)→Q .ret ρ' st)→WC Γ (.loop dQ) ρ st Q:=by
 intro post
 induction post with
 |nil=>
  intro pre hpp ρ st h0 h1 h7 h8 Q hQ hQ2
  rw[List.append_nil]at hpp
  subst hpp
  rw[←aa h0,←aa h1,←aa h7,←aa h8]
  refine Hh ?_
  repeat' (first
 |(refine al ?_;first
 |refine lF ?_
 |refine Hd ?_)
 |refine He ?_
 |refine Ir ?_
 |refine ah rfl ?_
 |refine Hi ?_)
  exact hQ rfl _
 |cons x post ih=>
  intro pre hpp ρ st h0 h1 h7 h8 Q hQ hQ2
  have hv:=pZ hpp
  have hlen:L.length=pre.length+(post.length+1):=by rw[hpp];simp
  have hz:s=1:=hs.resolve_right (by rintro rfl;simp at hlen)
  subst hz
  have hpl:pre.length<(L.map (D.int .i64)).length:=by simp;omega
  have hltl:(pre.length:Int)<L.length:=by omega
  have hnext:HI n (x::post) pre.length=HI n post ((pre.length:Int)+1)→∀(ρ':Nat→D),ρ' 0=.slice t 1 (L.map (D.int .i64))→ρ' 1=.int .i64 n→ρ' 7=.int .i64 L.length→ρ' 8=.int .i64 ((pre.length:Int)+1)→WC Γ (.loop dQ) ρ' st Q:=fun hx ρ' k0 k1 k7 k8=>
   ih (pre++[x]) (by simp[hpp]) ρ' st k0 k1 k7 (by rw[List.length_append];exact k8) Q (fun h=>hQ (by rw[hx];simpa using h)) (fun ρ'' h=>hQ2 ρ'' (by rw[hx];simpa using h))
  clear ih hQ hpp
  rw[←aa h0,←aa h1,←aa h7,←aa h8]
  refine Hh ?_
  by_cases hx:n=x
  ·rw[show HI n (x::post) pre.length=pre.length by simp[HI,hx]]at hQ2
   repeat' (first
 |(refine al ?_;first
 |refine iA (pre.length) hpl ?_
 |refine cb rfl rfl rfl rfl hx ?_
 |refine mI ?_
 |refine mS ?_
 |refine lT ?_
 |refine lE (d:=.int _ _) hv ?_
 |refine Hd ?_)
 |refine He ?_
 |refine Ir ?_
 |refine Hg ?_
 |refine aj rfl ?_
 |refine Hf ?_
 |refine an ?_)
   exact hQ2 _ rfl
  ·repeat' (first
 |(refine al ?_;first
 |refine iA (pre.length) hpl ?_
 |refine b7 rfl rfl rfl rfl hx ?_
 |refine mI ?_
 |refine mS ?_
 |refine lT ?_
 |refine aD ?_
 |refine lE (d:=.int _ _) hv ?_
 |refine Hd ?_)
 |refine He ?_
 |refine Ir ?_
 |refine Hg ?_
 |refine aj rfl ?_
 |refine ah rfl ?_
 |refine Hf ?_)
   refine hnext (by simp[HI,hx]) _ ?_ ?_ ?_ ?_<;>rfl
theorem Dd (n:Int) (L:List Int) (hll:L.length≤1073741824) (t:Tok) (s:Nat) (hs:s=1∨L=[]):EvP Γ 69 [.slice t s (L.map (D.int .i64)),.int .i64 n] (.int .i64 (HI n L 0)):=by
 refine aJ rfl rfl ?_
 repeat' (first
 |(refine al ?_;first
 |refine lN ?_
 |refine mI ?_
 |refine mS ?_
 |refine Hd ?_)
 |refine He ?_
 |refine Ir ?_
 |refine Hf ?_)
 refine Gp n L hll t s hs L [] rfl _ _ ?_ ?_ ?_ ?_ _ (fun h ρ'=>?_) (fun ρ' h=>?_)
 all_goals first|rfl|skip
 ·rw[show HI n L 0= -1 from h]
  repeat' (first
 |(refine al ?_;first
 |refine mI ?_
 |refine Hd ?_)
 |refine He ?_
 |refine Ir ?_
 |refine an ?_)
  exact fJ (.inr rfl) rfl rfl
 ·rw[←aa h]
  exact fJ (.inr rfl) rfl rfl
theorem nf (n:Int) (L:List Int) (hll:L.length≤1073741824) (t:Tok) (s:Nat) (hs:s=1∨L=[]):EvP Γ 49 [.slice t s (L.map (D.int .i64)),.int .i64 n] (.bool (decide (n∈L))):=by
 refine aJ rfl rfl ?_
 have hI:=fun t=>Dd n L hll t s hs
 have h1:=(za n L 0 (Int.le_refl _)).1
 generalize HI n L 0=j at*
 by_cases hn:n∈L
 ·rw[decide_eq_true hn]
  have hj:0≤j:=h1.2 hn
  repeat' (first
 |(refine al ?_;first
 |refine mI ?_
 |refine mB ?_
 |refine mS ?_
 |refine AE rfl rfl rfl rfl (by omega) ?_
 |refine cA rfl (hI _) ?_
 |refine Hd ?_)
 |refine He ?_
 |refine Ir ?_
 |refine an ?_)
  exact aK (.inr rfl) rfl rfl
 ·rw[decide_eq_false hn]
  have hj:j<0:=by
   rcases Int.lt_or_le j 0 with h|h
   ·exact h
   ·exact absurd (h1.1 h) hn
  repeat' (first
 |(refine al ?_;first
 |refine mI ?_
 |refine mB ?_
 |refine mS ?_
 |refine xB rfl rfl rfl rfl (by omega) ?_
 |refine cA rfl (hI _) ?_
 |refine Hd ?_)
 |refine He ?_
 |refine Ir ?_
 |refine an ?_)
  exact aK (.inr rfl) rfl rfl
end Go.Bes
/-
  The edges of IDs, one behind the other; is it right to ask?
-/
namespace Go.Bes
open Go.Ev
def oo (id:Int) (l:List Eg):Option Eg:=l.foldl (fun o x=>if id=x.id then some x else o) none
theorem w9 (id:Int) (l:List Eg) (x:Eg):oo id (l++[x])=if id=x.id then some x else oo id l:=by simp[oo]
def KVE (kv:List (Int×D)) (l:List Eg):Prop:=∀id,aZ id kv=(oo id l).map Eg.e
theorem KVE.set {kv:List (Int×D)} {l:List Eg} (h:KVE kv l) (x:Eg):KVE (cJ x.id x.e kv) (l++[x]):=fun id=>by
 rw[iS,w9,h id]
 split<;>rfl
set_option maxHeartbeats 4000000 in
theorem Gk (l:List Eg) (hll:l.length≤1073741824) (t:Tok) (sz:Nat) (hs:sz=8∨l=[]) (p:Nat) (v1 v2 v6:D):∀(post pre:List Eg),l=pre++post→∀(kv:List (Int×D)),KVE kv pre→∀(ρ:Nat→D) (st:Store),st.lim≤p→p<st.next→st.boxes p=some (.map kv)→
  ρ 1=v1→ρ 2=v2→ρ 6=v6→ρ 8=.map p→ρ 16=.slice t sz (l.map Eg.e)→ρ 17=.int .i64 l.length→ρ 18=.int .i64 pre.length→∀(Q:X→(Nat→D)→Store→Prop),
  (∀ρ' st' kv',KVE kv' l→st'.lim≤p→p<st'.next→st'.boxes p=some (.map kv')→st'.tlim=st.tlim→st'.toks=st.toks→st'.ntok=st.ntok→ρ' 1=v1→ρ' 2=v2→ρ' 6=v6→ρ' 8=.map p→Q (.exit 0) ρ' st')→WC Γ (.loop ic) ρ st Q:=by
 intro post
 induction post with
 |nil=>
  intro pre hpp kv hk ρ st hlim hnx hb h1 h2 h6 h8 h16 h17 h18 Q hQ
  rw[List.append_nil]at hpp
  subst hpp
  rw[←aa h1,←aa h2,←aa h6,←aa h8,←aa h16,←aa h17,←aa h18]
  refine Hh ?_
  repeat' (first
 |(refine al ?_;first
 |refine lF ?_
 |refine Hd ?_)
 |refine He ?_
 |refine Ir ?_
 |refine ah rfl ?_
 |refine Hi ?_)
  exact hQ _ _ kv hk hlim hnx hb rfl rfl rfl rfl rfl rfl rfl
 |cons x post ih=>
  intro pre hpp kv hk ρ st hlim hnx hb h1 h2 h6 h8 h16 h17 h18 Q hQ
  have hv:=lU hpp
  have hlen:l.length=pre.length+(post.length+1):=by rw[hpp];simp
  have hz:sz=8:=hs.resolve_right (by rintro rfl;simp at hlen)
  subst hz
  have hpl:pre.length<(l.map Eg.e).length:=by simp;omega
  have hltl:(pre.length:Int)<l.length:=by omega
  have hpn:p≠st.next:=Nat.ne_of_lt hnx
  have hlim2:st.lim≤st.next:=by omega
  have hnext:∀(ρ':Nat→D) (st':Store),st'.lim≤p→p<st'.next→st'.boxes p=some (.map (cJ x.id x.e kv))→st'.tlim=st.tlim→st'.toks=st.toks→st'.ntok=st.ntok→ρ' 1=v1→ρ' 2=v2→ρ' 6=v6→ρ' 8=.map p→ρ' 16=.slice t 8 (l.map Eg.e)→ρ' 17=.int .i64 l.length→ρ' 18=.int .i64 ((pre.length:Int)+1)→WC Γ (.loop ic) ρ' st' Q:=fun ρ' st' e1 e2 e3 e4 e5 e6 k1 k2 k6 k8 k16 k17 k18=>
   ih (pre++[x]) (by simp[hpp]) _ (hk.set x) ρ' st' e1 e2 e3 k1 k2 k6 k8 k16 k17 (by rw[List.length_append];exact k18) Q (fun ρ'' st'' kv' f0 f1 f2 f3 f4 f5 f6=>hQ ρ'' st'' kv' f0 f1 f2 f3 (f4.trans e4) (f5.trans e5) (f6.trans e6))
  clear ih hQ hpp
  rw[←aa h1,←aa h2,←aa h6,←aa h8,←aa h16,←aa h17,←aa h18]
  refine Hh ?_
  repeat' (first
 |(refine al ?_;first
 |refine iA (pre.length) hpl ?_
 |refine am (cs':=[_,_,_,_,_,_,_,_]) rfl rfl (ae _ _ _) rfl hlim2 rfl rfl rfl ?_
 |refine eM (v:=x.e) rfl rfl rfl ((ab _ _ hpn).trans ((ab _ _ hpn).trans hb)) hlim rfl rfl ?_
 |refine mI ?_
 |refine mM ?_
 |refine lT ?_
 |refine aD ?_
 |refine lE (d:=.agg [_,_,_,_,_,_,_,_]) hv ?_
 |refine lP (d:=.int _ _) ?_
 |refine lP (d:=.agg [_,_,_,_,_,_,_,_]) ?_
 |refine fD ?_
 |refine av rfl rfl ?_
 |refine Hd ?_)
 |refine He ?_
 |refine Ir ?_
 |refine Hg ?_
 |refine aj rfl ?_
 |refine Hf ?_)
  refine hnext _ _ ?_ ?_ ?_ ?_ ?_ ?_ ?_ ?_ ?_ ?_ ?_ ?_ ?_
  ·exact hlim
  ·exact Nat.lt_succ_of_lt hnx
  ·exact ae _ _ _
  all_goals rfl
def bG (l:List Eg):List Int→Int→Option (List Eg)
 |[],_=>some []
 |id::r,fr=>match oo id l with
  |some e=>if e.fr=fr then(bG l r e.to).map (e:: ·)else none
  |none=>none
theorem DH (l:List Eg) (ids:List Int) (hil:ids.length≤1073741824) (t:Tok) (sz:Nat) (hs:sz=1∨ids=[]) (p:Nat) (kv:List (Int×D)) (hk:KVE kv l):∀(post pre:List Int),ids=pre++post→∀(ρ:Nat→D) (st:Store) (cur:Int) (out:List Eg) (tk:Tok) (so:Nat),out.length≤pre.length→st.lim≤p→p<st.next→st.boxes p=some (.map kv)→st.tlim≤st.ntok→ft st 8 tk so (out.map Eg.e)→
  ρ 2=.int .i64 cur→ρ 6=.slice tk so (out.map Eg.e)→ρ 8=.map p→ρ 27=.slice t sz (ids.map (D.int .i64))→ρ 28=.int .i64 ids.length→ρ 29=.int .i64 pre.length→∀(Q:X→(Nat→D)→Store→Prop),
  (∀m,bG l post cur=some m→∀ρ' st' tk' so',ft st' 8 tk' so' ((out++m).map Eg.e)→ρ' 6=.slice tk' so' ((out++m).map Eg.e)→Q (.exit 2) ρ' st')→(bG l post cur=none→∀ρ' st',ρ' 6=.slice .isnil 0 []→ρ' 7=.bool false→Q .ret ρ' st')→WC Γ (.loop ie) ρ st Q:=by
 intro post
 induction post with
 |nil=>
  intro pre hpp ρ st cur out tk so hol hlim hnx hb htl hO h2 h6 h8 h27 h28 h29 Q hQ hQ2
  rw[List.append_nil]at hpp
  subst hpp
  rw[←aa h2,←aa h6,←aa h8,←aa h27,←aa h28,←aa h29]
  refine Hh ?_
  repeat' (first
 |(refine al ?_;first
 |refine lF ?_
 |refine Hd ?_)
 |refine He ?_
 |refine Ir ?_
 |refine ah rfl ?_
 |refine Hi ?_)
  exact hQ [] rfl _ _ tk so (by simpa using hO) (by rw[List.append_nil];rfl)
 |cons id post ih=>
  intro pre hpp ρ st cur out tk so hol hlim hnx hb htl hO h2 h6 h8 h27 h28 h29 Q hQ hQ2
  have hv:ids[pre.length]?=some id:=by rw[hpp];simp
  have hlen:ids.length=pre.length+(post.length+1):=by rw[hpp];simp
  have hz:sz=1:=hs.resolve_right (by rintro rfl;simp at hlen)
  subst hz
  have hpl:pre.length<(ids.map (D.int .i64)).length:=by simp;omega
  have hltl:(pre.length:Int)<ids.length:=by omega
  have hpn:p≠st.next:=Nat.ne_of_lt hnx
  have hlim2:st.lim≤st.next:=by omega
  have hkv:=hk id
  rw[←aa h2,←aa h6,←aa h8,←aa h27,←aa h28,←aa h29]
  refine Hh ?_
  cases hle:oo id l with
  |none=>
   rw[hle]at hkv
   have hg1:(aZ id kv).getD (.agg [.int .i64 0,.int .i64 0,.int .i64 0,.int .i64 0,.int .i64 0,.int .i64 0,.int .i64 0,.int .i64 0])=.agg [.int .i64 0,.int .i64 0,.int .i64 0,.int .i64 0,.int .i64 0,.int .i64 0,.int .i64 0,.int .i64 0]:=by rw[hkv];rfl
   have hg2:(aZ id kv).isSome=false:=by rw[hkv];rfl
   have hn:bG l (id::post) cur=none:=by simp only[bG,hle]
   clear ih hQ
   repeat' (first
 |(refine al ?_;first
 |refine iA (pre.length) hpl ?_
 |refine am (cs':=[_,_,_,_,_,_,_,_]) rfl rfl (ae _ _ _) rfl hlim2 rfl rfl rfl ?_
 |refine bo rfl rfl rfl hb hg1 hg2 rfl ?_
 |refine ak rfl ?_
 |refine mI ?_
 |refine mB ?_
 |refine mS ?_
 |refine mT ?_
 |refine mM ?_
 |refine ak rfl ?_
 |refine lT ?_
 |refine ak rfl ?_
 |refine lE (d:=.int _ _) hv ?_
 |refine pB ?_
 |refine eB ?_
 |refine eA ?_
 |refine nT ?_
 |refine av rfl rfl ?_
 |refine ak rfl ?_
 |refine Hd ?_)
 |refine He ?_
 |refine Ir ?_
 |refine Hg ?_
 |refine aj rfl ?_
 |refine Hf ?_
 |refine an ?_)
   all_goals exact hQ2 hn _ _ rfl rfl
  |some e=>
   rw[hle]at hkv
   have hg1:(aZ id kv).getD (.agg [.int .i64 0,.int .i64 0,.int .i64 0,.int .i64 0,.int .i64 0,.int .i64 0,.int .i64 0,.int .i64 0])=e.e:=by rw[hkv];rfl
   have hg2:(aZ id kv).isSome=true:=by rw[hkv];rfl
   have hstep:bG l (id::post) cur=if e.fr=cur then(bG l post e.to).map (e:: ·)else none:=by simp only[bG,hle]
   by_cases hfr:e.fr=cur
   ·rw[if_pos hfr]at hstep
    have hbd:((out.map Eg.e).length+[e.e].length)*64≤140737488355328:=by simp;omega
    have hnext:∀(ρ':Nat→D) (st':Store) (tk':Tok) (so':Nat),st'.lim≤p→p<st'.next→st'.boxes p=some (.map kv)→st'.tlim≤st'.ntok→ft st' 8 tk' so' ((out++[e]).map Eg.e)→ρ' 2=.int .i64 e.to→ρ' 6=.slice tk' so' ((out++[e]).map Eg.e)→ρ' 8=.map p→ρ' 27=.slice t 1 (ids.map (D.int .i64))→ρ' 28=.int .i64 ids.length→ρ' 29=.int .i64 ((pre.length:Int)+1)→WC Γ (.loop ie) ρ' st' Q:=fun ρ' st' tk' so' e1 e2 e3 e4 e5 k2 k6 k8 k27 k28 k29=>
     ih (pre++[id]) (by simp[hpp]) ρ' st' e.to (out++[e]) tk' so' (by simp;omega) e1 e2 e3 e4 e5 k2 k6 k8 k27 k28 (by rw[List.length_append];exact k29) Q
      (fun m hm ρ'' st'' tk'' so'' f1 f2=>hQ (e::m) (by rw[hstep,hm];rfl) ρ'' st'' tk'' so'' (by simpa using f1) (by rw[f2];simp)) (fun hm ρ'' st'' f1 f2=>hQ2 (by rw[hstep,hm];rfl) ρ'' st'' f1 f2)
    clear ih hQ hQ2 hstep hkv
    repeat' (first
 |(refine al ?_;first
 |refine iA (pre.length) hpl ?_
 |refine am (cs':=[_,_,_,_,_,_,_,_]) rfl rfl (ae _ _ _) rfl hlim2 rfl rfl rfl ?_
 |(refine oZ rfl rfl rfl hO (.inl rfl) hbd htl rfl ?_<;>intro k' st' c1 c2 c3 c4 c5 c6 c7)
 |refine bo rfl rfl rfl hb hg1 hg2 rfl ?_
 |refine mI ?_
 |refine mB ?_
 |refine mS ?_
 |refine mT ?_
 |refine mM ?_
 |refine lT ?_
 |refine ca rfl rfl rfl rfl (by omega) ?_
 |refine aD ?_
 |refine lE (d:=.int _ _) hv ?_
 |refine ai (agg:=false) (d:=.int _ _) rfl rfl rfl ((congrArg (fun f=>Option.bind (f st.next) Box.cs) c1).trans (aY rfl)) (Nat.le_trans (Nat.le_of_eq c3) hlim2) rfl ?_
 |refine lP (d:=.int _ _) ?_
 |refine lP (d:=.agg [_,_,_,_,_,_,_,_]) ?_
 |refine pB ?_
 |refine eB ?_
 |refine eA ?_
 |refine nT ?_
 |refine fD ?_
 |refine av rfl rfl ?_
 |refine bg (ys:=[_]) rfl rfl rfl (by decide) rfl ?_
 |refine Hd ?_)
 |refine au rfl ?_
 |refine He ?_
 |refine Ir ?_
 |refine ay ?_
 |refine Hg ?_
 |refine aj rfl ?_
 |refine ah rfl ?_
 |refine Hf ?_)
    all_goals first
     |(exfalso;omega)
     |skip
    refine hnext _ _ (.own k') 8 ?_ ?_ ?_ c5 (.inr ⟨k',rfl,c6,c7,rfl⟩) ?_ ?_ ?_ ?_ ?_ ?_
    ·rw[c3];exact hlim
    ·rw[c2];exact Nat.lt_succ_of_lt hnx
    ·rw[c1];exact(ab _ _ hpn).trans ((ab _ _ hpn).trans hb)
    all_goals first|rfl|(rw[List.map_append];rfl)
   ·rw[if_neg hfr]at hstep
    clear ih hQ hkv
    repeat' (first
 |(refine al ?_;first
 |refine iA (pre.length) hpl ?_
 |refine am (cs':=[_,_,_,_,_,_,_,_]) rfl rfl (ae _ _ _) rfl hlim2 rfl rfl rfl ?_
 |refine bo rfl rfl rfl hb hg1 hg2 rfl ?_
 |refine mI ?_
 |refine mB ?_
 |refine mS ?_
 |refine mT ?_
 |refine mM ?_
 |refine lT ?_
 |refine cu rfl rfl rfl rfl (by omega) ?_
 |refine lE (d:=.int _ _) hv ?_
 |refine lP (d:=.int _ _) ?_
 |refine pB ?_
 |refine eB ?_
 |refine eA ?_
 |refine nT ?_
 |refine fD ?_
 |refine av rfl rfl ?_
 |refine Hd ?_)
 |refine He ?_
 |refine Ir ?_
 |refine Hg ?_
 |refine aj rfl ?_
 |refine Hf ?_
 |refine an ?_)
    all_goals first
     |exact hQ2 hstep _ _ rfl rfl
     |(exfalso;omega)
end Go.Bes
/-
  A walk by contacts; is it right to ask?
-/
namespace Go.Bes
open Go.Ev
theorem oj (l:List Eg) (hll:l.length≤1073741824) (ids:List Int) (hil:ids.length≤1073741824) (fr:Int) (m:List Eg) (hm:bG l ids fr=some m) (t:Tok) (s:Nat) (hs:s=8∨l=[]) (t':Tok) (s':Nat) (hs':s'=1∨ids=[]):
  EvX Γ 34 [.slice t s (l.map Eg.e),.slice t' s' (ids.map (D.int .i64)),.int .i64 fr] (IsT Eg.e 8 m [.bool true]):=by
 refine bR rfl rfl ?_
 repeat' (first
 |(refine al ?_;first
 |refine lN ?_
 |refine mI ?_
 |refine mB ?_
 |refine mS ?_
 |refine mM ?_
 |refine gI rfl rfl ?_
 |refine Hd ?_)
 |refine He ?_
 |refine Ir ?_
 |refine Hf ?_)
 refine Gk l hll t s hs 0 (.slice t' s' (ids.map (D.int .i64))) (.int .i64 fr) (.slice .isnil 0 []) l [] rfl [] (fun id=>rfl) _ _ ?_ ?_ ?_ ?_ ?_ ?_ ?_ ?_ ?_ ?_ _ (fun ρ' st' kv hk e1 e2 e3 e4 e5 e6 h1 h2 h6 h8=>?_)
 ·exact Nat.le_refl _
 ·exact Nat.succ_pos _
 all_goals first|rfl|skip
 have htl:st'.tlim≤st'.ntok:=by rw[e4,e6];exact Nat.le_refl _
 rw[←aa h1,←aa h2,←aa h6,←aa h8]
 repeat' (first
 |(refine al ?_;first
 |refine lN ?_
 |refine mI ?_
 |refine mS ?_
 |refine Hd ?_)
 |refine He ?_
 |refine Ir ?_
 |refine Hf ?_)
 refine DH l ids hil t' s' hs' 0 kv hk ids [] rfl _ _ fr [] .isnil 0 (Nat.le_refl _) e1 e2 e3 htl (.inl ⟨.inl rfl,.inr ⟨rfl,rfl⟩⟩) ?_ ?_ ?_ ?_ ?_ ?_ _ (fun m' hm' ρ' st'' tk so hO h6=>?_) (fun hm'=>by rw[hm]at hm';cases hm')
 all_goals first|rfl|skip
 rw[hm]at hm'
 cases hm'
 rw[List.nil_append]at hO h6
 rw[←aa h6]
 repeat' (first
 |(refine al ?_;first
 |refine mB ?_
 |refine mS ?_
 |refine Hd ?_)
 |refine He ?_
 |refine Ir ?_
 |refine an ?_)
 have hso:so=8∨m=[]:=by
  rcases hO with⟨_,h|⟨_,h⟩⟩|⟨_,_,_,_,h⟩
  ·exact .inl h
  ·exact .inr (by simpa using h)
  ·exact .inl h
 exact xf (us:=[.bool true]) (.inr rfl) rfl rfl hso rfl rfl
theorem vA (l:List Eg) (hll:l.length≤1073741824) (ids:List Int) (hil:ids.length≤1073741824) (fr:Int) (hm:bG l ids fr=none) (t:Tok) (s:Nat) (hs:s=8∨l=[]) (t':Tok) (s':Nat) (hs':s'=1∨ids=[]):
  EvP Γ 34 [.slice t s (l.map Eg.e),.slice t' s' (ids.map (D.int .i64)),.int .i64 fr] (.tuple [.slice .isnil 0 [],.bool false]):=by
 refine aJ rfl rfl ?_
 repeat' (first
 |(refine al ?_;first
 |refine lN ?_
 |refine mI ?_
 |refine mB ?_
 |refine mS ?_
 |refine mM ?_
 |refine gI rfl rfl ?_
 |refine Hd ?_)
 |refine He ?_
 |refine Ir ?_
 |refine Hf ?_)
 refine Gk l hll t s hs 0 (.slice t' s' (ids.map (D.int .i64))) (.int .i64 fr) (.slice .isnil 0 []) l [] rfl [] (fun id=>rfl) _ _ ?_ ?_ ?_ ?_ ?_ ?_ ?_ ?_ ?_ ?_ _ (fun ρ' st' kv hk e1 e2 e3 e4 e5 e6 h1 h2 h6 h8=>?_)
 ·exact Nat.le_refl _
 ·exact Nat.succ_pos _
 all_goals first|rfl|skip
 have htl:st'.tlim≤st'.ntok:=by rw[e4,e6];exact Nat.le_refl _
 rw[←aa h1,←aa h2,←aa h6,←aa h8]
 repeat' (first
 |(refine al ?_;first
 |refine lN ?_
 |refine mI ?_
 |refine mS ?_
 |refine Hd ?_)
 |refine He ?_
 |refine Ir ?_
 |refine Hf ?_)
 refine DH l ids hil t' s' hs' 0 kv hk ids [] rfl _ _ fr [] .isnil 0 (Nat.le_refl _) e1 e2 e3 htl (.inl ⟨.inl rfl,.inr ⟨rfl,rfl⟩⟩) ?_ ?_ ?_ ?_ ?_ ?_ _ (fun m' hm'=>by rw[hm]at hm';cases hm') (fun _ ρ' st'' h6 h7=>?_)
 all_goals first|rfl|skip
 rw[←aa h6,←aa h7]
 exact⟨.inr rfl,rfl⟩
structure Hp where
 id:Int
 se:Int
 ar:Int
deriving DecidableEq
def Hp.e (r:Hp):D:=.agg [.int .i64 r.id,.int .i64 r.se,.int .i64 r.ar]
def ud (e:Eg) (t sz:Int):Hp:=⟨e.id,mx t e.op,aX e t sz⟩
def jo (sz:Int):List Eg→Int→Option (List Hp)
 |[],_=>some []
 |e::r,t=>if eT e t sz then(jo sz r (aX e t sz)).map (ud e t sz:: ·)else none
set_option maxHeartbeats 4000000 in
theorem xF (sz:Int) (m:List Eg) (hml:m.length≤1073741824) (t:Tok) (s:Nat) (hs:s=8∨m=[]):∀(post pre:List Eg),m=pre++post→∀(ρ:Nat→D) (st:Store) (now:Int) (out:List Hp) (tk:Tok) (so:Nat),out.length≤pre.length→st.lim≤st.next→st.tlim≤st.ntok→ft st 3 tk so (out.map Hp.e)→
  ρ 3=.int .i64 now→ρ 4=.int .i64 sz→ρ 14=.slice tk so (out.map Hp.e)→ρ 38=.slice t s (m.map Eg.e)→ρ 39=.int .i64 m.length→ρ 40=.int .i64 pre.length→∀(Q:X→(Nat→D)→Store→Prop),
  (∀h,jo sz post now=some h→∀ρ' st' tk' so',ft st' 3 tk' so' ((out++h).map Hp.e)→ρ' 14=.slice tk' so' ((out++h).map Hp.e)→Q (.exit 0) ρ' st')→(jo sz post now=none→∀ρ' st',ρ' 10=.slice .isnil 0 []→ρ' 11=.bool false→Q .ret ρ' st')→WC Γ (.loop jb) ρ st Q:=by
 intro post
 induction post with
 |nil=>
  intro pre hpp ρ st now out tk so hol hlim htl hO h3 h4 h14 h38 h39 h40 Q hQ hQ2
  rw[List.append_nil]at hpp
  subst hpp
  rw[←aa h3,←aa h4,←aa h14,←aa h38,←aa h39,←aa h40]
  refine Hh ?_
  repeat' (first
 |(refine al ?_;first
 |refine lF ?_
 |refine Hd ?_)
 |refine He ?_
 |refine Ir ?_
 |refine ah rfl ?_
 |refine Hi ?_)
  exact hQ [] rfl _ _ tk so (by simpa using hO) (by rw[List.append_nil];rfl)
 |cons e post ih=>
  intro pre hpp ρ st now out tk so hol hlim htl hO h3 h4 h14 h38 h39 h40 Q hQ hQ2
  have hv:=lU hpp
  have hlen:m.length=pre.length+(post.length+1):=by rw[hpp];simp
  have hz:s=8:=hs.resolve_right (by rintro rfl;simp at hlen)
  subst hz
  have hpl:pre.length<(m.map Eg.e).length:=by simp;omega
  have hltl:(pre.length:Int)<m.length:=by omega
  have hP:=xJ e now sz
  unfold vL at hP
  rw[←aa h3,←aa h4,←aa h14,←aa h38,←aa h39,←aa h40]
  refine Hh ?_
  by_cases hc:eT e now sz
  ·rw[if_pos hc]at hP
   have hstep:jo sz (e::post) now=(jo sz post (aX e now sz)).map (ud e now sz:: ·):=by simp only[jo,if_pos hc]
   have hbd:((out.map Hp.e).length+[D.agg [.int .i64 e.id,.int .i64 (mx now e.op),.int .i64 (aX e now sz)]].length)*24≤140737488355328:=by simp;omega
   have hnext:∀(ρ':Nat→D) (st':Store) (tk':Tok) (so':Nat),st'.lim≤st'.next→st'.tlim≤st'.ntok→ft st' 3 tk' so' ((out++[ud e now sz]).map Hp.e)→ρ' 3=.int .i64 (aX e now sz)→ρ' 4=.int .i64 sz→ρ' 14=.slice tk' so' ((out++[ud e now sz]).map Hp.e)→ρ' 38=.slice t 8 (m.map Eg.e)→ρ' 39=.int .i64 m.length→ρ' 40=.int .i64 ((pre.length:Int)+1)→WC Γ (.loop jb) ρ' st' Q:=fun ρ' st' tk' so' e1 e2 e3 k3 k4 k14 k38 k39 k40=>
    ih (pre++[e]) (by simp[hpp]) ρ' st' _ _ tk' so' (by simp;omega) e1 e2 e3 k3 k4 k14 k38 k39 (by rw[List.length_append];exact k40) Q
     (fun h hh ρ'' st'' tk'' so'' f1 f2=>hQ _ (by rw[hstep,hh];rfl) ρ'' st'' tk'' so'' (by simpa using f1) (by rw[f2];simp)) (fun hh ρ'' st'' f1 f2=>hQ2 (by rw[hstep,hh];rfl) ρ'' st'' f1 f2)
   clear ih hQ hQ2 hstep
   repeat' (first
 |(refine al ?_;first
 |refine iA (pre.length) hpl ?_
 |refine am (cs':=[_,_,_,_,_,_,_,_]) rfl rfl (ae _ _ _) rfl hlim rfl rfl rfl ?_
 |(refine oZ rfl rfl rfl hO (.inl rfl) hbd htl rfl ?_<;>intro k' st' c1 c2 c3 c4 c5 c6 c7)
 |refine mI ?_
 |refine mB ?_
 |refine mS ?_
 |refine mT ?_
 |refine lT ?_
 |refine aD ?_
 |refine lE (d:=.agg [_,_,_,_,_,_,_,_]) hv ?_
 |refine lP (d:=.int _ _) ?_
 |refine lP (d:=.agg [_,_,_,_,_,_,_,_]) ?_
 |refine cA rfl hP ?_
 |refine eI ?_
 |refine eB ?_
 |refine bJ (cs:=[_,_,_]) rfl rfl rfl ?_
 |refine nT ?_
 |refine fD ?_
 |refine av rfl rfl ?_
 |refine bg (ys:=[_]) rfl rfl rfl (by decide) rfl ?_
 |refine Hd ?_)
 |refine He ?_
 |refine Ir ?_
 |refine Hg ?_
 |refine aj rfl ?_
 |refine ah rfl ?_
 |refine Hf ?_)
   refine hnext _ _ (.own k') 3 ?_ c5 (.inr ⟨k',rfl,c6,c7,rfl⟩) ?_ ?_ ?_ ?_ ?_ ?_
   ·rw[c3,c2];exact Nat.le_succ_of_le hlim
   all_goals first|rfl|(rw[List.map_append];rfl)
  ·rw[if_neg hc]at hP
   have hstep:jo sz (e::post) now=none:=by simp only[jo,if_neg hc]
   clear ih hQ
   repeat' (first
 |(refine al ?_;first
 |refine iA (pre.length) hpl ?_
 |refine am (cs':=[_,_,_,_,_,_,_,_]) rfl rfl (ae _ _ _) rfl hlim rfl rfl rfl ?_
 |refine mI ?_
 |refine mB ?_
 |refine mS ?_
 |refine mT ?_
 |refine lT ?_
 |refine lE (d:=.agg [_,_,_,_,_,_,_,_]) hv ?_
 |refine lP (d:=.agg [_,_,_,_,_,_,_,_]) ?_
 |refine cA rfl hP ?_
 |refine eI ?_
 |refine eB ?_
 |refine nT ?_
 |refine av rfl rfl ?_
 |refine Hd ?_)
 |refine He ?_
 |refine Ir ?_
 |refine Hg ?_
 |refine aj rfl ?_
 |refine Hf ?_
 |refine an ?_)
   exact hQ2 hstep _ _ rfl rfl
def eF (l:List Eg) (ids:List Int) (fr now sz:Int):Option (List Hp):=if bV l fr now sz then(bG l ids fr).bind fun m=>jo sz m now else none
theorem ka (l:List Eg):∀(ids:List Int) (fr:Int) (m:List Eg),bG l ids fr=some m→m.length=ids.length
 |[],fr,m,h=>by cases h;rfl
 |id::ids,fr,m,h=>by
  simp only[bG]at h
  split at h
  ·split at h
   ·obtain⟨m',h1,rfl⟩:=Option.map_eq_some_iff.mp h
    simp[ka l ids _ m' h1]
   ·cases h
  ·cases h
set_option maxHeartbeats 4000000 in
theorem uq (l:List Eg) (hll:l.length≤1073741824) (ids:List Int) (hil:ids.length≤1073741824) (fr now sz:Int) (h:List Hp) (hw:eF l ids fr now sz=some h) (t:Tok) (s:Nat) (hs:s=8∨l=[]) (t':Tok) (s':Nat) (hs':s'=1∨ids=[]):
  EvX Γ 20 [.slice t s (l.map Eg.e),.slice t' s' (ids.map (D.int .i64)),.int .i64 fr,.int .i64 now,.int .i64 sz] (IsT Hp.e 3 h [.bool true]):=by
 refine bR rfl rfl ?_
 unfold eF at hw
 split at hw
 ·rename_i ha
  obtain⟨m,hm,hh⟩:=Option.bind_eq_some_iff.mp hw
  have hml:=ka l ids fr m hm
  have hS:=fun t t'=>oj l hll ids hil fr m hm t s hs t' s' hs'
  have hA:=fun t=>l9 l hll fr now sz t s hs
  rw[decide_eq_true ha]at hA
  repeat' (first
 |(refine al ?_;first
 |refine lN ?_
 |refine mI ?_
 |refine mB ?_
 |refine mS ?_
 |refine mT ?_
 |refine cA rfl (hA _) ?_
 |(refine iu rfl rfl rfl (hS _ _) rfl ?_;intro tm sm hsm tk2 nt2)
 |refine pB ?_
 |refine eB ?_
 |refine eS ?_
 |refine nT ?_
 |refine Hd ?_)
 |refine He ?_
 |refine Ir ?_
 |refine Hg ?_
 |refine ah rfl ?_
 |refine Hf ?_)
  refine xF sz m (by omega) tm sm hsm m [] rfl _ _ now [] .isnil 0 (Nat.le_refl _) (Nat.le_refl _) (Nat.zero_le _) (.inl ⟨.inl rfl,.inr ⟨rfl,rfl⟩⟩) ?_ ?_ ?_ ?_ ?_ ?_ _ (fun h' hh' ρ' st' tk so hO h14=>?_) (fun hh'=>by rw[hh]at hh';cases hh')
  all_goals first|rfl|skip
  rw[hh]at hh'
  cases hh'
  rw[List.nil_append]at hO h14
  rw[←aa h14]
  repeat' (first
 |(refine al ?_;first
 |refine mB ?_
 |refine mS ?_
 |refine Hd ?_)
 |refine He ?_
 |refine Ir ?_
 |refine an ?_)
  have hso:so=3∨h=[]:=by
   rcases hO with⟨_,h|⟨_,h⟩⟩|⟨_,_,_,_,h⟩
   ·exact .inl h
   ·exact .inr (by simpa using h)
   ·exact .inl h
  exact xf (us:=[.bool true]) (.inr rfl) rfl rfl hso rfl rfl
 ·cases hw
set_option maxHeartbeats 4000000 in
theorem uM (l:List Eg) (hll:l.length≤1073741824) (ids:List Int) (hil:ids.length≤1073741824) (fr now sz:Int) (hw:eF l ids fr now sz=none) (t:Tok) (s:Nat) (hs:s=8∨l=[]) (t':Tok) (s':Nat) (hs':s'=1∨ids=[]):
  EvP Γ 20 [.slice t s (l.map Eg.e),.slice t' s' (ids.map (D.int .i64)),.int .i64 fr,.int .i64 now,.int .i64 sz] (.tuple [.slice .isnil 0 [],.bool false]):=by
 refine aJ rfl rfl ?_
 unfold eF at hw
 have hA:=fun t=>l9 l hll fr now sz t s hs
 cases hm:bG l ids fr with
 |none=>
  have hS:=fun t t'=>vA l hll ids hil fr hm t s hs t' s' hs'
  repeat' (first
 |(refine al ?_;first
 |refine ak rfl ?_
 |refine mI ?_
 |refine mB ?_
 |refine mS ?_
 |refine mT ?_
 |refine ak rfl ?_
 |refine cA rfl (hS _ _) ?_
 |refine pB ?_
 |refine eB ?_
 |refine eS ?_
 |refine nT ?_
 |refine ak rfl ?_
 |refine Hd ?_)
 |refine He ?_
 |refine Ir ?_
 |refine aj rfl ?_
 |refine an ?_)
  exact⟨.inr rfl,rfl⟩
 |some m=>
  have hml:=ka l ids fr m hm
  have hS:=fun t t'=>oj l hll ids hil fr m hm t s hs t' s' hs'
  by_cases ha:bV l fr now sz
  ·rw[if_pos ha,hm,Option.bind_some]at hw
   rw[decide_eq_true ha]at hA
   repeat' (first
 |(refine al ?_;first
 |refine lN ?_
 |refine mI ?_
 |refine mB ?_
 |refine mS ?_
 |refine mT ?_
 |refine cA rfl (hA _) ?_
 |(refine iu rfl rfl rfl (hS _ _) rfl ?_;intro tm sm hsm tk2 nt2)
 |refine pB ?_
 |refine eB ?_
 |refine eS ?_
 |refine nT ?_
 |refine Hd ?_)
 |refine He ?_
 |refine Ir ?_
 |refine Hg ?_
 |refine ah rfl ?_
 |refine Hf ?_)
   refine xF sz m (by omega) tm sm hsm m [] rfl _ _ now [] .isnil 0 (Nat.le_refl _) (Nat.le_refl _) (Nat.zero_le _) (.inl ⟨.inl rfl,.inr ⟨rfl,rfl⟩⟩) ?_ ?_ ?_ ?_ ?_ ?_ _ (fun h' hh'=>by rw[hw]at hh';cases hh') (fun _ ρ' st' h10 h11=>?_)
   all_goals first|rfl|skip
   rw[←aa h10,←aa h11]
   exact⟨.inr rfl,rfl⟩
  ·rw[decide_eq_false ha]at hA
   repeat' (first
 |(refine al ?_;first
 |refine mI ?_
 |refine mB ?_
 |refine mS ?_
 |refine mT ?_
 |refine cA rfl (hA _) ?_
 |(refine iu rfl rfl rfl (hS _ _) rfl ?_;intro tm sm hsm tk2 nt2)
 |refine pB ?_
 |refine eB ?_
 |refine eS ?_
 |refine nT ?_
 |refine Hd ?_)
 |refine He ?_
 |refine Ir ?_
 |refine aj rfl ?_
 |refine an ?_)
   exact⟨.inr rfl,rfl⟩
theorem CE (l:List Eg) (hll:l.length≤1073741824) (fr now sz:Int) (t:Tok) (s:Nat) (hs:s=8∨l=[]):EvP Γ 38 [.slice t s (l.map Eg.e),.int .i64 fr,.int .i64 now,.int .i64 sz] (.bool (decide (bV l fr now sz))):=by
 refine aJ rfl rfl ?_
 by_cases ha:bV l fr now sz
 ·have hw:eF l [] fr now sz=some []:=by unfold eF;rw[if_pos ha];rfl
  have hW:=fun t=>uq l hll [] (by simp) fr now sz [] hw t s hs .isnil 0 (.inr rfl)
  rw[decide_eq_true ha]
  repeat' (first
 |(refine al ?_;first
 |refine mI ?_
 |refine mB ?_
 |refine mS ?_
 |refine mT ?_
 |(refine iu rfl rfl rfl (hW _) rfl ?_;intro tm sm hsm tk2 nt2)
 |refine eB ?_
 |refine eS ?_
 |refine Hd ?_)
 |refine He ?_
 |refine Ir ?_
 |refine an ?_)
  exact aK (.inr rfl) rfl rfl
 ·have hw:eF l [] fr now sz=none:=by unfold eF;rw[if_neg ha]
  have hW:=fun t=>uM l hll [] (by simp) fr now sz hw t s hs .isnil 0 (.inr rfl)
  rw[decide_eq_false ha]
  repeat' (first
 |(refine al ?_;first
 |refine mI ?_
 |refine mB ?_
 |refine mS ?_
 |refine mT ?_
 |refine cA rfl (hW _) ?_
 |refine eB ?_
 |refine eS ?_
 |refine Hd ?_)
 |refine He ?_
 |refine Ir ?_
 |refine an ?_)
  exact aK (.inr rfl) rfl rfl
end Go.Bes
/-
  Who is where at the earliest, as plain lists: the earliest one goes on first.
-/
namespace Go.Bes
def lC (out:List Rd) (n:Int):Bool:=out.any fun r=>decide (r.node=n)
theorem yy {out:List Rd} {n:Int}:lC out n=true↔∃r∈out,r.node=n:=by simp[lC]
theorem EV {out:List Rd} {n:Int}:lC out n=false↔∀r∈out,r.node≠n:=by simp[lC]
section
variable (ps:Eg→Int→Option Int) (cl:Int→Bool)
def gQ (out:List Rd) (t:Int) (s:List Rd) (e:Eg):List Rd:=match ps e t with
 |some u=>if lC out e.to||cl e.to then s else zR ⟨e.to,u⟩ s
 |none=>s
def dR (out:List Rd) (t:Int) (es:List Eg) (s:List Rd):List Rd:=es.foldl (gQ ps cl out t) s
def uT (l:List Eg):Nat→List Rd→List Rd→List Rd
 |0,out,_=>out
 |_+1,out,[]=>out
 |n+1,out,r::s=>if lC out r.node then uT l n out s else uT l n (out++[r]) (dR ps cl (out++[r]) r.at' (ci r.node l) s)
inductive Reach (l:List Eg) (fr now:Int):Int→Int→Prop where
 |here:Reach l fr now fr now
 |go {n t u:Int} {e:Eg} (h:Reach l fr now n t) (he:e∈l) (hf:e.fr=n) (hp:ps e t=some u) (hc:cl e.to=false):Reach l fr now e.to u
def nE (l:List Eg) (out s:List Rd):Nat:=s.length+(l.filter fun e=> !lC out e.fr).length
variable {ps cl}
theorem Dg {r x:Rd} {s:List Rd}:x∈zR r s↔x=r∨x∈s:=by
 rw[(jX r s).mem_iff,List.mem_cons]
theorem Ao {out:List Rd} {t:Int} {s:List Rd} {e:Eg} {x:Rd}:x∈gQ ps cl out t s e↔x∈s∨(x.node=e.to∧ps e t=some x.at'∧lC out e.to=false∧cl e.to=false):=by
 unfold gQ
 cases hp:ps e t with
 |none=>simp
 |some u=>
  simp only[Option.some.injEq]
  by_cases hv:(lC out e.to||cl e.to)=true
  ·rw[if_pos hv]
   constructor
   ·exact .inl
   ·rintro (h|⟨_,_,h1,h2⟩)
    ·exact h
    ·rw[h1,h2]at hv
     cases hv
  ·rw[if_neg hv,Dg]
   have hv':lC out e.to=false∧cl e.to=false:=by
    cases h1:lC out e.to<;>cases h2:cl e.to<;>simp[h1,h2]at hv ⊢
   obtain⟨n,a⟩:=x
   simp only[Rd.mk.injEq]
   constructor
   ·rintro (⟨rfl,rfl⟩|h)
    ·exact .inr ⟨rfl,rfl,hv'⟩
    ·exact .inl h
   ·rintro (h|⟨h1,h2,_⟩)
    ·exact .inr h
    ·exact .inl ⟨h1,h2.symm⟩
theorem iZ {out:List Rd} {t:Int}:∀{es:List Eg} {s:List Rd} {x:Rd},x∈dR ps cl out t es s↔x∈s∨∃e∈es,x.node=e.to∧ps e t=some x.at'∧lC out e.to=false∧cl e.to=false
 |[],s,x=>by simp[dR]
 |e::es,s,x=>by
  rw[dR,List.foldl_cons]
  have ih:=iZ (out:=out) (t:=t) (es:=es) (s:=gQ ps cl out t s e) (x:=x)
  rw[dR]at ih
  rw[ih,Ao]
  simp only[List.mem_cons,exists_eq_or_imp,or_assoc]
theorem tq {out:List Rd} {t:Int} {s:List Rd} {e:Eg}:(gQ ps cl out t s e).length≤s.length+1:=by
 unfold gQ
 split
 ·split
  ·omega
  ·rw[(jX _ s).length_eq];simp
 ·omega
theorem rm {out:List Rd} {t:Int}:∀{es:List Eg} {s:List Rd},(dR ps cl out t es s).length≤s.length+es.length
 |[],s=>by simp[dR]
 |e::es,s=>by
  have ih:=rm (out:=out) (t:=t) (es:=es) (s:=gQ ps cl out t s e)
  have:=tq (ps:=ps) (cl:=cl) (out:=out) (t:=t) (s:=s) (e:=e)
  rw[dR]at ih ⊢
  rw[List.foldl_cons,List.length_cons]
  omega
theorem zf {out:List Rd} {t:Int} {s:List Rd} {e:Eg} (h:Cl s):Cl (gQ ps cl out t s e):=by
 unfold gQ
 split
 ·split
  ·exact h
  ·exact uu _ s h
 ·exact h
theorem pQ {out:List Rd} {t:Int}:∀{es:List Eg} {s:List Rd},Cl s→Cl (dR ps cl out t es s)
 |[],s,h=>h
 |e::es,s,h=>pQ (es:=es) (zf h)
theorem nV (out:List Rd) (r:Rd) (n:Int):lC (out++[r]) n=(lC out n||decide (r.node=n)):=by
 simp[lC,List.any_append]
theorem x9 (l:List Eg) (out:List Rd) (r:Rd) (hv:lC out r.node=false):(l.filter fun e=> !lC out e.fr).length=(l.filter fun e=> !lC (out++[r]) e.fr).length+(ci r.node l).length:=by
 unfold ci
 induction l with
 |nil=>rfl
 |cons e l ih=>
  simp only[List.filter_cons,nV]
  by_cases he:e.fr=r.node
  ·rw[he,hv]
   simp only[Bool.false_or,decide_true,Bool.not_false,Bool.not_true,if_true,List.length_cons,Bool.false_eq_true,if_false]
   rw[show (List.filter (fun e=> !lC (out++[r]) e.fr) l)=(List.filter (fun e=> !(lC out e.fr||decide (r.node=e.fr))) l)by simp only[nV]]at ih
   rw[ih]
   omega
  ·have he':¬r.node=e.fr:=fun h=>he h.symm
   simp only[he,he',decide_false,Bool.or_false,Bool.false_eq_true,if_false]
   rw[show (List.filter (fun e=> !lC (out++[r]) e.fr) l)=(List.filter (fun e=> !(lC out e.fr||decide (r.node=e.fr))) l)by simp only[nV]]at ih
   cases hvv:lC out e.fr
   ·simp only[Bool.not_false,if_true,List.length_cons]
    omega
   ·simp only[Bool.not_true,Bool.false_eq_true,if_false]
    exact ih
theorem sM {l:List Eg} {out s:List Rd} {r:Rd}:nE l out s+1=nE l out (r::s):=by
 unfold nE
 rw[List.length_cons]
 omega
theorem yT {l:List Eg} {out s:List Rd} {r:Rd} (hv:lC out r.node=false):nE l (out++[r]) (dR ps cl (out++[r]) r.at' (ci r.node l) s)+1≤nE l out (r::s):=by
 have h1:=rm (ps:=ps) (cl:=cl) (out:=out++[r]) (t:=r.at') (es:=ci r.node l) (s:=s)
 have h2:=x9 l out r hv
 unfold nE
 rw[List.length_cons,h2]
 omega
structure DI (ps:Eg→Int→Option Int) (cl:Int→Bool) (l:List Eg) (fr now:Int) (out s:List Rd):Prop where
 p1:∀x,x∈out∨x∈s→Reach ps cl l fr now x.node x.at'
 p2:(out.map Rd.node).Nodup
 p3:∀x∈out,∀y∈s,x.at'≤y.at'
 p4:∀x∈out,∀e∈l,e.fr=x.node→∀u,ps e x.at'=some u→cl e.to=false→∃y,(y∈out∨y∈s)∧y.node=e.to∧y.at'≤u
 p5:Cl s
 p6:∃y,(y∈out∨y∈s)∧y.node=fr∧y.at'≤now
structure IsT (ps:Eg→Int→Option Int) (cl:Int→Bool) (l:List Eg) (fr now:Int) (out:List Rd):Prop where
 t1:∀x∈out,Reach ps cl l fr now x.node x.at'
 t2:(out.map Rd.node).Nodup
 t3:∀n t,Reach ps cl l fr now n t→∃y∈out,y.node=n∧y.at'≤t
theorem Bv {r:Rd} {s:List Rd} (h:Cl (r::s)):∀y∈s,r.at'≤y.at':=fun y hy=>by
 have:=h.1 y hy
 unfold Rd.lt at this
 omega
theorem DI.start {l:List Eg} {fr now:Int}:DI ps cl l fr now [] [⟨fr,now⟩]:=
 ⟨(fun x h=>by
   rcases h with h|h
   ·cases h
   ·rw[List.mem_singleton]at h
    subst h
    exact .here),by simp,(fun x h=>by cases h),(fun x h=>by cases h),⟨(fun y h=>by cases h),trivial⟩,⟨⟨fr,now⟩,.inr (by simp),rfl,Int.le_refl _⟩⟩
theorem DI.skip {l:List Eg} {fr now:Int} {out s:List Rd} {r:Rd} (h:DI ps cl l fr now out (r::s)) (hv:lC out r.node=true):DI ps cl l fr now out s:=by
 obtain⟨z,hz,hzn⟩:=yy.mp hv
 have hzr:z.at'≤r.at':=h.p3 z hz r List.mem_cons_self
 refine⟨fun x hx=>h.p1 x (hx.imp id (List.mem_cons_of_mem _)),h.p2,fun x hx y hy=>h.p3 x hx y (List.mem_cons_of_mem _ hy),fun x hx e he hf u hp hc=>?_,h.p5.2,?_⟩
 ·obtain⟨y,hy,h1,h2⟩:=h.p4 x hx e he hf u hp hc
  rcases hy with hy|hy
  ·exact⟨y,.inl hy,h1,h2⟩
  ·rcases List.mem_cons.mp hy with rfl|hy
   ·exact⟨z,.inl hz,hzn.trans h1,by omega⟩
   ·exact⟨y,.inr hy,h1,h2⟩
 ·obtain⟨y,hy,h1,h2⟩:=h.p6
  rcases hy with hy|hy
  ·exact⟨y,.inl hy,h1,h2⟩
  ·rcases List.mem_cons.mp hy with rfl|hy
   ·exact⟨z,.inl hz,hzn.trans h1,by omega⟩
   ·exact⟨y,.inr hy,h1,h2⟩
theorem DI.go {l:List Eg} {fr now:Int} {out s:List Rd} {r:Rd} (hge:∀e t u,ps e t=some u→t≤u) (h:DI ps cl l fr now out (r::s)) (hv:lC out r.node=false):DI ps cl l fr now (out++[r]) (dR ps cl (out++[r]) r.at' (ci r.node l) s):=by
 have hr:=h.p1 r (.inr List.mem_cons_self)
 have hold:∀y,y∈s→y∈dR ps cl (out++[r]) r.at' (ci r.node l) s:=fun y hy=>iZ.mpr (.inl hy)
 have hlift:∀y,(y∈out∨y∈r::s)→(y∈out++[r]∨y∈dR ps cl (out++[r]) r.at' (ci r.node l) s):=fun y hy=>by
  rcases hy with hy|hy
  ·exact .inl (List.mem_append_left _ hy)
  ·rcases List.mem_cons.mp hy with rfl|hy
   ·exact .inl (List.mem_append_right _ (by simp))
   ·exact .inr (hold y hy)
 refine⟨fun x hx=>?_,?_,fun x hx y hy=>?_,fun x hx e he hf u hp hc=>?_,pQ h.p5.2,?_⟩
 ·rcases hx with hx|hx
  ·rcases List.mem_append.mp hx with hx|hx
   ·exact h.p1 x (.inl hx)
   ·rw[List.mem_singleton]at hx
    subst hx
    exact hr
  ·rcases iZ.mp hx with hx|⟨e,he,h1,h2,_,h4⟩
   ·exact h.p1 x (.inr (List.mem_cons_of_mem _ hx))
   ·obtain⟨he1,he2⟩:=List.mem_filter.mp he
    rw[h1]
    exact .go hr he1 (of_decide_eq_true he2) h2 h4
 ·rw[List.map_append,List.nodup_append]
  refine⟨h.p2,by simp,fun a ha b hb=>?_⟩
  obtain⟨x,hx,rfl⟩:=List.mem_map.mp ha
  simp only[List.map_cons,List.map_nil,List.mem_singleton]at hb
  subst hb
  exact EV.mp hv x hx
 ·have hxr:x.at'≤r.at':=by
   rcases List.mem_append.mp hx with hx|hx
   ·exact h.p3 x hx r List.mem_cons_self
   ·rw[List.mem_singleton]at hx
    subst hx
    exact Int.le_refl _
  rcases iZ.mp hy with hy|⟨e,he,h1,h2,_⟩
  ·have:=Bv h.p5 y hy
   omega
  ·have:=hge e _ _ h2
   omega
 ·rcases List.mem_append.mp hx with hx|hx
  ·obtain⟨y,hy,h1,h2⟩:=h.p4 x hx e he hf u hp hc
   exact⟨y,hlift y hy,h1,h2⟩
  ·rw[List.mem_singleton]at hx
   subst hx
   by_cases hvt:lC (out++[x]) e.to=true
   ·obtain⟨z,hz,hzn⟩:=yy.mp hvt
    refine⟨z,.inl hz,hzn,?_⟩
    have hu:=hge e _ _ hp
    have hzx:z.at'≤x.at':=by
     rcases List.mem_append.mp hz with hz|hz
     ·exact h.p3 z hz x List.mem_cons_self
     ·rw[List.mem_singleton]at hz
      subst hz
      exact Int.le_refl _
    omega
   ·exact⟨⟨e.to,u⟩,.inr (iZ.mpr (.inr ⟨e,List.mem_filter.mpr ⟨he,decide_eq_true hf⟩,rfl,hp,by simpa using hvt,hc⟩)),rfl,Int.le_refl _⟩
 ·obtain⟨y,hy,h1,h2⟩:=h.p6
  exact⟨y,hlift y hy,h1,h2⟩
theorem DI.done {l:List Eg} {fr now:Int} {out:List Rd} (hmo:∀e t t' u,ps e t=some u→t'≤t→(∃a b,Reach ps cl l fr now a b∧b=t')→∃u',u'≤u∧ps e t'=some u') (h:DI ps cl l fr now out []):IsT ps cl l fr now out:=by
 refine⟨fun x hx=>h.p1 x (.inl hx),h.p2,fun n t hr=>?_⟩
 induction hr with
 |here=>
  obtain⟨y,hy,h1,h2⟩:=h.p6
  rcases hy with hy|hy
  ·exact⟨y,hy,h1,h2⟩
  ·cases hy
 | @go n t u e hr he hf hp hc ih=>
   obtain⟨y,hy,h1,h2⟩:=ih
   obtain⟨u',hu',hp'⟩:=hmo e t y.at' u hp h2 ⟨_,_,h.p1 y (.inl hy),rfl⟩
   obtain⟨z,hz,h3,h4⟩:=h.p4 y hy e he (hf.trans h1.symm) u' hp' hc
   rcases hz with hz|hz
   ·exact⟨z,hz,h3,by omega⟩
   ·cases hz
theorem uo {l:List Eg} {fr now:Int} (hge:∀e t u,ps e t=some u→t≤u) (hmo:∀e t t' u,ps e t=some u→t'≤t→(∃a b,Reach ps cl l fr now a b∧b=t')→∃u',u'≤u∧ps e t'=some u'):∀(n:Nat) (out s:List Rd),nE l out s≤n→DI ps cl l fr now out s→IsT ps cl l fr now (uT ps cl l n out s)
 |0,out,s,hm,h=>by
  have hs:s=[]:=List.length_eq_zero_iff.mp (by unfold nE at hm;omega)
  subst hs
  exact h.done hmo
 |n+1,out,[],hm,h=>h.done hmo
 |n+1,out,r::s,hm,h=>by
  rw[uT]
  cases hv:lC out r.node with
  |true=>
   rw[if_pos rfl]
   exact uo hge hmo n out s (by have:=sM (l:=l) (out:=out) (s:=s) (r:=r);omega) (h.skip hv)
  |false=>
   rw[if_neg (by simp)]
   exact uo hge hmo n _ _ (by have:=yT (ps:=ps) (cl:=cl) (l:=l) (s:=s) hv;omega) (h.go hge hv)
end
end Go.Bes
/-
  What goes into the queue from a node.
-/
namespace Go.Bes
open Go.Ev
def kA (sz:Int) (e:Eg) (t:Int):Option Int:=if eT e t sz then some (aX e t sz)else none
def KVA (kv:List (Int×D)) (out:List Rd):Prop:=∀n,∃u,(aZ n kv).getD (.int .i64 0)=.int .i64 u∧(aZ n kv).isSome=lC out n
def KVC (kv:List (Int×D)) (cl:Int→Bool):Prop:=∀n,(aZ n kv).getD (.bool false)=.bool (cl n)
set_option maxHeartbeats 8000000 in
theorem G2 (sz:Int) (cl:Int→Bool) (out:List Rd) (kvc kva:List (Int×D)) (hkc:KVC kvc cl) (hka:KVA kva out) (t:Int) (es:List Eg) (hel:es.length≤1000000) (te:Tok) (se:Nat) (hse:se=8∨es=[]) (h b:Nat) (st0:Store) (Kp:Nat→Prop) (hK0:Kp 0) (hK1:Kp 1) (hKb:Kp b) (hKn:∀q,Kp q→q<st0.next∧q≠h)
  (hb0:st0.boxes 0=some (.map kvc)) (hb1:st0.boxes 1=some (.map kva)) (n0:Int) (hbb:(st0.boxes b).bind Box.cs=some [.int .i64 n0,.int .i64 t]) (v0 v4 v10:D):∀(post pre:List Eg),es=pre++post→
  ∀(ρ:Nat→D) (st:Store) (s:List Rd) (o:Option Nat),s.length≤1000000+pre.length→st.lim≤0→st0.next≤st.next→AH st h o s→(∀q,Kp q→some q≠o)→(∀q,Kp q→st.boxes q=st0.boxes q)→
  ρ 0=v0→ρ 3=.int .i64 sz→ρ 4=v4→ρ 10=v10→ρ 11=.map 0→ρ 14=.map 1→ρ 15=.ptr h 0→ρ 16=.ptr b 0→ρ 77=.slice te se (es.map Eg.e)→ρ 78=.int .i64 es.length→ρ 79=.int .i64 pre.length→∀(Q:X→(Nat→D)→Store→Prop),
  (∀ρ' st' o',st'.lim≤0→st0.next≤st'.next→AH st' h o' (dR (kA sz) cl out t post s)→(∀q,Kp q→some q≠o')→(∀q,Kp q→st'.boxes q=st0.boxes q)→(o'=o∨∃r,o'=some r∧st.next≤r)→ρ' 0=v0→ρ' 3=.int .i64 sz→ρ' 4=v4→ρ' 10=v10→ρ' 11=.map 0→ρ' 14=.map 1→ρ' 15=.ptr h 0→Q (.exit 4) ρ' st')→WC Γ (.loop gx) ρ st Q:=by
 intro post
 induction post with
 |nil=>
  intro pre hpp ρ st s o hsl hlim hnx H hKo hKs h0 h3 h4 h10 h11 h14 h15 h16 h77 h78 h79 Q hQ
  rw[List.append_nil]at hpp
  subst hpp
  rw[←aa h0,←aa h3,←aa h4,←aa h10,←aa h11,←aa h14,←aa h15,←aa h77,←aa h78,←aa h79]
  refine Hh ?_
  repeat' (first
 |(refine al ?_;first
 |refine lF ?_
 |refine Hd ?_)
 |refine He ?_
 |refine Ir ?_
 |refine ah rfl ?_
 |refine Hi ?_)
  exact hQ _ _ o hlim hnx H hKo hKs (.inl rfl) rfl rfl rfl rfl rfl rfl rfl
 |cons e post ih=>
  intro pre hpp ρ st s o hsl hlim hnx H hKo hKs h0 h3 h4 h10 h11 h14 h15 h16 h77 h78 h79 Q hQ
  have hv:=lU hpp
  have hlen:es.length=pre.length+(post.length+1):=by rw[hpp];simp
  have hz:se=8:=hse.resolve_right (by rintro rfl;simp at hlen)
  subst hz
  have hpl:pre.length<(es.map Eg.e).length:=by simp;omega
  have hltl:(pre.length:Int)<es.length:=by omega
  have hlim2:st.lim≤st.next:=by omega
  have hlb:st.lim≤b:=by omega
  have hKn2:∀q,Kp q→q<st.next:=fun q hq=>Nat.lt_of_lt_of_le (hKn q hq).1 hnx
  have q0:(0:Nat)≠st.next:=Nat.ne_of_lt (hKn2 0 hK0)
  have q1:(1:Nat)≠st.next:=Nat.ne_of_lt (hKn2 1 hK1)
  have qb:b≠st.next:=Nat.ne_of_lt (hKn2 b hKb)
  have hc0:=(hKs 0 hK0).trans hb0
  have hc1:=(hKs 1 hK1).trans hb1
  have hcb:(st.boxes b).bind Box.cs=some [.int .i64 n0,.int .i64 t]:=by rw[hKs b hKb];exact hbb
  obtain⟨u,hu1,hu2⟩:=hka e.to
  have hu3:=hkc e.to
  have hP:=xJ e t sz
  unfold vL at hP
  have hA:∀{x y:Option Box},AH {st with boxes:=ap (ap st.boxes st.next x) st.next y,next:=st.next+1} h o s:=fun{x y}=>H.of rfl (Nat.le_succ _) (fun q hq _=>(ab _ _ (Nat.ne_of_lt hq)).trans (ab _ _ (Nat.ne_of_lt hq)))
  have hps:=fun{u v:Option Box}=>ye (hA (x:=u) (y:=v)) (by omega) ⟨e.to,aX e t sz⟩
  have hnext:∀(ρ':Nat→D) (st':Store) (o':Option Nat),st'.lim≤0→st0.next≤st'.next→st.next≤st'.next→AH st' h o' (gQ (kA sz) cl out t s e)→(∀q,Kp q→some q≠o')→(∀q,Kp q→st'.boxes q=st0.boxes q)→(o'=o∨∃r,o'=some r∧st.next≤r)→ρ' 0=v0→ρ' 3=.int .i64 sz→ρ' 4=v4→ρ' 10=v10→ρ' 11=.map 0→ρ' 14=.map 1→ρ' 15=.ptr h 0→ρ' 16=.ptr b 0→ρ' 77=.slice te 8 (es.map Eg.e)→ρ' 78=.int .i64 es.length→ρ' 79=.int .i64 ((pre.length:Int)+1)→WC Γ (.loop gx) ρ' st' Q:=fun ρ' st' o' e1 e2 e2' e3 e4 e5 e6 k0 k3 k4 k10 k11 k14 k15 k16 k77 k78 k79=>
   ih (pre++[e]) (by simp[hpp]) ρ' st' (gQ (kA sz) cl out t s e) o' (by have:=tq (ps:=kA sz) (cl:=cl) (out:=out) (t:=t) (s:=s) (e:=e);simp;omega) e1 e2 e3 e4 e5 k0 k3 k4 k10 k11 k14 k15 k16 k77 k78 (by rw[List.length_append];exact k79) Q
    (fun ρ'' st'' o'' f1 f2 f3 f4 f5 f6=>hQ ρ'' st'' o'' f1 f2 (by rw[dR,List.foldl_cons];exact f3) f4 f5 (by
     rcases f6 with rfl|⟨r,hr,hr2⟩
     ·exact e6
     ·exact .inr ⟨r,hr,Nat.le_trans e2' hr2⟩))
  have hkeep:∀{x y:Option Box},∀q,Kp q→(ap (ap st.boxes st.next x) st.next y) q=st0.boxes q:=fun{x y} q hq=>((ab _ _ (Nat.ne_of_lt (hKn2 q hq))).trans (ab _ _ (Nat.ne_of_lt (hKn2 q hq)))).trans (hKs q hq)
  clear ih hQ hpp
  rw[←aa h0,←aa h3,←aa h4,←aa h10,←aa h11,←aa h14,←aa h15,←aa h16,←aa h77,←aa h78,←aa h79]
  refine Hh ?_
  by_cases hc:eT e t sz
  ·rw[if_pos hc]at hP
   have hps1:kA sz e t=some (aX e t sz):=by unfold kA;rw[if_pos hc]
   generalize aX e t sz=w at*
   generalize mx t e.op=w2 at*
   by_cases hvc:lC out e.to=false∧cl e.to=false
   ·obtain⟨hv1,hv2⟩:=hvc
    have hpush:gQ (kA sz) cl out t s e=zR ⟨e.to,w⟩ s:=by simp[gQ,hps1,hv1,hv2]
    rw[hv1]at hu2
    rw[hv2]at hu3
    rw[hpush]at hnext
    repeat' (first
 |(refine al ?_;first
 |refine iA (pre.length) hpl ?_
 |refine am (cs':=[_,_,_,_,_,_,_,_]) rfl rfl (ae _ _ _) rfl hlim2 rfl rfl rfl ?_
 |refine bo rfl rfl rfl ((ab _ _ q1).trans ((ab _ _ q1).trans hc1)) hu1 hu2 rfl ?_
 |refine kc rfl rfl rfl ((ab _ _ q0).trans ((ab _ _ q0).trans hc0)) hu3 rfl ?_
 |refine mI ?_
 |refine mB ?_
 |refine mP ?_
 |refine mT ?_
 |refine mM ?_
 |refine lT ?_
 |refine aD ?_
 |refine lE (d:=.agg [_,_,_,_,_,_,_,_]) hv ?_
 |refine ai (agg:=false) (d:=.int _ _) rfl rfl rfl ((congrArg (fun x=>Option.bind x Box.cs) ((ab _ _ qb).trans (ab _ _ qb))).trans hcb) hlb rfl ?_
 |refine lP (d:=.int _ _) ?_
 |refine lP (d:=.agg [_,_,_,_,_,_,_,_]) ?_
 |refine cA rfl hP ?_
 |(refine a7 rfl rfl rfl hps ?_<;>intro r1 st1 hp1)
 |refine pB ?_
 |refine eI ?_
 |refine eB ?_
 |refine bJ (cs:=[_,_]) rfl rfl rfl ?_
 |refine nT ?_
 |refine fD ?_
 |refine av rfl rfl ?_
 |refine Hd ?_)
 |refine He ?_
 |refine Ir ?_
 |refine Hg ?_
 |refine aj rfl ?_
 |refine Hf ?_)
    obtain⟨rfl,o',H1,F1⟩:=hp1
    have hn1:st.next+1≤st1.next:=F1.next
    skip
    refine hnext _ st1 o' ?_ ?_ ?_ H1 (fun q hq=>?_) (fun q hq=>?_) ?_ rfl rfl rfl rfl rfl rfl rfl rfl rfl rfl rfl
    ·rw[F1.lim];exact hlim
    ·omega
    ·omega
    ·rcases F1.own with e'|⟨r',e',hr'⟩
     ·rw[e'];exact hKo q hq
     ·rw[e']
      intro e2
      cases e2
      have:=hKn2 q hq
      have hr':st.next+1≤q:=hr'
      omega
    ·rw[F1.box q (Nat.lt_succ_of_lt (hKn2 q hq)) (hKn q hq).2 (hKo q hq)]
     exact hkeep q hq
    ·rcases F1.own with e'|⟨r',e',hr'⟩
     ·exact .inl e'
     ·exact .inr ⟨r',e',Nat.le_of_succ_le hr'⟩
   ·have hpush:gQ (kA sz) cl out t s e=s:=by
     simp only[gQ,hps1]
     rw[if_pos]
     cases h1:lC out e.to<;>cases h2:cl e.to<;>simp[h1,h2]at hvc ⊢
    rw[hpush]at hnext
    clear hpush hps
    cases hv1:lC out e.to with
    |true=>
     rw[hv1]at hu2
     repeat' (first
 |(refine al ?_;first
 |refine iA (pre.length) hpl ?_
 |refine am (cs':=[_,_,_,_,_,_,_,_]) rfl rfl (ae _ _ _) rfl hlim2 rfl rfl rfl ?_
 |refine bo rfl rfl rfl ((ab _ _ q1).trans ((ab _ _ q1).trans hc1)) hu1 hu2 rfl ?_
 |refine ak rfl ?_
 |refine mI ?_
 |refine mB ?_
 |refine mT ?_
 |refine mM ?_
 |refine lT ?_
 |refine aD ?_
 |refine ak rfl ?_
 |refine lE (d:=.agg [_,_,_,_,_,_,_,_]) hv ?_
 |refine ai (agg:=false) (d:=.int _ _) rfl rfl rfl ((congrArg (fun x=>Option.bind x Box.cs) ((ab _ _ qb).trans (ab _ _ qb))).trans hcb) hlb rfl ?_
 |refine lP (d:=.int _ _) ?_
 |refine lP (d:=.agg [_,_,_,_,_,_,_,_]) ?_
 |refine cA rfl hP ?_
 |refine pB ?_
 |refine eI ?_
 |refine eB ?_
 |refine nT ?_
 |refine fD ?_
 |refine av rfl rfl ?_
 |refine ak rfl ?_
 |refine Hd ?_)
 |refine He ?_
 |refine Ir ?_
 |refine Hg ?_
 |refine aj rfl ?_
 |refine ah rfl ?_
 |refine Hf ?_)
     exact hnext _ _ o hlim (Nat.le_succ_of_le hnx) (Nat.le_succ _) hA hKo hkeep (.inl rfl) rfl rfl rfl rfl rfl rfl rfl rfl rfl rfl rfl
    |false=>
     have hv2:cl e.to=true:=by cases h:cl e.to<;>simp[hv1,h]at hvc ⊢
     rw[hv1]at hu2
     rw[hv2]at hu3
     repeat' (first
 |(refine al ?_;first
 |refine iA (pre.length) hpl ?_
 |refine am (cs':=[_,_,_,_,_,_,_,_]) rfl rfl (ae _ _ _) rfl hlim2 rfl rfl rfl ?_
 |refine bo rfl rfl rfl ((ab _ _ q1).trans ((ab _ _ q1).trans hc1)) hu1 hu2 rfl ?_
 |refine kc rfl rfl rfl ((ab _ _ q0).trans ((ab _ _ q0).trans hc0)) hu3 rfl ?_
 |refine mI ?_
 |refine mB ?_
 |refine mT ?_
 |refine mM ?_
 |refine lT ?_
 |refine aD ?_
 |refine lE (d:=.agg [_,_,_,_,_,_,_,_]) hv ?_
 |refine ai (agg:=false) (d:=.int _ _) rfl rfl rfl ((congrArg (fun x=>Option.bind x Box.cs) ((ab _ _ qb).trans (ab _ _ qb))).trans hcb) hlb rfl ?_
 |refine lP (d:=.int _ _) ?_
 |refine lP (d:=.agg [_,_,_,_,_,_,_,_]) ?_
 |refine cA rfl hP ?_
 |refine pB ?_
 |refine eI ?_
 |refine eB ?_
 |refine nT ?_
 |refine fD ?_
 |refine av rfl rfl ?_
 |refine Hd ?_)
 |refine He ?_
 |refine Ir ?_
 |refine Hg ?_
 |refine aj rfl ?_
 |refine ah rfl ?_
 |refine Hf ?_)
     exact hnext _ _ o hlim (Nat.le_succ_of_le hnx) (Nat.le_succ _) hA hKo hkeep (.inl rfl) rfl rfl rfl rfl rfl rfl rfl rfl rfl rfl rfl
  ·rw[if_neg hc]at hP
   have hpush:gQ (kA sz) cl out t s e=s:=by simp[gQ,kA,hc]
   rw[hpush]at hnext
   clear hpush hps
   generalize lC out e.to=vv at hu2
   repeat' (first
 |(refine al ?_;first
 |refine iA (pre.length) hpl ?_
 |refine am (cs':=[_,_,_,_,_,_,_,_]) rfl rfl (ae _ _ _) rfl hlim2 rfl rfl rfl ?_
 |refine bo rfl rfl rfl ((ab _ _ q1).trans ((ab _ _ q1).trans hc1)) hu1 hu2 rfl ?_
 |refine ak rfl ?_
 |refine mI ?_
 |refine mB ?_
 |refine mT ?_
 |refine mM ?_
 |refine lT ?_
 |refine aD ?_
 |refine ak rfl ?_
 |refine lE (d:=.agg [_,_,_,_,_,_,_,_]) hv ?_
 |refine ai (agg:=false) (d:=.int _ _) rfl rfl rfl ((congrArg (fun x=>Option.bind x Box.cs) ((ab _ _ qb).trans (ab _ _ qb))).trans hcb) hlb rfl ?_
 |refine lP (d:=.int _ _) ?_
 |refine lP (d:=.agg [_,_,_,_,_,_,_,_]) ?_
 |refine cA rfl hP ?_
 |refine pB ?_
 |refine eI ?_
 |refine eB ?_
 |refine fD ?_
 |refine av rfl rfl ?_
 |refine ak rfl ?_
 |refine Hd ?_)
 |refine He ?_
 |refine Ir ?_
 |refine Hg ?_
 |refine aj rfl ?_
 |refine ah rfl ?_
 |refine Hf ?_)
   exact hnext _ _ o hlim (Nat.le_succ_of_le hnx) (Nat.le_succ _) hA hKo hkeep (.inl rfl) rfl rfl rfl rfl rfl rfl rfl rfl rfl rfl rfl
end Go.Bes
/-
  The times: the earliest node goes on first.
-/
namespace Go.Bes
open Go.Ev
theorem FF (a:Rd):eb 2 a.e:=⟨rfl,rfl⟩
def OutR (st:Store) (h:Nat) (o:Option Nat) (d:D) (out:List Rd):Prop:=(out=[]∧d=.slice .isnil 0 [])∨∃q n c,2≤q∧q≠h∧some q≠o∧n=out.length∧out≠[]∧d=.rs q 0 2 n c∧RowIs st q 2 (out.map Rd.e)
theorem OutR.ne {st:Store} {h:Nat} {o:Option Nat} {d:D} {out:List Rd} (H:OutR st h o d out) {x:Nat} (hx:x<2∨x=h∨some x=o∨st.next≤x):∀n c,d≠.rs x 0 2 n c:=by
 rintro n c rfl
 rcases H with⟨_,h⟩|⟨q,n',c',h1,h2,h3,_,_,h4,hR⟩
 ·cases h
 ·cases h4
  have:=hR.2.1
  rcases hx with hx|hx|hx|hx
  ·omega
  ·exact h2 hx
  ·exact h3 hx
  ·omega
theorem OutR.of {st st':Store} {h:Nat} {o o':Option Nat} {d:D} {out:List Rd} (H:OutR st h o d out) (hl:st'.lim≤0) (hn:st.next≤st'.next) (hb:∀q n c,d=.rs q 0 2 n c→st'.boxes q=st.boxes q∧some q≠o'):OutR st' h o' d out:=by
 rcases H with h|⟨q,n,c,h1,h2,h3,h4,h5,rfl,hR⟩
 ·exact .inl h
 ·obtain⟨e1,e2⟩:=hb q n c rfl
  exact .inr ⟨q,n,c,h1,h2,e2,h4,h5,rfl,hR.of (by omega) (Nat.lt_of_lt_of_le hR.2.1 hn) e1⟩
section
variable {Γ:Nat→Option FD} {ρ:Nat→D} {st:Store} {dr:Bool} {R:(Nat→D)→Store→List Fl→Prop} {l:List Op1} {g:Option (Nat×Bool)} {mv:Bool} {k:Nat} {x y:A}
theorem AV {bytes h:Nat} {o:Option Nat} {d:D} {out:List Rd} {r:Rd} {t:Tok} (hg:ao ρ g=some true) (hx:x.ev ρ=d) (hy:y.ev ρ=.slice t 2 [r.e]) (hm:mv=true) (hO:OutR st h o d out) (hb:(out.length+1)*bytes≤140737488355328) (hl:st.lim≤st.next) (h2:2≤st.next) (hh:h<st.next) (ho:∀r,o=some r→r<st.next)
  (H:∀st' d',st'.lim=st.lim→st.next≤st'.next→OutR st' h o d' (out++[r])→(∀x,x<st.next→(∀n c,d≠.rs x 0 2 n c)→st'.boxes x=st.boxes x)→WS Γ dr l (ap ρ k d') st' (nx .f R)):WS Γ dr (⟨some k,g,mv,.append 2 bytes x y⟩::l) ρ st R:=by
 have hys:∀d∈[r.e],eb 2 d:=fun d hd=>by rw[List.mem_singleton.mp hd];exact FF r
 rcases hO with⟨rfl,rfl⟩|⟨q,n,c,h1,h2',h3,rfl,h5,rfl,hR⟩
 ·refine ko hg hx (.inr rfl) (.inr rfl) hy hm (.inl rfl) (by simp) (by simp) hys (by simpa using hb) hl (fun st' e1 _ _ _ hR' hoth hn=>?_)
  refine H st' _ e1 (by omega) (.inr ⟨st.next,_,_,h2,by omega,fun e=>by have:=ho st.next e.symm;omega,rfl,by simp,rfl,by simpa using hR'⟩) (fun x hx _=>hoth x hx)
 ·refine rp hg hx hy hR (by simp) (.inl rfl) (fun d hd=>by
   obtain⟨a,_,rfl⟩:=List.mem_map.mp hd
   rfl) hys (by simpa using hb) (fun p' c' st' e1 _ _ _ hR' hoth hn hp=>?_)
  refine H st' _ e1 hn (.inr ⟨p',_,c',?_,?_,?_,by simp,by simp,rfl,by simpa using hR'⟩) (fun x hx hne=>hoth x (fun e=>by subst e;exact hne _ _ rfl) hx)
  ·rcases hp with rfl|hp
   ·exact h1
   ·omega
  ·rcases hp with rfl|hp
   ·exact h2'
   ·omega
  ·rcases hp with rfl|hp
   ·exact h3
   ·intro e
    have:=ho p' e.symm
    omega
end
theorem KVA.set {kv:List (Int×D)} {out:List Rd} (h:KVA kv out) (r:Rd):KVA (cJ r.node (.int .i64 r.at') kv) (out++[r]):=fun n=>by
 rw[iS,nV]
 by_cases e:n=r.node
 ·rw[if_pos e]
  exact⟨r.at',rfl,by simp[e]⟩
 ·rw[if_neg e]
  obtain⟨u,h1,h2⟩:=h n
  refine⟨u,h1,?_⟩
  rw[h2]
  have:¬r.node=n:=fun x=>e x.symm
  simp[this]
set_option maxHeartbeats 8000000 in
theorem FU (l:List Eg) (hll:l.length≤1000) (t0:Tok) (s0:Nat) (hs0:s0=8∨l=[]) (sz:Int) (cl:Int→Bool) (kvc:List (Int×D)) (hkc:KVC kvc cl):∀(n:Nat) (out s:List Rd),nE l out s≤n→n+out.length≤100000→∀(kva:List (Int×D)),KVA kva out→∀(ρ:Nat→D) (st:Store) (h:Nat) (o:Option Nat) (d v4:D),
  st.lim≤0→2≤h→(∀r,o=some r→2≤r)→AH st h o s→st.boxes 0=some (.map kvc)→st.boxes 1=some (.map kva)→OutR st h o d out→
  ρ 0=.slice t0 s0 (l.map Eg.e)→ρ 3=.int .i64 sz→ρ 4=v4→ρ 10=d→ρ 11=.map 0→ρ 14=.map 1→ρ 15=.ptr h 0→∀(Q:X→(Nat→D)→Store→Prop),
  (∀ρ' st' d' h' o',st'.lim≤0→OutR st' h' o' d' (uT (kA sz) cl l n out s)→ρ' 10=d'→Q (.exit 2) ρ' st')→WC Γ (.loop gE) ρ st Q:=by
 intro n
 induction n with
 |zero=>
  intro out s hm hno kva hka ρ st h o d v4 hlim hh2 ho2 H hb0 hb1 hO h0 h3 h4 h10 h11 h14 h15 Q hQ
  have hs:s=[]:=List.length_eq_zero_iff.mp (by unfold nE at hm;omega)
  subst hs
  have hLen:EvRO Γ 40 [.ptr h 0] st (.int .i64 0):=xV H (by simp)
  rw[←aa h0,←aa h3,←aa h4,←aa h10,←aa h11,←aa h14,←aa h15]
  refine Hh ?_
  repeat' (first
 |(refine al ?_;first
 |refine mP ?_
 |refine gF ?_
 |refine dM rfl rfl rfl hLen rfl rfl ?_
 |refine Hd ?_)
 |refine He ?_
 |refine Ir ?_
 |refine ah rfl ?_
 |refine Hi ?_)
  exact hQ _ _ d h o hlim hO rfl
 |succ n ih=>
  intro out s hm hno kva hka ρ st h o d v4 hlim hh2 ho2 H hb0 hb1 hO h0 h3 h4 h10 h11 h14 h15 Q hQ
  cases s with
  |nil=>
   have hLen:EvRO Γ 40 [.ptr h 0] st (.int .i64 0):=xV H (by simp)
   rw[←aa h0,←aa h3,←aa h4,←aa h10,←aa h11,←aa h14,←aa h15]
   refine Hh ?_
   repeat' (first
 |(refine al ?_;first
 |refine mP ?_
 |refine gF ?_
 |refine dM rfl rfl rfl hLen rfl rfl ?_
 |refine Hd ?_)
 |refine He ?_
 |refine Ir ?_
 |refine ah rfl ?_
 |refine Hi ?_)
   exact hQ _ _ d h o hlim hO rfl
  |cons r s=>
   have hsl:s.length+1≤n+1:=by unfold nE at hm;simp at hm;omega
   have hLen:EvRO Γ 40 [.ptr h 0] st (.int .i64 ((s.length:Int)+1)):=by
    have:=xV H (by simp;omega)
    simpa using this
   have hPop:EvRWX Γ 41 [.ptr h 0] st (fun r0 st'=>r0=.tuple [r.e,.bool true]∧AH st' h o s∧Fr st st' h o o):=by
    have:=EO H (by simp;omega)
    simpa[GJ]using this
   have hnh:=H.nx
   have hne0:some 0≠o:=fun e=>by have:=ho2 0 e.symm;omega
   have hne1:some 1≠o:=fun e=>by have:=ho2 1 e.symm;omega
   rw[←aa h0,←aa h3,←aa h4,←aa h10,←aa h11,←aa h14,←aa h15]
   refine Hh ?_
   repeat' (first
 |(refine al ?_;first
 |refine mP ?_
 |refine gT ?_
 |refine dM rfl rfl rfl hLen rfl rfl ?_
 |(refine a7 rfl rfl rfl hPop ?_<;>intro r0 st1 hp0)
 |refine Hd ?_)
 |refine He ?_
 |refine Ir ?_
 |refine Hg ?_
 |refine aj rfl ?_
 |refine Hf ?_)
   obtain⟨rfl,H1,F1⟩:=hp0
   have hlim1:st1.lim≤0:=by rw[F1.lim];exact hlim
   have hll1:st1.lim≤st1.next:=by omega
   have hnx1:st.next≤st1.next:=F1.next
   have h31:2<st1.next:=by omega
   have hc0:st1.boxes 0=some (.map kvc):=by rw[F1.box 0 (by omega) (by omega) hne0];exact hb0
   have hc1:st1.boxes 1=some (.map kva):=by rw[F1.box 1 (by omega) (by omega) hne1];exact hb1
   have hO1:OutR st1 h o d out:=by
    rcases hO with hO|⟨q,n',c,k1,k2,k3,k4,k5,rfl,hR⟩
    ·exact .inl hO
    ·exact .inr ⟨q,n',c,k1,k2,k3,k4,k5,rfl,hR.of (by omega) (Nat.lt_of_lt_of_le hR.2.1 hnx1) (F1.box q hR.2.1 k2 k3)⟩
   have ho3:∀r,o=some r→r<st1.next:=fun r hr=>by subst hr;exact H1.onx
   obtain⟨u,hu1,hu2⟩:=hka r.node
   have q1:(1:Nat)≠st1.next:=by omega
   have q0:(0:Nat)≠st1.next:=by omega
   clear hb0 hb1 hO H hLen hPop F1 hnh
   cases hv:lC out r.node with
   |true=>
    rw[hv]at hu2
    have hd:uT (kA sz) cl l (n+1) out (r::s)=uT (kA sz) cl l n out s:=by rw[uT,if_pos hv]
    have hms:nE l out s≤n:=by have:=sM (l:=l) (out:=out) (s:=s) (r:=r);omega
    have hnext:∀(ρ':Nat→D) (x y:Option Box),ρ' 0=.slice t0 s0 (l.map Eg.e)→ρ' 3=.int .i64 sz→ρ' 4=v4→ρ' 10=d→ρ' 11=.map 0→ρ' 14=.map 1→ρ' 15=.ptr h 0→WC Γ (.loop gE) ρ' {st1 with boxes:=ap (ap st1.boxes st1.next x) st1.next y,next:=st1.next+1} Q:=fun ρ' x y k0 k3 k4 k10 k11 k14 k15=>
     ih out s hms (by omega) kva hka ρ' {st1 with boxes:=ap (ap st1.boxes st1.next x) st1.next y,next:=st1.next+1} h o d v4 hlim1 hh2 ho2 (H1.of rfl (Nat.le_succ _) (fun q hq _=>(ab _ _ (Nat.ne_of_lt hq)).trans (ab _ _ (Nat.ne_of_lt hq))))
      ((ab _ _ q0).trans ((ab _ _ q0).trans hc0)) ((ab _ _ q1).trans ((ab _ _ q1).trans hc1))
      (by
       rcases hO1 with hO|⟨q,n',c,k1,k2,k3,k4,k5,rfl,hR⟩
       ·exact .inl hO
       ·have hq:=hR.2.1
        exact .inr ⟨q,n',c,k1,k2,k3,k4,k5,rfl,hR.of hR.1 (Nat.lt_succ_of_lt hq) ((ab _ _ (Nat.ne_of_lt hq)).trans (ab _ _ (Nat.ne_of_lt hq)))⟩)
      k0 k3 k4 k10 k11 k14 k15 Q (fun ρ'' st'' d' h' o' f1 f2 f3=>hQ ρ'' st'' d' h' o' f1 (by rw[hd];exact f2) f3)
    clear ih hQ
    repeat' (first
 |(refine al ?_;first
 |refine am (cs':=[_,_]) rfl rfl (ae _ _ _) rfl hll1 rfl rfl rfl ?_
 |refine bo rfl rfl rfl ((ab _ _ q1).trans ((ab _ _ q1).trans hc1)) hu1 hu2 rfl ?_
 |refine mI ?_
 |refine mB ?_
 |refine mT ?_
 |refine mM ?_
 |refine lP (d:=.int _ _) ?_
 |refine eI ?_
 |refine eB ?_
 |refine eA ?_
 |refine fD ?_
 |refine av rfl rfl ?_
 |refine Hd ?_)
 |refine He ?_
 |refine Ir ?_
 |refine aj rfl ?_
 |refine Hi ?_)
    refine hnext _ _ _ ?_ ?_ ?_ ?_ ?_ ?_ ?_<;>rfl
   |false=>
    rw[hv]at hu2
    have hd:uT (kA sz) cl l (n+1) out (r::s)=uT (kA sz) cl l n (out++[r]) (dR (kA sz) cl (out++[r]) r.at' (ci r.node l) s):=by rw[uT,if_neg (by simp[hv])]
    have hms:nE l (out++[r]) (dR (kA sz) cl (out++[r]) r.at' (ci r.node l) s)≤n:=by have:=yT (ps:=kA sz) (cl:=cl) (l:=l) (s:=s) hv;omega
    have hF:=fun t=>Az r.node l (by omega) t s0 hs0
    have hfl:(ci r.node l).length≤l.length:=by unfold ci;exact List.length_filter_le _ _
    have hkv':=hka.set r
    have hbd:(out.length+1)*16≤140737488355328:=by omega
    have hqb1:st1.next≠1:=by omega
    have hl01:st1.lim≤1:=by omega
    have hneb:∀n c,d≠.rs st1.next 0 2 n c:=hO1.ne (.inr (.inr (.inr (Nat.le_refl _))))
    have hO2:∀{x y z:Option Box},OutR {st1 with boxes:=ap (ap (ap st1.boxes st1.next x) st1.next y) 1 z,next:=st1.next+1} h o d out:=fun{x y z}=>hO1.of hlim1 (Nat.le_succ _) (fun q n c e=>by
     have h1:¬q<2:=fun hq=>hO1.ne (.inl hq) n c e
     have h2:some q≠o:=fun hq=>hO1.ne (.inr (.inr (.inl hq))) n c e
     have h3:¬st1.next≤q:=fun hq=>hO1.ne (.inr (.inr (.inr hq))) n c e
     exact⟨(ab _ _ (by omega)).trans ((ab _ _ (by omega)).trans (ab _ _ (by omega))),h2⟩)
    have hkeep2:∀{x y z:Option Box} (q:Nat),q<st1.next→q≠1→(ap (ap (ap st1.boxes st1.next x) st1.next y) 1 z) q=st1.boxes q:=fun{x y z} q hq hq1=>(ab _ _ hq1).trans ((ab _ _ (Nat.ne_of_lt hq)).trans (ab _ _ (Nat.ne_of_lt hq)))
    have hhn1:h<st1.next+1:=Nat.lt_succ_of_lt H1.nx
    have ho4:∀r,o=some r→r<st1.next+1:=fun r hr=>Nat.lt_succ_of_lt (ho3 r hr)
    have h2n:2≤st1.next+1:=by omega
    have hll2:st1.lim≤st1.next+1:=by omega
    repeat' (first
 |(refine al ?_;first
 |refine am (cs':=[_,_]) rfl rfl (ae _ _ _) rfl hll1 rfl rfl rfl ?_
 |refine bo rfl rfl rfl ((ab _ _ q1).trans ((ab _ _ q1).trans hc1)) hu1 hu2 rfl ?_
 |refine eM (v:=.int .i64 r.at') rfl rfl rfl ((ab _ _ q1).trans ((ab _ _ q1).trans hc1)) hl01 rfl rfl ?_
 |refine aB (v:=d3) rfl rfl rfl ?_
 |refine aB (v:=d) rfl rfl rfl ?_
 |(refine AV rfl rfl rfl rfl hO2 hbd hll2 h2n hhn1 ho4 ?_;intro st3 d3 e1 e2 hO3 hoth3;have hbb3:(st3.boxes st1.next).bind Box.cs=some [.int .i64 r.node,.int .i64 r.at']:=(congrArg (fun x=>Option.bind x Box.cs) (hoth3 st1.next (Nat.lt_succ_self _) hneb)).trans (eG hqb1 (aY rfl));have hlb3:st3.lim≤st1.next:=Nat.le_trans (Nat.le_of_eq e1) hll1)
 |refine lN ?_
 |refine mI ?_
 |refine mB ?_
 |refine mS ?_
 |refine mT ?_
 |refine mM ?_
 |refine ai (agg:=false) (d:=.int _ _) rfl rfl rfl hbb3 hlb3 rfl ?_
 |refine ai (agg:=true) (d:=.agg [_,_]) rfl rfl rfl (eG hqb1 (aY rfl)) hll1 rfl ?_
 |refine ai (agg:=false) (d:=.int _ _) rfl rfl rfl (aY rfl) hll1 rfl ?_
 |(refine jG rfl rfl rfl (hF _) rfl ?_;intro tf sf hsf1 tk5 nt5)
 |refine eI ?_
 |refine eB ?_
 |refine eA ?_
 |refine fD ?_
 |refine av rfl rfl ?_
 |refine bg (ys:=[_]) rfl rfl rfl (by decide) rfl ?_
 |refine Hd ?_)
 |refine He ?_
 |refine Ir ?_
 |refine Hg ?_
 |refine ah rfl ?_
 |refine Hf ?_)
    have e1':st3.lim=st1.lim:=e1
    have e2':st1.next+1≤st3.next:=e2
    have hlim3:st3.lim≤0:=by rw[e1'];exact hlim1
    have hb03:st3.boxes 0=some (.map kvc):=by
     rw[hoth3 0 (by show 0<st1.next+1;omega) (hO1.ne (.inl (by omega)))]
     exact(hkeep2 (z:=none) 0 (by omega) (by omega)).trans hc0
    have hb13:st3.boxes 1=some (.map (cJ r.node (.int .i64 r.at') kva)):=(hoth3 1 (by show 1<st1.next+1;omega) (hO1.ne (.inl (by omega)))).trans rfl
    have H3:AH st3 h o s:=H1.of e1' (by omega) (fun q hq hqo=>by
     rw[hoth3 q (Nat.lt_succ_of_lt hq) (hO1.ne (by
      rcases hqo with h'|h'
      ·exact .inr (.inl h')
      ·exact .inr (.inr (.inl h'))))]
     refine hkeep2 q hq ?_
     rcases hqo with rfl|h'
     ·omega
     ·have:=ho2 q h'.symm
      omega)
    have hKn:∀q,(q=0∨q=1∨q=st1.next∨∃n c,d3=.rs q 0 2 n c)→q<st3.next∧q≠h:=by
     have:=H1.nx
     rintro q (rfl|rfl|rfl|⟨n',c',e⟩)
     ·omega
     ·omega
     ·omega
     ·exact⟨Nat.lt_of_not_le fun hq=>hO3.ne (.inr (.inr (.inr hq))) n' c' e,fun hq=>hO3.ne (.inr (.inl hq)) n' c' e⟩
    have hKo:∀q,(q=0∨q=1∨q=st1.next∨∃n c,d3=.rs q 0 2 n c)→some q≠o:=by
     rintro q (rfl|rfl|rfl|⟨n',c',e⟩)
     ·exact hne0
     ·exact hne1
     ·intro e
      have:=ho3 _ e.symm
      omega
     ·exact fun hq=>hO3.ne (.inr (.inr (.inl hq))) n' c' e
    refine G2 sz cl (out++[r]) kvc (cJ r.node (.int .i64 r.at') kva) hkc hkv' r.at' (ci r.node l) (by omega) tf sf hsf1 h st1.next {st3 with toks:=tk5,ntok:=nt5} (fun q=>q=0∨q=1∨q=st1.next∨∃n c,d3=.rs q 0 2 n c) (.inl rfl) (.inr (.inl rfl)) (.inr (.inr (.inl rfl))) hKn hb03 hb13 r.node hbb3 (.slice t0 s0 (l.map Eg.e)) v4 d3 (ci r.node l) [] rfl _ {st3 with toks:=tk5,ntok:=nt5} s o (by simp;omega) hlim3 (Nat.le_refl _) (H3.of rfl (Nat.le_refl _) (fun _ _ _=>rfl)) hKo (fun _ _=>rfl) ?_ ?_ ?_ ?_ ?_ ?_ ?_ ?_ ?_ ?_ ?_ _ (fun ρ' st4 o' f1 f2 f3 f4 f5 f6 k0 k3 k4 k10 k11 k14 k15=>?_)
    all_goals first|rfl|skip
    rw[←aa k0,←aa k3,←aa k4,←aa k10,←aa k11,←aa k14,←aa k15]
    skip
    refine ih (out++[r]) _ hms (by simp;omega) _ hkv' _ st4 h o' d3 v4 f1 hh2 (fun r' hr'=>?_) f3 ((f5 0 (.inl rfl)).trans hb03) ((f5 1 (.inr (.inl rfl))).trans hb13) (hO3.of f1 f2 (fun q n' c' e=>⟨f5 q (.inr (.inr (.inr ⟨n',c',e⟩))),f4 q (.inr (.inr (.inr ⟨n',c',e⟩)))⟩)) ?_ ?_ ?_ ?_ ?_ ?_ ?_ Q (fun ρ'' st'' d' h' o'' g1 g2 g3=>hQ ρ'' st'' d' h' o'' g1 (by rw[hd];exact g2) g3)
    ·rcases f6 with rfl|⟨r2,hr2,hr3⟩
     ·exact ho2 r' hr'
     ·have hr4:st3.next≤r2:=hr3
      rw[hr2]at hr'
      cases hr'
      omega
    all_goals rfl
end Go.Bes
/-
  Sorting by nodes, as the known function does it, and as plain lists.
-/
namespace Go.Ev
theorem jg {Γ:Nat→Option FD} {st st':Store} {f:Nat} {F:List D→Store→Option (D×Store)} {ds:List D} {r:D} (hf:Γ f=some (.primS F)) (hF:F (ds.map D.strip) st=some (r,st')):EvRW Γ f ds st r st':=by
 refine⟨2,fun n hn=>?_⟩
 obtain⟨n,rfl⟩:∃m,n=m+2:=⟨n - 2,by omega⟩
 have hp:aM Γ (n+1) f (ds.map D.strip)=none:=by simp[aM,hf]
 have hp2:aM Γ (n+1) f (ds.map (seen st))=none:=by simp[aM,hf]
 refine⟨?_,by simp[aQ,hf,hF]⟩
 simp only[bs,hf,hp,hp2]
 split
 ·rfl
 ·split
  ·split<;>rfl
  ·rfl
end Go.Ev
namespace Go.Bes
open Go.Ev
def pe {α:Type} (key:α→Int) (x:α):List α→List α
 |[]=>[x]
 |y::s=>if key y<key x then y::pe key x s else x::y::s
def fX {α:Type} (key:α→Int):List α→List α
 |[]=>[]
 |x::s=>pe key x (fX key s)
theorem oP {α:Type} (key:α→Int) (x:α):∀l:List α,(pe key x l).Perm (x::l)
 |[]=>List.Perm.refl _
 |y::s=>by
  simp only[pe]
  split
  ·exact((oP key x s).cons y).trans (List.Perm.swap x y s)
  ·exact List.Perm.refl _
theorem dp {α:Type} (key:α→Int):∀l:List α,(fX key l).Perm l
 |[]=>List.Perm.refl _
 |x::s=>(oP key x _).trans ((dp key s).cons x)
theorem wI {α β:Type} (key:β→Int) (f:α→β) (x:α):∀l:List α,pe key (f x) (l.map f)=(pe (fun a=>key (f a)) x l).map f
 |[]=>rfl
 |y::s=>by
  simp only[List.map_cons,pe]
  split
  ·rw[wI key f x s];rfl
  ·rfl
theorem qF {α β:Type} (key:β→Int) (f:α→β):∀l:List α,fX key (l.map f)=(fX (fun a=>key (f a)) l).map f
 |[]=>rfl
 |x::s=>by
  simp only[List.map_cons,fX]
  rw[qF key f s,wI]
theorem yX (x:List Int):∀l:List (List Int),xq 0 x l=pe (fun a=>a.getD 0 0) x l
 |[]=>rfl
 |y::s=>by simp only[xq,pe,yX x s]
theorem pS:∀l:List (List Int),od 0 l=fX (fun a=>a.getD 0 0) l
 |[]=>rfl
 |x::s=>by simp only[od,fX,pS s,yX]
theorem o7 {α:Type} (key:α→Int) (x:α):∀l:List α,(l.Pairwise fun a b=>key a≤key b)→(pe key x l).Pairwise fun a b=>key a≤key b
 |[],_=>by simp[pe]
 |y::s,h=>by
  have h':=List.pairwise_cons.mp h
  simp only[pe]
  split
  ·rename_i hlt
   refine List.pairwise_cons.mpr ⟨fun z hz=>?_,o7 key x s h'.2⟩
   rcases List.mem_cons.mp ((oP key x s).mem_iff.mp hz)with rfl|hz
   ·omega
   ·exact h'.1 z hz
  ·rename_i hlt
   refine List.pairwise_cons.mpr ⟨fun z hz=>?_,h⟩
   rcases List.mem_cons.mp hz with rfl|hz
   ·omega
   ·have:=h'.1 z hz
    omega
theorem lD {α:Type} (key:α→Int):∀l:List α,(fX key l).Pairwise fun a b=>key a≤key b
 |[]=>List.Pairwise.nil
 |x::s=>o7 key x _ (lD key s)
def Rd.row (e:Rd):List Int:=[e.node,e.at']
theorem nm (es:List Rd):(es.map Rd.e).flatMap D.cells=(es.flatMap Rd.row).map (D.int .i64):=by
 induction es with
 |nil=>rfl
 |cons e es ih=>rw[List.map_cons,List.flatMap_cons,ih,List.flatMap_cons,List.map_append];rfl
theorem kI:∀l:List Int,fR (l.map (D.int .i64))=some l
 |[]=>rfl
 |x::l=>by simp only[List.map_cons,fR,kI l]
theorem nB:∀es:List Rd,HJ 2 es.length (es.flatMap Rd.row)=es.map Rd.row
 |[]=>rfl
 |e::es=>by
  rw[List.flatMap_cons,List.length_cons,List.map_cons]
  simp only[HJ]
  rw[List.take_left' (show e.row.length=2 from rfl),List.drop_left' (show e.row.length=2 from rfl),nB es]
theorem pX:∀l:List Int,l.Nodup→tg l=true
 |[],_=>rfl
 |x::l,h=>by
  have h':=List.nodup_cons.mp h
  simp only[tg,pX l h'.2,Bool.and_true,Bool.not_eq_true']
  simpa using h'.1
theorem Hc {es:List Rd}:∀d∈es.map Rd.e,d.cells.length=2:=fun d hd=>by
 obtain⟨e,_,rfl⟩:=List.mem_map.mp hd
 rfl
theorem Fx (es:List Rd) (hn:(es.map Rd.node).Nodup) (hlen:es.length<4611686018427387904) (st:Store) (p c:Nat) (hR:RowIs st p 2 (es.map Rd.e)):
  ∃st',EvRW Γ 44 [.rs p 0 2 es.length c,.func 45 []] st (.tuple []) st'∧RowIs st' p 2 ((fX Rd.node es).map Rd.e):=by
 obtain⟨hl,hp,cs,hb,hlc,htk,hpl⟩:=hR
 rw[List.length_map]at hlc htk
 have e1:od 0 (es.map Rd.row)=(fX Rd.node es).map Rd.row:=by rw[pS,qF];rfl
 have e2:((fX Rd.node es).map Rd.row).flatMap (fun x=>x.map (D.int .i64))=((fX Rd.node es).map Rd.e).flatMap D.cells:=by
  rw[List.flatMap_map,List.flatMap_map];rfl
 have hpm:=(dp Rd.node es).length_eq
 have e3:(((fX Rd.node es).map Rd.e).flatMap D.cells).length=es.length*2:=by
  rw[bT Hc,List.length_map,hpm]
 refine⟨{st with boxes:=ap st.boxes p (some (.row (((fX Rd.node es).map Rd.e).flatMap D.cells++cs.drop (es.length*2))))},jg (F:=jZ 2 0 45) rfl ?_,hl,hp,_,ae _ _ _,?_,?_,?_⟩
 ·show jZ 2 0 45 [.rs p 0 2 es.length c,.func 45 []] st=_
  simp only[jZ,hb]
  rw[htk,nm,kI]
  simp only[nB,e1,e2]
  rw[if_pos ⟨trivial,trivial,trivial,hl,hlc,hlen,by
   rw[List.map_map]
   exact pX _ hn⟩]
 ·rw[List.length_map,List.length_append,e3,hpm];omega
 ·rw[List.length_map,hpm,List.take_left' e3]
 ·rw[List.all_append,Bool.and_eq_true]
  refine⟨?_,?_⟩
  ·rw[nm]
   simp[D.plain]
  ·rw[List.all_eq_true]at hpl ⊢
   exact fun x hx=>hpl x (List.mem_of_mem_drop hx)
end Go.Bes
/-
  The times, by nodes.
-/
namespace Go.Bes
open Go.Ev
theorem ms {e:Eg} {t sz:Int} (h:eT e t sz):t≤aX e t sz:=by
 have h1:=mN (a:=t) (b:=e.op)
 have h2:=ku e sz
 have h3:=h.1.2.2.2.1.2.2
 unfold aX
 omega
theorem C4 {e:Eg} {t sz:Int} (h:eT e t sz):1≤e.to∧e.to≤255:=h.1.2.2.1.2.1
theorem BM {e:Eg} {t sz:Int} (h:eT e t sz):aX e t sz≤4294967294:=by
 have h2:=ku e sz
 have h3:=h.1.2.2.2.1.2.2
 have h4:=h.1.2.2.2.1.2.1
 have h5:=h.2.2
 have h6:=mN (a:=br e sz) (b:=1)
 unfold aX
 omega
theorem xu {a a' b:Int} (ha:0≤a') (h:a'≤a) (hb:1≤b):mL a' b≤mL a b:=by
 have h0:0≤a:=by omega
 unfold mL
 rw[Int.tdiv_eq_ediv_of_nonneg ha,Int.tmod_eq_emod_of_nonneg ha,Int.tdiv_eq_ediv_of_nonneg h0,Int.tmod_eq_emod_of_nonneg h0]
 have d1:=Int.ediv_le_ediv (c:=b) (by omega) h
 have m1:=Int.emod_nonneg a' (show b≠0 by omega)
 have m2:=Int.emod_nonneg a (show b≠0 by omega)
 have e1:=Int.mul_ediv_add_emod a' b
 have e2:=Int.mul_ediv_add_emod a b
 by_cases hd:a' / b=a / b
 ·rw[hd]at e1 ⊢
  split<;>split<;>omega
 ·split<;>split<;>omega
theorem z8 {e:Eg} {t t' sz sz':Int} (h:eT e t sz) (ht:0≤t') (htt:t'≤t) (hs:0≤sz') (hss:sz'≤sz):eT e t' sz'∧aX e t' sz'≤aX e t sz:=by
 obtain⟨⟨h1,h2,h3⟩,h4,h5⟩:=h
 have hr:ji e t' sz':=⟨by omega,by omega,h3⟩
 have hm:mx t' e.op≤mx t e.op:=by
  have:=mN (a:=t) (b:=e.op)
  exact rz.mpr ⟨by omega,by omega⟩
 have hk:br e sz'≤br e sz:=by
  unfold br
  rw[if_pos ⟨by omega,by omega,h3⟩,if_pos ⟨by omega,h2,h3⟩]
  exact xu hs hss h3.2.2.2.1.1
 have hm1:mx (br e sz') 1≤mx (br e sz) 1:=by
  have:=mN (a:=br e sz) (b:=1)
  exact rz.mpr ⟨by omega,by omega⟩
 refine⟨⟨hr,by omega,by omega⟩,?_⟩
 unfold aX
 omega
theorem fS {sz:Int} {e:Eg} {t u:Int}:kA sz e t=some u↔eT e t sz∧u=aX e t sz:=by
 unfold kA
 by_cases h:eT e t sz
 ·rw[if_pos h];simp[h,eq_comm]
 ·rw[if_neg h];simp[h]
theorem Bp {sz:Int}:∀e t u,kA sz e t=some u→t≤u:=fun e t u h=>by
 obtain⟨h1,rfl⟩:=fS.mp h
 exact ms h1
theorem ws {sz:Int} {cl:Int→Bool} {l:List Eg} {fr now n t:Int} (h:Reach (kA sz) cl l fr now n t):now≤t:=by
 induction h with
 |here=>exact Int.le_refl _
 |go _ _ _ hp _ ih=>exact Int.le_trans ih (Bp _ _ _ hp)
theorem EM {sz:Int} {cl:Int→Bool} {l:List Eg} {fr now:Int} (hn:0≤now) (hs:0≤sz):∀e t t' u,kA sz e t=some u→t'≤t→(∃a b,Reach (kA sz) cl l fr now a b∧b=t')→∃u',u'≤u∧kA sz e t'=some u':=by
 rintro e t t' u h ht ⟨a,b,hr,rfl⟩
 obtain⟨h1,rfl⟩:=fS.mp h
 have:=ws hr
 obtain⟨h2,h3⟩:=z8 h1 (by omega) ht hs (Int.le_refl _)
 exact⟨_,h3,fS.mpr ⟨h2,rfl⟩⟩
def mZ (shut:List Int) (n:Int):Bool:=decide (n∈shut)
def ee (l:List Eg) (fr now sz:Int) (shut:List Int):List Rd:=if bV l fr now sz then fX Rd.node (uT (kA sz) (mZ shut) l (l.length+1) [] [⟨fr,now⟩])else[]
theorem qn (l:List Eg) (r:Rd):nE l [] [r]≤l.length+1:=by
 have:=List.length_filter_le (fun e:Eg=> !lC [] e.fr) l
 unfold nE
 simp
 omega
theorem yO {l:List Eg} {fr now sz:Int} (ha:bV l fr now sz) (shut:List Int):IsT (kA sz) (mZ shut) l fr now (uT (kA sz) (mZ shut) l (l.length+1) [] [⟨fr,now⟩]):=
 uo Bp (EM ha.2.2.1.1 ha.2.1.1) _ _ _ (qn l _) .start
theorem pu (ps:Eg→Int→Option Int) (cl:Int→Bool) (l:List Eg):∀(n:Nat) (out s:List Rd),(uT ps cl l n out s).length≤out.length+n
 |0,out,s=>by rw[uT];omega
 |n+1,out,[]=>by rw[uT];omega
 |n+1,out,r::s=>by
  rw[uT]
  split
  ·have:=pu ps cl l n out s;omega
  ·have:=pu ps cl l n (out++[r]) (dR ps cl (out++[r]) r.at' (ci r.node l) s)
   simp at this
   omega
theorem sA (l:List Eg) (fr now sz:Int) (shut:List Int):(ee l fr now sz shut).length≤l.length+1:=by
 unfold ee
 split
 ·rw[(dp Rd.node _).length_eq]
  have:=pu (kA sz) (mZ shut) l (l.length+1) [] [⟨fr,now⟩]
  simpa using this
 ·simp
theorem GT (shut:List Int) (hsl:shut.length≤1073741824) (t:Tok) (sz:Nat) (hs:sz=1∨shut=[]) (v0 v1 v2 v3 v4 v10:D):∀(post pre:List Int),shut=pre++post→∀(kv:List (Int×D)),KVC kv (mZ pre)→∀(ρ:Nat→D) (st:Store),st.lim≤0→st.boxes 0=some (.map kv)→
  ρ 0=v0→ρ 1=v1→ρ 2=v2→ρ 3=v3→ρ 4=v4→ρ 10=v10→ρ 11=.map 0→ρ 34=.slice t sz (shut.map (D.int .i64))→ρ 35=.int .i64 shut.length→ρ 36=.int .i64 pre.length→∀(Q:X→(Nat→D)→Store→Prop),
  (∀ρ' st' kv',KVC kv' (mZ shut)→st'.lim≤0→st'.next=st.next→st'.boxes 0=some (.map kv')→ρ' 0=v0→ρ' 1=v1→ρ' 2=v2→ρ' 3=v3→ρ' 4=v4→ρ' 10=v10→ρ' 11=.map 0→Q (.exit 0) ρ' st')→WC Γ (.loop gq) ρ st Q:=by
 intro post
 induction post with
 |nil=>
  intro pre hpp kv hk ρ st hlim hb h0 h1 h2 h3 h4 h10 h11 h34 h35 h36 Q hQ
  rw[List.append_nil]at hpp
  subst hpp
  rw[←aa h0,←aa h1,←aa h2,←aa h3,←aa h4,←aa h10,←aa h11,←aa h34,←aa h35,←aa h36]
  refine Hh ?_
  repeat' (first
 |(refine al ?_;first
 |refine lF ?_
 |refine Hd ?_)
 |refine He ?_
 |refine Ir ?_
 |refine ah rfl ?_
 |refine Hi ?_)
  exact hQ _ _ kv hk hlim rfl hb rfl rfl rfl rfl rfl rfl rfl
 |cons x post ih=>
  intro pre hpp kv hk ρ st hlim hb h0 h1 h2 h3 h4 h10 h11 h34 h35 h36 Q hQ
  have hv:shut[pre.length]?=some x:=by rw[hpp];simp
  have hlen:shut.length=pre.length+(post.length+1):=by rw[hpp];simp
  have hz:sz=1:=hs.resolve_right (by rintro rfl;simp at hlen)
  subst hz
  have hpl:pre.length<(shut.map (D.int .i64)).length:=by simp;omega
  have hltl:(pre.length:Int)<shut.length:=by omega
  have hk2:KVC (cJ x (.bool true) kv) (mZ (pre++[x])):=fun n=>by
   rw[iS]
   by_cases e:n=x
   ·rw[if_pos e];simp[mZ,e]
   ·rw[if_neg e,hk n];simp[mZ,e]
  have hnext:∀(ρ':Nat→D) (st':Store),st'.lim≤0→st'.next=st.next→st'.boxes 0=some (.map (cJ x (.bool true) kv))→ρ' 0=v0→ρ' 1=v1→ρ' 2=v2→ρ' 3=v3→ρ' 4=v4→ρ' 10=v10→ρ' 11=.map 0→ρ' 34=.slice t 1 (shut.map (D.int .i64))→ρ' 35=.int .i64 shut.length→ρ' 36=.int .i64 ((pre.length:Int)+1)→WC Γ (.loop gq) ρ' st' Q:=fun ρ' st' e1 e2 e3 k0 k1 k2 k3 k4 k10 k11 k34 k35 k36=>
   ih (pre++[x]) (by simp[hpp]) _ hk2 ρ' st' e1 e3 k0 k1 k2 k3 k4 k10 k11 k34 k35 (by rw[List.length_append];exact k36) Q (fun ρ'' st'' kv' f0 f1 f2=>hQ ρ'' st'' kv' f0 f1 (f2.trans e2))
  clear ih hQ hpp
  rw[←aa h0,←aa h1,←aa h2,←aa h3,←aa h4,←aa h10,←aa h11,←aa h34,←aa h35,←aa h36]
  refine Hh ?_
  repeat' (first
 |(refine al ?_;first
 |refine iA (pre.length) hpl ?_
 |refine eM (v:=.bool true) rfl rfl rfl hb hlim rfl rfl ?_
 |refine mI ?_
 |refine mM ?_
 |refine lT ?_
 |refine aD ?_
 |refine lE (d:=.int _ _) hv ?_
 |refine Hd ?_)
 |refine He ?_
 |refine Ir ?_
 |refine Hg ?_
 |refine aj rfl ?_
 |refine Hf ?_)
  refine hnext _ _ hlim rfl rfl ?_ ?_ ?_ ?_ ?_ ?_ ?_ ?_ ?_ ?_<;>rfl
set_option maxHeartbeats 8000000 in
theorem yH (l:List Eg) (hll:l.length≤1000) (fr now sz:Int) (shut:List Int) (hsl:shut.length≤1073741824) (t t':Tok) (s s':Nat) (hs:s=8∨l=[]) (hs':s'=1∨shut=[]):
  EvX Γ 27 [.slice t s (l.map Eg.e),.int .i64 fr,.int .i64 now,.int .i64 sz,.slice t' s' (shut.map (D.int .i64))] (Au Rd.e 2 (ee l fr now sz shut)):=by
 refine bR rfl rfl ?_
 have hA:=fun t=>CE l (by omega) fr now sz t s hs
 unfold ee
 by_cases ha:bV l fr now sz
 ·rw[decide_eq_true ha]at hA
  rw[if_pos ha]
  have hT:=yO ha shut
  repeat' (first
 |(refine al ?_;first
 |refine lN ?_
 |refine mI ?_
 |refine mS ?_
 |refine mM ?_
 |refine cA rfl (hA _) ?_
 |refine nT ?_
 |refine gI rfl rfl ?_
 |refine Hd ?_)
 |refine He ?_
 |refine Ir ?_
 |refine Hg ?_
 |refine ah rfl ?_
 |refine Hf ?_)
  refine GT shut hsl t' s' hs' (.slice t s (l.map Eg.e)) (.int .i64 fr) (.int .i64 now) (.int .i64 sz) (.slice t' s' (shut.map (D.int .i64))) (.slice .isnil 0 []) shut [] rfl [] (fun n=>rfl) _ _ (Nat.le_refl _) ?_ ?_ ?_ ?_ ?_ ?_ ?_ ?_ ?_ ?_ ?_ _ (fun ρ' st' kv hk e1 e2 e3 h0 h1 h2 h3 h4 h10 h11=>?_)
  all_goals first|rfl|skip
  obtain⟨bx,nx1,tk,nt,lm,tl⟩:=st'
  have e2':nx1=1:=e2
  subst e2'
  rw[←aa h0,←aa h1,←aa h2,←aa h3,←aa h4,←aa h10,←aa h11]
  have hlm:lm≤0:=e1
  have hbx:bx 0=some (.map kv):=e3
  have hNew:=Gt [⟨fr,now⟩] (by simp) .exact 2 (.inl rfl) ⟨ap bx 1 (some (.map [])),2,tk,nt,lm,tl⟩ (by show lm≤2;omega)
  repeat' (first
 |(refine al ?_;first
 |refine mI ?_
 |refine mM ?_
 |(refine jm rfl rfl hNew ?_<;>intro r0 st2 hp0)
 |refine bJ (cs:=[_,_]) rfl rfl rfl ?_
 |refine bg (ys:=[_]) rfl rfl rfl (by decide) rfl ?_
 |refine gI rfl rfl ?_
 |refine Hd ?_)
 |refine He ?_
 |refine Ir ?_)
  obtain⟨h,o,rfl,q1,q2,H,N⟩:=hp0
  have N1:st2.lim=lm:=N.lim
  have q1':2≤h:=q1
  have hb0:st2.boxes 0=some (.map kv):=(N.box 0 (by show 0<2;omega)).trans hbx
  have hb1:st2.boxes 1=some (.map []):=N.box 1 (by show 1<2;omega)
  repeat' (first
 |(refine al ?_;first
 |refine mP ?_
 |refine Hd ?_)
 |refine He ?_
 |refine Hf ?_)
  refine FU l hll t s hs sz (mZ shut) kv hk (l.length+1) [] [⟨fr,now⟩] (qn l _) (by simp;omega) [] (fun n=>⟨0,rfl,rfl⟩) _ st2 h o (.slice .isnil 0 []) (.slice t' s' (shut.map (D.int .i64))) (by rw[N1];exact hlm) q1' q2 H hb0 hb1 (.inl ⟨rfl,rfl⟩) ?_ ?_ ?_ ?_ ?_ ?_ ?_ _ (fun ρ' st3 d' h' o' g1 g2 g3=>?_)
  all_goals first|rfl|skip
  have hlen:=pu (kA sz) (mZ shut) l (l.length+1) [] [⟨fr,now⟩]
  generalize uT (kA sz) (mZ shut) l (l.length+1) [] [⟨fr,now⟩]=es at*
  rcases g2 with⟨rfl,rfl⟩|⟨q,n,c,_,_,_,rfl,hne,rfl,hR⟩
  ·have hS:EvRW Γ 44 [.slice .isnil 0 [],.func 45 []] st3 (.tuple []) st3:=jg (F:=jZ 2 0 45) rfl rfl
   rw[←aa g3]
   repeat' (first
 |(refine al ?_;first
 |(refine cp rfl rfl rfl hS ?_)
 |refine mS ?_
 |refine Hd ?_)
 |refine He ?_
 |refine Ir ?_
 |refine an ?_)
   exact nh (t:=.isnil) (s:=0) rfl (.inr rfl) ⟨.inr rfl,rfl⟩
  ·obtain⟨st4,hS,hR2⟩:=Fx es hT.t2 (by simp at hlen;omega) st3 q c hR
   rw[←aa g3]
   repeat' (first
 |(refine al ?_;first
 |(refine cp rfl rfl rfl hS ?_)
 |refine mR ?_
 |refine Hd ?_)
 |refine He ?_
 |refine Ir ?_
 |refine an ?_)
   exact nh (t:=.row) (s:=2) rfl (.inl rfl) (oi (.inr rfl) rfl (by rw[List.length_map,(dp Rd.node es).length_eq]) (by decide) hR2 (fun d hd=>by
    obtain⟨e,_,rfl⟩:=List.mem_map.mp hd
    exact⟨rfl,rfl⟩))
 ·rw[decide_eq_false ha]at hA
  rw[if_neg ha]
  repeat' (first
 |(refine al ?_;first
 |refine mI ?_
 |refine mS ?_
 |refine cA rfl (hA _) ?_
 |refine nT ?_
 |refine Hd ?_)
 |refine He ?_
 |refine Ir ?_
 |refine aj rfl ?_
 |refine an ?_)
  exact nh (t:=.isnil) (s:=0) rfl (.inr rfl) ⟨.inr rfl,rfl⟩
end Go.Bes
/-
  Plain laws of the earliest times.
-/
namespace Go.Bes
theorem yW {α:Type} [DecidableEq α]:∀{l m:List α},l.Nodup→(∀x∈l,x∈m)→l.length≤m.length
 |[],m,_,_=>Nat.zero_le _
 |x::l,m,hn,hs=>by
  have hn':=List.nodup_cons.mp hn
  have hx:=hs x List.mem_cons_self
  have ih:=yW (l:=l) (m:=m.erase x) hn'.2 (fun y hy=>(List.mem_erase_of_ne (fun e:y=x=>hn'.1 (by rw[←e];exact hy))).mpr (hs y (List.mem_cons_of_mem _ hy)))
  rw[List.length_erase_of_mem hx]at ih
  have:=List.length_pos_of_mem hx
  rw[List.length_cons]
  omega
theorem fE {n u:Int}:∀{L:List Rd},cK n L=some u→⟨n,u⟩∈L
 |[],h=>by cases h
 |r::L,h=>by
  rw[cK]at h
  split at h
  ·rename_i e
   cases h
   obtain⟨a,b⟩:=r
   cases e
   exact List.mem_cons_self
  ·exact List.mem_cons_of_mem _ (fE h)
theorem rc {L:List Rd} (hn:(L.map Rd.node).Nodup) {r:Rd} (hr:r∈L):cK r.node L=some r.at':=by
 induction L with
 |nil=>cases hr
 |cons x L ih=>
  have hn':=List.nodup_cons.mp hn
  rw[cK]
  rcases List.mem_cons.mp hr with rfl|hr
  ·rw[if_pos rfl]
  ·rw[if_neg (fun e:x.node=r.node=>hn'.1 (by rw[e];exact List.mem_map.mpr ⟨r,hr,rfl⟩))]
   exact ih hn'.2 hr
section
variable {ps:Eg→Int→Option Int} {cl:Int→Bool} {l:List Eg} {fr now:Int}
theorem IsT.perm {es es':List Rd} (h:IsT ps cl l fr now es) (hp:es'.Perm es):IsT ps cl l fr now es':=
 ⟨fun x hx=>h.t1 x (hp.mem_iff.mp hx),(hp.map Rd.node).nodup_iff.mpr h.t2,fun n t hr=>by
  obtain⟨y,hy,h1⟩:=h.t3 n t hr
  exact⟨y,hp.mem_iff.mpr hy,h1⟩⟩
theorem IsT.at_ {es:List Rd} (h:IsT ps cl l fr now es) {n t:Int} (hr:Reach ps cl l fr now n t):∃u,cK n es=some u∧u≤t:=by
 obtain⟨y,hy,rfl,h2⟩:=h.t3 n t hr
 exact⟨y.at',rc h.t2 hy,h2⟩
theorem vG {n t m u:Int} (h:Reach ps cl l fr now n t) (h':Reach ps cl l n t m u):Reach ps cl l fr now m u:=by
 induction h' with
 |here=>exact h
 |go _ he hf hp hc ih=>exact .go ih he hf hp hc
theorem B8 {n t:Int} (h:Reach ps cl l fr now n t):n=fr∨cl n=false:=by
 cases h with
 |here=>exact .inl rfl
 |go _ _ _ _ hc=>exact .inr hc
end
theorem kE {sz:Int} {cl:Int→Bool} {l:List Eg} {fr now n t:Int} (hf:1≤fr∧fr≤255) (h:Reach (kA sz) cl l fr now n t):1≤n∧n≤255:=by
 cases h with
 |here=>exact hf
 |go _ _ _ hp _=>exact C4 (fS.mp hp).1
theorem s7 {sz:Int} {cl:Int→Bool} {l:List Eg} {fr now n t:Int} (hf:now≤1099511627776) (h:Reach (kA sz) cl l fr now n t):t≤1099511627776:=by
 cases h with
 |here=>exact hf
 |go _ _ _ hp _=>
  obtain⟨h1,rfl⟩:=fS.mp hp
  have:=BM h1
  omega
theorem ky {l:List Eg} {fr now sz:Int} (ha:bV l fr now sz) (shut:List Int):IsT (kA sz) (mZ shut) l fr now (ee l fr now sz shut):=by
 unfold ee
 rw[if_pos ha]
 exact(yO ha shut).perm (dp Rd.node _)
theorem Ca {l:List Eg} {fr now sz:Int} (ha:¬bV l fr now sz) (shut:List Int):ee l fr now sz shut=[]:=by
 unfold ee
 rw[if_neg ha]
theorem An {l:List Eg} {fr now sz:Int} {shut:List Int} {r:Rd} (hr:r∈ee l fr now sz shut):bV l fr now sz:=by
 by_cases ha:bV l fr now sz
 ·exact ha
 ·rw[Ca ha]at hr
  cases hr
theorem DV:∀{L:List Rd},(L.Pairwise fun a b=>a.node≤b.node)→(L.map Rd.node).Nodup→L.Pairwise fun a b=>a.node<b.node
 |[],_,_=>List.Pairwise.nil
 |x::L,h,hn=>by
  have h':=List.pairwise_cons.mp h
  have hn':=List.nodup_cons.mp hn
  refine List.pairwise_cons.mpr ⟨fun y hy=>?_,DV h'.2 hn'.2⟩
  have h1:=h'.1 y hy
  have h2:x.node≠y.node:=fun e=>hn'.1 (by rw[e];exact List.mem_map.mpr ⟨y,hy,rfl⟩)
  omega
end Go.Bes
