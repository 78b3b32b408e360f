/-
  What the heap's functions come to: one ahead of another one.
-/
import Derived.Test.YtjcilbnbciclpaaLeaLeaC
import Derived.Test.YtjcilbnbciclpaaEvEvN
import Derived.Test.YtjcilbnbciclpaaEvEvM
set_option linter.unusedVariables false
set_option linter.unusedSimpArgs false
set_option linter.unnecessarySimpa false
namespace Go.Lea
open Go.Ev
theorem yA (a:Int):EvP Γ 65 [.int .i64 a] (.bool false):=by
 refine aA rfl rfl ?_
 repeat' (first
 |(refine ai ?_;first
 |refine mI ?_
 |refine mB ?_
 |refine fC rfl rfl rfl rfl (by omega) ?_
 |refine WS_nil ?_)
 |refine WC_seq ?_
 |refine WC_opsS ?_
 |refine al ?_)
 all_goals first|exact aK (by simp) rfl rfl|(exfalso;simp_all;done)|(exfalso;omega)
def gJ (a b:Int):Int:=if a<b then -1 else if b<a then 1 else 0
theorem jG (a b:Int):EvP Γ 36 [.int .i64 a,.int .i64 b] (.int .i64 (gJ a b)):=by
 refine aA rfl rfl ?_
 repeat' (first
 |(refine ai ?_;first
 |refine mI ?_
 |refine mB ?_
 |(refine rx rfl rfl rfl rfl ?_ ?_<;>intro _)
 |(refine oU rfl rfl rfl rfl ?_ ?_<;>intro _)
 |refine cA rfl (yA _) ?_
 |refine WS_nil ?_)
 |refine WC_seq ?_
 |refine WC_opsS ?_
 |refine WC_skip ?_
 |refine ah rfl ?_
 |refine af rfl ?_
 |refine al ?_)
 all_goals refine dH (by simp) rfl ?_
 all_goals unfold gJ
 all_goals simp_all
 all_goals omega
def pN:List Int→Int
 |[]=>0
 |x::l=>if x=0 then pN l else x
theorem Bq (t:Tok) (ls:List Int) (hl:ls.length≤1073741824):∀(post pre:List Int),ls=pre++post→(∀x∈pre,x=0)→
  ∀(ρ:Nat→D) (h3:ρ 3=.int .i64 0) (h6:ρ 6=.slice t 1 (ls.map (D.int .i64))) (h7:ρ 7=.int .i64 ls.length) (h8:ρ 8=.int .i64 pre.length) (Q:X→(Nat→D)→Store→Prop),
  (pN ls=0→∀ρ',ρ' 3=.int .i64 0→Q (.exit 0) ρ' Store.empty)→(∀ρ',ρ' 2=.int .i64 (pN ls)→Q .ret ρ' Store.empty)→WC Γ (.loop iK) ρ Store.empty Q:=by
 intro post
 induction post with
 |nil=>
  intro pre hp hz ρ h3 h6 h7 h8 Q hQ hQ2
  rw[List.append_nil]at hp
  subst hp
  have:pN ls=0:=by
   clear hl h6 h7 h8 hQ hQ2
   induction ls with
   |nil=>rfl
   |cons x l ih=>rw[pN,if_pos (hz x (by simp)),ih (fun y hy=>hz y (by simp[hy]))]
  rw[←aa h3,←aa h6,←aa h7,←aa h8]
  refine WC_loop ?_
  repeat' (first
 |(refine ai ?_;first
 |refine lF ?_
 |refine WS_nil ?_)
 |refine WC_seq ?_
 |refine WC_opsS ?_
 |refine af rfl ?_
 |refine WC_exit ?_)
  exact hQ this _ rfl
 |cons x post ih=>
  intro pre hp hz ρ h3 h6 h7 h8 Q hQ hQ2
  have hv:ls[pre.length]?=some x:=by rw[hp];simp
  have hlen:ls.length=pre.length+(post.length+1):=by rw[hp];simp
  rw[←aa h3,←aa h6,←aa h7,←aa h8]
  refine WC_loop ?_
  repeat' (first
 |(refine ai ?_;first
 |refine mI ?_
 |refine lT ?_
 |(refine uN rfl rfl rfl rfl ?_ ?_<;>intro _)
 |refine aD ?_
 |refine lE (d:=.int _ _) hv ?_
 |refine kD rfl rfl rfl rfl (by first|rfl|exact qz (by assumption) (by omega)) (by first|decide|(simp only[List.length_map];omega)) ?_
 |refine WS_nil ?_)
 |refine WC_seq ?_
 |refine WC_opsS ?_
 |refine WC_skip ?_
 |refine ah rfl ?_
 |refine af rfl ?_
 |refine WC_block ?_
 |refine al ?_)
  ·rename_i hx
   exact ih (pre++[x]) (by simp[hp]) (fun y hy=>by
    rcases List.mem_append.mp hy with h|h
    ·exact hz y h
    ·rw[List.mem_singleton.mp h];exact hx) _ rfl rfl rfl (by rw[List.length_append];rfl) Q hQ hQ2
  ·rename_i hx
   refine hQ2 _ ?_
   have:pN ls=x:=by
    rw[hp]
    clear hp hl h6 h7 h8 hQ hQ2 ih hv hlen
    induction pre with
    |nil=>simp only[List.nil_append,pN];rw[if_neg hx]
    |cons y pre ih=>rw[List.cons_append,pN,if_pos (hz y (by simp)),ih (fun z hz'=>hz z (by simp[hz']))]
   rw[this]
   rfl
theorem Br (t:Tok) (ls:List Int) (hl:ls.length≤1073741824):EvP Γ 35 [.slice t 1 (ls.map (D.int .i64))] (.int .i64 (pN ls)):=by
 refine aA rfl rfl ?_
 repeat' (first
 |(refine ai ?_;first
 |refine mI ?_
 |refine mS ?_
 |refine lN ?_
 |refine WS_nil ?_)
 |refine WC_seq ?_
 |refine WC_opsS ?_
 |refine WC_block ?_)
 refine Bq t ls hl ls [] rfl (by simp) _ rfl rfl rfl rfl _ (fun h0 ρ h3=>?_) (fun ρ h2=>?_)
 ·rw[←aa h3]
  repeat' (first
 |(refine ai ?_;first
 |refine mI ?_
 |refine WS_nil ?_)
 |refine WC_seq ?_
 |refine WC_opsS ?_
 |refine al ?_)
  exact dH (by simp) rfl h0.symm
 ·exact dH (by simp) (show some (ρ 2)=_ by rw[h2]) rfl
theorem we (t:Tok) (a b:Int):EvP Γ 35 [.slice t 1 [.int .i64 a,.int .i64 b]] (.int .i64 (pN [a,b])):=Br t [a,b] (by simp)
structure Rd where
 node:Int
 at':Int
deriving DecidableEq
def Rd.e (r:Rd):D:=.agg [.int .i64 r.node,.int .i64 r.at']
def Rd.lt (a b:Rd):Prop:=a.at'<b.at'∨(a.at'=b.at'∧a.node<b.node)
instance (a b:Rd):Decidable (a.lt b):=by unfold Rd.lt;infer_instance
theorem dS {l:List Rd}:∀d∈l.map Rd.e,d.cells.length=2:=fun d hd=>by
 obtain⟨b,_,rfl⟩:=List.mem_map.mp hd;rfl
theorem qV {l:List Rd} {i:Nat} {b:Rd} (h:l[i]?=some b):(l.map Rd.e)[i]?=some (.agg [.int .i64 b.node,.int .i64 b.at']):=by
 rw[List.getElem?_map,h];rfl
theorem zo (a b:Rd):decide (pN [gJ a.at' b.at',gJ a.node b.node]<0)=decide (a.lt b):=by
 congr 1
 simp only[pN,gJ,Rd.lt,eq_iff_iff]
 repeat' split
 all_goals constructor
 all_goals intro h
 all_goals omega
theorem yJ (xs:List Rd) (hx:xs.length≤1073741824) (st:Store) (h r c i k:Nat) (a b:Rd) (hb:(st.boxes h).bind Box.cs=some [.rs r 0 2 xs.length c]) (hh:h<st.next) (hr:r<st.next) (hR:RowAt st r 2 (xs.map Rd.e)) (ha:xs[i]?=some a) (hk:xs[k]?=some b):
  EvRO Γ 71 [.ptr h 0,.int .i64 i,.int .i64 k] st (.bool (decide (a.lt b))):=by
 have hi':i<xs.length:=(List.getElem?_eq_some_iff.mp ha).1
 have hk':k<xs.length:=(List.getElem?_eq_some_iff.mp hk).1
 have ha':=qV ha
 have hb':=qV hk
 refine b9 rfl rfl rfl ?_
 repeat' (first
 |(refine ai ?_;first
 |refine mB ?_
 |refine WS_nil ?_)
 |refine WC_seq ?_
 |refine WC_opsS ?_)
 refine lh ?_
 simp only[o3,o4,o5,m3,eW,eP,Store.ahead,gj,jg,Nat.add_assoc,Nat.reduceAdd,List.length_cons,List.length_nil]
 have q1:∀{p:Nat} {x y:Option Box},p<st.next→ap (ap st.boxes (st.next+14) x) (st.next+15) y p=st.boxes p:=fun{p x y} hp=>(ab _ _ (by omega)).trans (ab _ _ (by omega))
 have q2:∀{x y:Option Box},ap (ap st.boxes (st.next+14) x) (st.next+15) y (st.next+14)=x:=fun{x y}=>(ab _ _ (by omega)).trans (ae _ _ _)
 have q3:∀{x y z:Option Box},ap (ap (ap st.boxes (st.next+14) x) (st.next+15) y) (st.next+14) z (st.next+15)=y:=fun{x y z}=>(ab _ _ (by omega)).trans (ae _ _ _)
 have q4:∀{x y z u:Option Box},ap (ap (ap (ap st.boxes (st.next+14) x) (st.next+15) y) (st.next+14) z) (st.next+15) u (st.next+14)=z:=fun{x y z u}=>(ab _ _ (by omega)).trans (ae _ _ _)
 have hb1:∀{x y:Option Box},((ap (ap st.boxes (st.next+14) x) (st.next+15) y) h).bind Box.cs=some [.rs r 0 2 xs.length c]:=fun{x y}=>by rw[q1 hh];exact hb
 generalize hN:st.next=N at*
 repeat' (first
 |(refine ai ?_;first
 |refine eG (j:=i) rfl rfl rfl rfl hi' ?_
 |refine eG (j:=k) rfl rfl rfl rfl hk' ?_
 |refine an (cs':=[_,_]) rfl rfl q2 rfl (Nat.le_add_right _ _) rfl rfl rfl ?_
 |refine an (cs':=[_,_]) rfl rfl q3 rfl (Nat.le_add_right _ _) rfl rfl rfl ?_
 |refine mI ?_
 |refine mP ?_
 |refine ez (agg:=false) (d:=.rs r 0 2 xs.length c) rfl rfl rfl hb1 hh rfl ?_
 |refine ef (j:=i) rfl rfl (hR.of (q1 hr)) (Nat.zero_add _) dS ha' rfl ?_
 |refine ef (j:=k) rfl rfl (hR.of (q1 hr)) (Nat.zero_add _) dS hb' rfl ?_
 |refine fD ?_
 |refine aQ rfl rfl ?_
 |refine WS_nil ?_))
 refine⟨?_,?_⟩
 ·rw[Bool.and_eq_true]
  have e1:(decide (h<N))=true:=by simp;omega
  have e2:(decide (r<N))=true:=by simp;omega
  have e3:(N+14==r)=false:=by simp;omega
  have e4:(N+14==h)=false:=by simp;omega
  have e5:(h==N+14)=false:=by simp;omega
  have e6:(r==N+14)=false:=by simp;omega
  have e7:(h==N+15)=false:=by simp;omega
  have e8:(r==N+15)=false:=by simp;omega
  constructor
  ·simp[bC,List.range,List.range.loop,Fl.clash,e3,e4,e5,e6,e7,e8]
  ·simp[iF,pF,List.range,List.range.loop,e1,e2]
 repeat' (first
 |(refine ai ?_;first
 |refine mB ?_
 |(refine rx rfl rfl rfl rfl ?_ ?_<;>intro _)
 |refine am (agg:=false) (d:=.int _ _) rfl rfl rfl (xZ (by omega) (dV rfl)) (Nat.le_add_right _ _) rfl ?_
 |refine am (agg:=false) (d:=.int _ _) rfl rfl rfl (dV rfl) (Nat.le_add_right _ _) rfl ?_
 |refine cA rfl (jG _ _) ?_
 |refine cA rfl (we _ _ _) ?_
 |refine fD ?_
 |refine bh (ys:=[_,_]) rfl rfl rfl (by decide) rfl ?_
 |refine WS_nil ?_)
 |refine WC_seq ?_
 |refine bq ?_
 |refine al ?_
 |refine a8 rfl ?_)
 all_goals
  rename_i hlt
  refine⟨.inr rfl,?_⟩
  rw[←zo]
  simp[hlt]
  rfl
end Go.Lea
/-
  What the heap's functions come to: a heap in memory; two change their places.
-/
namespace Go.Lea
open Go.Ev
structure HW (st:Store) (h:Nat) (o:Option Nat) (xs:List Rd):Prop where
 lim:st.lim≤h
 nx:h<st.next
 sl:(o=none∧xs=[]∧st.boxes h=some (.cells [.slice .isnil 0 []]))∨(∃r c,o=some r∧r≠h∧st.boxes h=some (.cells [.rs r 0 2 xs.length c])∧RowIs st r 2 (xs.map Rd.e)∧xs.length≤c)
theorem HW.of {st st':Store} {h:Nat} {o:Option Nat} {xs:List Rd} (H:HW st h o xs) (hl:st'.lim=st.lim) (hn:st.next≤st'.next) (hb:∀q,q<st.next→q=h∨some q=o→st'.boxes q=st.boxes q):HW st' h o xs:=by
 obtain⟨h1,h2,h3⟩:=H
 refine⟨by rw[hl];exact h1,Nat.lt_of_lt_of_le h2 hn,?_⟩
 rcases h3 with⟨e1,e2,e3⟩|⟨r,c,e1,e2,e3,e4,e5⟩
 ·exact .inl ⟨e1,e2,by rw[hb h h2 (.inl rfl)];exact e3⟩
 ·exact .inr ⟨r,c,e1,e2,by rw[hb h h2 (.inl rfl)];exact e3,e4.of (by rw[hl];exact e4.1) (Nat.lt_of_lt_of_le e4.2.1 hn) (hb r e4.2.1 (.inr e1.symm)),e5⟩
structure Fr (st st':Store) (h:Nat) (o o':Option Nat):Prop where
 lim:st'.lim=st.lim
 tlim:st'.tlim=st.tlim
 toks:st'.toks=st.toks
 ntok:st'.ntok=st.ntok
 next:st.next≤st'.next
 box:∀q,q<st.next→q≠h→some q≠o→st'.boxes q=st.boxes q
 own:o'=o∨∃r,o'=some r∧st.next≤r
theorem Fr.refl (st:Store) (h:Nat) (o:Option Nat):Fr st st h o o:=⟨rfl,rfl,rfl,rfl,Nat.le_refl _,fun _ _ _ _=>rfl,.inl rfl⟩
theorem Fr.trans {st st1 st2:Store} {h:Nat} {o o1 o2:Option Nat} (a:Fr st st1 h o o1) (b:Fr st1 st2 h o1 o2):Fr st st2 h o o2 where
 lim:=b.lim.trans a.lim
 tlim:=b.tlim.trans a.tlim
 toks:=b.toks.trans a.toks
 ntok:=b.ntok.trans a.ntok
 next:=Nat.le_trans a.next b.next
 box q hq h1 h2:=by
  refine(b.box q (Nat.lt_of_lt_of_le hq a.next) h1 (fun e=>?_)).trans (a.box q hq h1 h2)
  rcases a.own with rfl|⟨r,rfl,hr⟩
  ·exact h2 e
  ·cases e;omega
 own:=by
  rcases b.own with rfl|⟨r,rfl,hr⟩
  ·exact a.own
  ·exact .inr ⟨r,rfl,Nat.le_trans a.next hr⟩
def o9 (xs:List Rd) (i k:Nat) (a b:Rd):List Rd:=(xs.set i b).set k a
theorem zK (xs:List Rd) (hx:xs.length≤1073741824) (st:Store) (h:Nat) (o:Option Nat) (i k:Nat) (a b:Rd) (hH:HW st h o xs) (ha:xs[i]?=some a) (hk:xs[k]?=some b):
  EvRWX Γ 67 [.ptr h 0,.int .i64 i,.int .i64 k] st (fun r st'=>r=.tuple []∧HW st' h o (o9 xs i k a b)∧Fr st st' h o o):=by
 have hi':i<xs.length:=(List.getElem?_eq_some_iff.mp ha).1
 have hk':k<xs.length:=(List.getElem?_eq_some_iff.mp hk).1
 obtain⟨hlim,hnx,⟨rfl,rfl,_⟩|⟨r,c,rfl,hrh,hb,hR,hcap⟩⟩:=hH
 ·simp at hi'
 have hb1:(st.boxes h).bind Box.cs=some [.rs r 0 2 xs.length c]:=by rw[hb];rfl
 have ha':=qV ha
 have hb':=qV hk
 have hi2:i<(xs.map Rd.e).length:=by simpa using hi'
 refine bY rfl rfl ?_
 repeat' (first
 |(refine ai ?_;first
 |refine eG (j:=i) rfl rfl rfl rfl hi' ?_
 |refine eG (j:=k) rfl rfl rfl rfl hk' ?_
 |refine mI ?_
 |refine mP ?_
 |refine am (agg:=false) (d:=.rs r 0 2 xs.length c) rfl rfl rfl hb1 hlim rfl ?_
 |refine ef (j:=i) rfl rfl hR.at (Nat.zero_add _) dS ha' rfl ?_
 |refine ef (j:=k) rfl rfl hR.at (Nat.zero_add _) dS hb' rfl ?_
 |(refine j5 (j:=i) rfl rfl rfl hR (Nat.zero_add _) dS hi2 rfl rfl rfl ?_<;>intro st1 e1 e2 e3 e4 e5 hR1 hb2)
 |refine fD ?_
 |refine aQ rfl rfl ?_)
 |refine bq ?_)
 have hk2:k<((xs.map Rd.e).set i (.agg [.int .i64 b.node,.int .i64 b.at'])).length:=by simpa using hk'
 refine j5 (j:=k) rfl rfl rfl hR1 (Nat.zero_add _) ?_ hk2 rfl rfl rfl ?_
 ·intro d hd
  rcases List.mem_or_eq_of_mem_set hd with hd|rfl
  ·exact dS d hd
  ·rfl
 intro st2 f1 f2 f3 f4 f5 hR2 hb3
 have hsw:((xs.map Rd.e).set i (.agg [.int .i64 b.node,.int .i64 b.at'])).set k (.agg [.int .i64 a.node,.int .i64 a.at'])=(o9 xs i k a b).map Rd.e:=by
  simp[o9,List.map_set,Rd.e]
 rw[hsw]at hR2
 repeat' (first
 |(refine ai ?_;first
 |refine WS_nil ?_)
 |refine a8 rfl ?_)
 refine⟨.inl rfl,_,rfl,rfl,⟨by rw[f1,e1];exact hlim,by rw[f5,e5];exact hnx,.inr ⟨r,c,rfl,hrh,?_,hR2,by rw[show (o9 xs i k a b).length=xs.length by simp[o9]];exact hcap⟩⟩,⟨f1.trans e1,f2.trans e2,f3.trans e3,f4.trans e4,Nat.le_of_eq (f5.trans e5).symm,fun q hq h1 h2=>?_,.inl rfl⟩⟩
 ·rw[hb3 h (Ne.symm hrh),hb2 h (Ne.symm hrh),hb]
  simp[o9]
 ·have:q≠r:=fun e=>h2 (by rw[e])
  rw[hb3 q this,hb2 q this]
end Go.Lea
/-
  Plain laws of heaps and rows in order; no program in it.
-/
namespace Go.Lea
open Go.Ev
def b6 (xs:List Rd) (i:Nat):Rd:=xs.getD i ⟨0,0⟩
theorem dR {xs:List Rd} {i:Nat} (h:i<xs.length):xs[i]?=some (b6 xs i):=by
 simp[b6,List.getD,List.getElem?_eq_getElem h]
theorem sq {xs:List Rd} {i:Nat} {a:Rd} (h:xs[i]?=some a):b6 xs i=a:=by simp[b6,List.getD,h]
theorem dm (xs:List Rd) (i k:Nat) (a b:Rd):(o9 xs i k a b).length=xs.length:=by simp[o9]
theorem fS {xs:List Rd} {i k:Nat} (hi:i<xs.length) (hk:k<xs.length) (j:Nat):b6 (o9 xs i k (b6 xs i) (b6 xs k)) j=if j=k then b6 xs i else if j=i then b6 xs k else b6 xs j:=by
 unfold o9
 by_cases h1:j=k
 ·subst h1
  rw[if_pos rfl]
  exact sq (by rw[List.getElem?_set_self (by simpa using hk)])
 ·rw[if_neg h1]
  by_cases h2:j=i
  ·subst h2
   rw[if_pos rfl]
   exact sq (by rw[List.getElem?_set_ne (Ne.symm h1),List.getElem?_set_self hi])
  ·rw[if_neg h2]
   unfold b6 List.getD
   rw[List.getElem?_set_ne (Ne.symm h1),List.getElem?_set_ne (Ne.symm h2)]
theorem nk {xs:List Rd} {i k:Nat} (hi:i<xs.length) (hk:k<xs.length):(o9 xs i k (b6 xs i) (b6 xs k)).Perm xs:=by
 have ha:=(List.getElem?_eq_some_iff.mp (dR hi)).2
 have hb:=(List.getElem?_eq_some_iff.mp (dR hk)).2
 have:=List.set_set_perm (i:=i) (j:=k) hi hk
 rw[ha,hb]at this
 exact this
theorem lt_irrefl (a:Rd):¬a.lt a:=by unfold Rd.lt;omega
theorem kJ {a b:Rd} (h:a.lt b):¬b.lt a:=by unfold Rd.lt at*;omega
theorem lf {a b c:Rd} (h:¬b.lt a) (h':¬c.lt b):¬c.lt a:=by unfold Rd.lt at*;omega
theorem A1 {a b c:Rd} (h:a.lt b) (h':¬c.lt b):¬c.lt a:=by unfold Rd.lt at*;omega
theorem rp {a b:Rd} (h:¬a.lt b) (h':¬b.lt a):a=b:=by
 obtain⟨n,t⟩:=a
 obtain⟨m,u⟩:=b
 unfold Rd.lt at*
 simp only at*
 have:t=u:=by omega
 have:n=m:=by omega
 subst_vars
 rfl
def hp (xs:List Rd):Prop:=∀j,0<j→j<xs.length→¬(b6 xs j).lt (b6 xs ((j - 1) / 2))
def vC (k:Nat) (xs:List Rd):Prop:=(∀j,0<j→j<xs.length→(j - 1) / 2≠k→¬(b6 xs j).lt (b6 xs ((j - 1) / 2)))∧(∀j,0<j→j<xs.length→(j - 1) / 2=k→0<k→¬(b6 xs j).lt (b6 xs ((k - 1) / 2)))
def AU (k:Nat) (xs:List Rd):Prop:=(∀j,0<j→j<xs.length→j≠k→¬(b6 xs j).lt (b6 xs ((j - 1) / 2)))∧(∀j,0<j→j<xs.length→(j - 1) / 2=k→0<k→¬(b6 xs j).lt (b6 xs ((k - 1) / 2)))
def oT (xs:List Rd) (l b:Nat):Nat:=if b<xs.length∧(b6 xs b).lt (b6 xs l)then b else l
theorem oL {xs:List Rd} {k:Nat} (h:vC k xs) (he:oT xs (oT xs k (2*k+1)) (2*k+2)=k):hp xs:=by
 intro j h0 hj
 by_cases hp:(j - 1) / 2=k
 ·have hjk:j=2*k+1∨j=2*k+2:=by omega
  rw[hp]
  unfold oT at he
  intro hlt
  by_cases c1:2*k+1<xs.length∧(b6 xs (2*k+1)).lt (b6 xs k)
  ·rw[if_pos c1]at he
   split at he<;>omega
  ·rw[if_neg c1]at he
   rcases hjk with rfl|rfl
   ·exact c1 ⟨hj,hlt⟩
   ·rw[if_pos ⟨hj,hlt⟩]at he
    omega
 ·exact h.1 j h0 hj hp
theorem uY {xs:List Rd} {k l:Nat} (h:vC k xs) (hk:k<xs.length) (hl:oT xs (oT xs k (2*k+1)) (2*k+2)=l) (hne:l≠k):k<l∧l<xs.length∧vC l (o9 xs k l (b6 xs k) (b6 xs l)):=by
 have key:(l=2*k+1∨l=2*k+2)∧l<xs.length∧(b6 xs l).lt (b6 xs k)∧∀j,j<xs.length→(j=2*k+1∨j=2*k+2)→¬(b6 xs j).lt (b6 xs l):=by
  unfold oT at hl
  by_cases c1:2*k+1<xs.length∧(b6 xs (2*k+1)).lt (b6 xs k)
  ·rw[if_pos c1]at hl
   by_cases c2:2*k+2<xs.length∧(b6 xs (2*k+2)).lt (b6 xs (2*k+1))
   ·rw[if_pos c2]at hl
    subst hl
    refine⟨.inr rfl,c2.1,?_,fun j hj hjj=>?_⟩
    ·have:=c1.2;have:=c2.2;unfold Rd.lt at*;omega
    ·rcases hjj with rfl|rfl
     ·exact kJ c2.2
     ·exact lt_irrefl _
   ·rw[if_neg c2]at hl
    subst hl
    refine⟨.inl rfl,c1.1,c1.2,fun j hj hjj=>?_⟩
    rcases hjj with rfl|rfl
    ·exact lt_irrefl _
    ·exact fun h=>c2 ⟨hj,h⟩
  ·rw[if_neg c1]at hl
   by_cases c2:2*k+2<xs.length∧(b6 xs (2*k+2)).lt (b6 xs k)
   ·rw[if_pos c2]at hl
    subst hl
    refine⟨.inr rfl,c2.1,c2.2,fun j hj hjj=>?_⟩
    rcases hjj with rfl|rfl
    ·intro hlt
     refine c1 ⟨hj,?_⟩
     have:=c2.2;unfold Rd.lt at*;omega
    ·exact lt_irrefl _
   ·rw[if_neg c2]at hl
    exact absurd hl.symm hne
 obtain⟨k1,k2,k3,k4⟩:=key
 refine⟨by omega,k2,?_,?_⟩
 ·intro j h0 hj hjp
  rw[dm]at hj
  rw[fS hk k2,fS hk k2]
  by_cases e1:j=l
  ·have:(j - 1) / 2=k:=by omega
   rw[if_pos e1,this,if_neg (by omega),if_pos rfl]
   exact kJ k3
  ·rw[if_neg e1]
   by_cases e2:j=k
   ·subst e2
    rw[if_pos rfl,if_neg (by omega),if_neg (by omega)]
    exact h.2 l (by omega) k2 (by omega) h0
   ·rw[if_neg e2]
    by_cases e3:(j - 1) / 2=k
    ·rw[e3,if_neg (by omega),if_pos rfl]
     exact k4 j hj (by omega)
    ·rw[if_neg hjp,if_neg e3]
     exact h.1 j h0 hj e3
 ·intro j h0 hj hjp hl0
  rw[dm]at hj
  rw[fS hk k2,fS hk k2]
  have e:(l - 1) / 2=k:=by omega
  rw[e,if_neg (by omega),if_neg (by omega),if_neg (by omega),if_pos rfl]
  have:=h.1 j h0 hj (by omega)
  rw[hjp]at this
  exact this
theorem p9 {xs:List Rd} {k:Nat} (h:AU k xs) (he:k=0∨¬(b6 xs k).lt (b6 xs ((k - 1) / 2))):hp xs:=by
 intro j h0 hj
 by_cases e:j=k
 ·subst e
  rcases he with he|he
  ·omega
  ·exact he
 ·exact h.1 j h0 hj e
theorem yH {xs:List Rd} {k:Nat} (h:AU k xs) (hk:k<xs.length) (h0:0<k) (hlt:(b6 xs k).lt (b6 xs ((k - 1) / 2))):AU ((k - 1) / 2) (o9 xs k ((k - 1) / 2) (b6 xs k) (b6 xs ((k - 1) / 2))):=by
 have ha:(k - 1) / 2<xs.length:=by omega
 refine⟨fun j j0 hj hja=>?_,fun j j0 hj hjp ha0=>?_⟩
 ·rw[dm]at hj
  rw[fS hk ha,fS hk ha]
  rw[if_neg hja]
  by_cases e1:j=k
  ·subst e1
   rw[if_pos rfl,if_pos rfl]
   exact kJ hlt
  ·rw[if_neg e1]
   by_cases e2:(j - 1) / 2=(k - 1) / 2
   ·rw[if_pos e2]
    have:=h.1 j j0 hj e1
    rw[e2]at this
    exact A1 hlt this
   ·rw[if_neg e2]
    by_cases e3:(j - 1) / 2=k
    ·rw[if_pos e3]
     exact h.2 j j0 hj e3 h0
    ·rw[if_neg e3]
     exact h.1 j j0 hj e1
 ·rw[dm]at hj
  rw[fS hk ha,fS hk ha]
  have h1:=h.1 ((k - 1) / 2) ha0 ha (by omega)
  rw[if_neg (show¬j=(k - 1) / 2 by omega)]
  rw[if_neg (show¬((k - 1) / 2 - 1) / 2=(k - 1) / 2 by omega),if_neg (show¬((k - 1) / 2 - 1) / 2=k by omega)]
  by_cases e1:j=k
  ·rw[if_pos e1]
   exact h1
  ·rw[if_neg e1]
   have h2:=h.1 j j0 hj e1
   rw[hjp]at h2
   exact lf h1 h2
theorem uE {xs:List Rd} {r:Rd} {j:Nat} (h:j<xs.length):b6 (xs++[r]) j=b6 xs j:=by
 unfold b6 List.getD
 rw[List.getElem?_append_left h]
theorem wS {xs:List Rd} (r:Rd) (h:hp xs):AU xs.length (xs++[r]):=by
 refine⟨fun j h0 hj hne=>?_,fun j h0 hj hjp _=>?_⟩
 ·simp at hj
  rw[uE (by omega),uE (by omega)]
  exact h j h0 (by omega)
 ·simp at hj
  omega
theorem qD {xs:List Rd} {n j:Nat} (h:j<n):b6 (xs.take n) j=b6 xs j:=by
 unfold b6 List.getD
 rw[List.getElem?_take_of_lt h]
theorem xV {xs:List Rd} (h:hp xs) (h0:0<xs.length):vC 0 ((o9 xs 0 (xs.length - 1) (b6 xs 0) (b6 xs (xs.length - 1))).take (xs.length - 1)):=by
 have hl:xs.length - 1<xs.length:=by omega
 refine⟨fun j j0 hj hjp=>?_,fun j _ _ _ h=>absurd h (Nat.lt_irrefl 0)⟩
 rw[List.length_take,dm]at hj
 rw[qD (by omega),qD (by omega),fS h0 hl,fS h0 hl]
 rw[if_neg (by omega),if_neg (by omega),if_neg (by omega),if_neg hjp]
 exact h j j0 (by omega)
theorem xD {xs:List Rd} (h0:0<xs.length):xs.Perm (b6 xs 0::(o9 xs 0 (xs.length - 1) (b6 xs 0) (b6 xs (xs.length - 1))).take (xs.length - 1)):=by
 have hl:xs.length - 1<xs.length:=by omega
 have hp:=nk h0 hl
 generalize hz:o9 xs 0 (xs.length - 1) (b6 xs 0) (b6 xs (xs.length - 1))=zs at*
 have hlen:zs.length=xs.length:=by rw[←hz,dm]
 have hlast:b6 zs (xs.length - 1)=b6 xs 0:=by rw[←hz,fS h0 hl,if_pos rfl]
 have e:zs=zs.take (xs.length - 1)++[b6 xs 0]:=by
  apply List.ext_getElem?
  intro j
  by_cases h1:j<xs.length - 1
  ·rw[List.getElem?_append_left (by rw[List.length_take];omega),List.getElem?_take_of_lt h1]
  ·by_cases h2:j=xs.length - 1
   ·rw[List.getElem?_append_right (by rw[List.length_take];omega),h2,dR (by omega),hlast]
    simp[hlen]
   ·rw[List.getElem?_eq_none (by omega),List.getElem?_eq_none (by simp;omega)]
 refine hp.symm.trans ?_
 conv=>lhs;rw[e]
 exact List.perm_append_comm
theorem zb {xs:List Rd} (h:hp xs):∀j,j<xs.length→¬(b6 xs j).lt (b6 xs 0):=by
 intro j
 induction j using Nat.strongRecOn with
 |_ j ih=>
  intro hj
  by_cases e:j=0
  ·rw[e];exact lt_irrefl _
  ·exact lf (ih ((j - 1) / 2) (by omega) (by omega)) (h j (by omega) hj)
/-! ### Rows in order -/
def vw (r:Rd):List Rd→List Rd
 |[]=>[r]
 |x::s=>if x.lt r then x::vw r s else r::x::s
def jN (l:List Rd):List Rd:=l.foldl (fun s r=>vw r s) []
def xz:List Rd→Prop
 |[]=>True
 |x::s=>(∀y∈s,¬y.lt x)∧xz s
theorem gz (r:Rd):∀s,(vw r s).Perm (r::s)
 |[]=>List.Perm.refl _
 |x::s=>by
  unfold vw
  split
  ·exact(List.Perm.cons x (gz r s)).trans (List.Perm.swap r x s)
  ·exact List.Perm.refl _
theorem pt (r:Rd):∀s,xz s→xz (vw r s)
 |[],_=>⟨fun y hy=>by simp at hy,trivial⟩
 |x::s,h=>by
  unfold vw
  split
  ·rename_i hx
   refine⟨fun y hy=>?_,pt r s h.2⟩
   rcases List.mem_cons.mp ((gz r s).mem_iff.mp hy)with rfl|hy
   ·exact kJ hx
   ·exact h.1 y hy
  ·rename_i hx
   refine⟨fun y hy=>?_,h⟩
   rcases List.mem_cons.mp hy with rfl|hy
   ·exact hx
   ·exact lf hx (h.1 y hy)
theorem vp (l:List Rd):(jN l).Perm l:=by
 have:∀(l s:List Rd),(l.foldl (fun s r=>vw r s) s).Perm (l++s):=by
  intro l
  induction l with
  |nil=>intro s;exact List.Perm.refl _
  |cons x l ih=>
   intro s
   refine(ih (vw x s)).trans ?_
   refine((gz x s).append_left l).trans ?_
   exact List.perm_middle
 simpa[jN]using this l []
end Go.Lea
/-
  What the heap's functions come to: one sinks; the first one is taken.
-/
namespace Go.Lea
open Go.Ev
theorem Bl (j:Nat):bE (.int .i64 (j:Int))=some j:=by simp[bE]
theorem HW.len_ {st:Store} {h:Nat} {o:Option Nat} {xs:List Rd} (H:HW st h o xs):∃sl,(st.boxes h).bind Box.cs=some [sl]∧sl.strip1=sl∧((xs=[]∧sl=.slice .isnil 0 [])∨∃r c,o=some r∧sl=.rs r 0 2 xs.length c∧RowAt st r 2 (xs.map Rd.e)∧r<st.next∧r≠h):=by
 obtain⟨hlim,hnx,⟨rfl,rfl,hb⟩|⟨r,c,rfl,hrh,hb,hR,_⟩⟩:=H
 ·exact⟨_,by rw[hb];rfl,rfl,.inl ⟨rfl,rfl⟩⟩
 ·exact⟨_,by rw[hb];rfl,rfl,.inr ⟨r,c,rfl,rfl,hR.at,hR.2.1,hrh⟩⟩
theorem A4 (xs:List Rd) (hx:xs.length≤1073741824) (st:Store) (h:Nat) (o:Option Nat) (hH:HW st h o xs):EvRO Γ 40 [.ptr h 0] st (.int .i64 xs.length):=by
 have hh:=hH.nx
 obtain⟨sl,hb,_,⟨rfl,rfl⟩|⟨r,c,rfl,rfl,_⟩⟩:=hH.len_
 ·refine b9 rfl rfl rfl ?_
  repeat' (first
 |(refine ai ?_;first
 |refine mI ?_
 |refine mP ?_
 |refine ez (agg:=false) (d:=.slice .isnil 0 []) rfl rfl rfl hb hh rfl ?_
 |refine mb rfl rfl rfl ?_
 |refine fD ?_
 |refine aQ rfl rfl ?_
 |refine WS_nil ?_)
 |refine WC_seq ?_
 |refine WC_opsS ?_
 |refine al ?_)
  exact⟨.inr rfl,rfl⟩
 ·refine b9 rfl rfl rfl ?_
  repeat' (first
 |(refine ai ?_;first
 |refine mI ?_
 |refine mP ?_
 |refine ez (agg:=false) (d:=.rs r 0 2 xs.length c) rfl rfl rfl hb hh rfl ?_
 |refine eJ rfl rfl rfl ?_
 |refine fD ?_
 |refine aQ rfl rfl ?_
 |refine WS_nil ?_)
 |refine WC_seq ?_
 |refine WC_opsS ?_
 |refine al ?_)
  exact⟨.inr rfl,rfl⟩
theorem Ab (xs:List Rd) (hx:xs.length≤1073741824) (st:Store) (h:Nat) (o:Option Nat) (hH:HW st h o xs):EvRO Γ 66 [.ptr h 0] st (.tuple [(b6 xs 0).e,.bool (decide (0<xs.length))]):=by
 have hh:=hH.nx
 have hne:h≠st.next:=Nat.ne_of_lt hh
 obtain⟨sl,hb,_,⟨rfl,rfl⟩|⟨r,c,rfl,rfl,hR,hr,hrh⟩⟩:=hH.len_
 ·refine b9 rfl rfl rfl ?_
  repeat' (first
 |(refine ai ?_;first
 |refine an (cs':=[_,_]) rfl rfl (ae _ _ _) rfl (Nat.le_refl _) rfl rfl rfl ?_
 |refine mB ?_
 |refine mP ?_
 |refine fK rfl rfl rfl rfl (by omega) ?_
 |refine ez (agg:=false) (d:=.slice .isnil 0 []) rfl rfl rfl (xZ hne hb) hh rfl ?_
 |refine am (agg:=true) (d:=.agg [_,_]) rfl rfl rfl (dV rfl) (Nat.le_refl _) rfl ?_
 |refine mb rfl rfl rfl ?_
 |refine fD ?_
 |refine aQ rfl rfl ?_
 |refine aq rfl rfl ?_
 |refine WS_nil ?_)
 |refine WC_seq ?_
 |refine WC_opsS ?_
 |refine ah rfl ?_
 |refine al ?_)
  refine⟨.inr rfl,?_⟩
  simp[aB,lB,bt,ap,Store.cellsAt,Box.cs,cut,nY,D.free,D.free1,dG,aG,aM,D.strip,D.strip1,b6,Rd.e,Box.set]
 ·have hne2:r≠st.next:=Nat.ne_of_lt hr
  by_cases h0:xs=[]
  ·subst h0
   refine b9 rfl rfl rfl ?_
   repeat' (first
 |(refine ai ?_;first
 |refine an (cs':=[_,_]) rfl rfl (ae _ _ _) rfl (Nat.le_refl _) rfl rfl rfl ?_
 |refine mB ?_
 |refine mP ?_
 |refine fK rfl rfl rfl rfl (by omega) ?_
 |refine ez (agg:=false) (d:=.rs r 0 2 0 c) rfl rfl rfl (xZ hne hb) hh rfl ?_
 |refine am (agg:=true) (d:=.agg [_,_]) rfl rfl rfl (dV rfl) (Nat.le_refl _) rfl ?_
 |refine eJ rfl rfl rfl ?_
 |refine fD ?_
 |refine aQ rfl rfl ?_
 |refine aq rfl rfl ?_
 |refine WS_nil ?_)
 |refine WC_seq ?_
 |refine WC_opsS ?_
 |refine ah rfl ?_
 |refine al ?_)
   refine⟨.inr rfl,?_⟩
   simp[aB,lB,bt,ap,Store.cellsAt,Box.cs,cut,nY,D.free,D.free1,dG,aG,aM,D.strip,D.strip1,b6,Rd.e,Box.set]
  ·have hl:0<xs.length:=List.length_pos_iff.mpr h0
   have hv:=qV (dR hl)
   refine b9 rfl rfl rfl ?_
   repeat' (first
 |(refine ai ?_;first
 |refine eG (j:=0) rfl rfl rfl rfl hl ?_
 |refine an (cs':=[_,_]) rfl rfl (ae _ _ _) rfl (Nat.le_refl _) rfl rfl rfl ?_
 |refine mB ?_
 |refine mP ?_
 |refine dz rfl rfl rfl rfl (by omega) ?_
 |refine ez (agg:=false) (d:=.rs r 0 2 xs.length c) rfl rfl rfl (xZ hne hb) hh rfl ?_
 |refine ef (j:=0) rfl rfl (hR.of (ab _ _ hne2)) rfl dS hv rfl ?_
 |refine eJ rfl rfl rfl ?_
 |refine fD ?_
 |refine aQ rfl rfl ?_
 |refine aq rfl rfl ?_
 |refine WS_nil ?_)
 |refine WC_seq ?_
 |refine WC_opsS ?_
 |refine WC_skip ?_
 |refine af rfl ?_
 |refine al ?_)
   refine⟨.inr rfl,?_⟩
   simp[aB,lB,bt,ap,Store.cellsAt,Box.cs,cut,nY,D.free,D.free1,dG,aG,aM,D.strip,D.strip1,Rd.e,Box.set,hl,h0]
theorem rI {st:Store} {h:Nat} {o:Option Nat} {xs:List Rd} (hH:HW st h o xs) (hx:xs.length≤1073741824) {i k:Nat} (hi:i<xs.length) (hk:k<xs.length):EvRO Γ 71 [.ptr h 0,.int .i64 i,.int .i64 k] st (.bool (decide ((b6 xs i).lt (b6 xs k)))):=by
 obtain⟨sl,hb,_,⟨rfl,rfl⟩|⟨r,c,rfl,rfl,hR,hr,hrh⟩⟩:=hH.len_
 ·simp at hi
 ·exact yJ xs hx st h r c i k _ _ hb hH.nx hr hR (dR hi) (dR hk)
theorem me {st:Store} {h:Nat} {o:Option Nat} {xs:List Rd} (hH:HW st h o xs) (hx:xs.length≤1073741824) (k j l b b1 b2:Nat) (hj:(j=0∧b=b1)∨(j=1∧b=b2)) (hl:l<xs.length∨xs.length≤b) (ρ:Nat→D)
  (h0:ρ 0=.ptr h 0) (h1:ρ 1=.int .i64 k) (h4:ρ 4=.int .i64 l) (h14:ρ 14=.agg [.int .i64 b1,.int .i64 b2]) (h15:ρ 15=.int .i64 j) (Q:X→(Nat→D)→Store→Prop)
  (hQ:∀ρ',ρ' 0=.ptr h 0→ρ' 1=.int .i64 k→ρ' 4=.int .i64 (oT xs l b:Nat)→ρ' 14=.agg [.int .i64 b1,.int .i64 b2]→ρ' 15=.int .i64 (j+1:Nat)→WC Γ (.loop dc) ρ' st Q):WC Γ (.loop dc) ρ st Q:=by
 have hnx:=hH.nx
 have hlim:=hH.lim
 obtain⟨sl,hb,_,hsl⟩:=hH.len_
 have hc:∀i,j=i→cut false 1 (i*1) [D.int .i64 b1,.int .i64 b2]=some (.int .i64 (b:Nat)):=fun i hi=>by
  subst hi
  rcases hj with⟨rfl,rfl⟩|⟨rfl,rfl⟩<;>rfl
 have hj2:j<2:=by omega
 rw[←aa h0,←aa h1,←aa h4,←aa h14,←aa h15]
 refine WC_loop ?_
 rcases hsl with⟨rfl,rfl⟩|⟨r,c,rfl,rfl,hR,hr,hrh⟩
 ·repeat' (first
 |(refine ai ?_;first
 |refine nV (agg:=false) (j:=j) rfl rfl rfl (Bl j) hj2 (hc j rfl) ?_
 |refine aj rfl ?_
 |refine mI ?_
 |refine mB ?_
 |refine mP ?_
 |refine lT ?_
 |refine lF ?_
 |refine aD ?_
 |refine am (agg:=false) (d:=.slice .isnil 0 []) rfl rfl rfl hb hlim rfl ?_
 |refine aj rfl ?_
 |refine pB ?_
 |refine mb rfl rfl rfl ?_
 |refine fD ?_
 |refine aQ rfl rfl ?_
 |refine WS_nil ?_)
 |refine WC_seq ?_
 |refine WC_opsS ?_
 |refine WC_skip ?_
 |refine ah rfl ?_
 |refine af rfl ?_
 |refine WC_block ?_)
  have e:oT [] l b=l:=if_neg (fun h=>by simp at h)
  exact hQ _ rfl rfl (by rw[e];rfl) rfl rfl
 ·by_cases hbx:b<xs.length
  ·have ha:=rI hH hx hbx (by omega:l<xs.length)
   repeat' (first
 |(refine ai ?_;first
 |refine nV (agg:=false) (j:=j) rfl rfl rfl (Bl j) hj2 (hc j rfl) ?_
 |refine mI ?_
 |refine mB ?_
 |refine mP ?_
 |refine lT ?_
 |refine aD ?_
 |refine am (agg:=false) (d:=.rs r 0 2 xs.length c) rfl rfl rfl hb hlim rfl ?_
 |(refine ld rfl rfl rfl ha rfl ?_ ?_<;>intro _)
 |refine pB ?_
 |refine eJ rfl rfl rfl ?_
 |refine fD ?_
 |refine aQ rfl rfl ?_
 |refine WS_nil ?_)
 |refine WC_seq ?_
 |refine WC_opsS ?_
 |refine WC_skip ?_
 |refine ah rfl ?_
 |refine af rfl ?_
 |refine WC_block ?_)
   ·rename_i hlt
    have e:oT xs l b=b:=if_pos ⟨hbx,of_decide_eq_true hlt⟩
    exact hQ _ rfl rfl (by rw[e];rfl) rfl rfl
   ·rename_i hlt
    have e:oT xs l b=l:=if_neg (fun h=>of_decide_eq_false hlt h.2)
    exact hQ _ rfl rfl (by rw[e];rfl) rfl rfl
  ·repeat' (first
 |(refine ai ?_;first
 |refine nV (agg:=false) (j:=j) rfl rfl rfl (Bl j) hj2 (hc j rfl) ?_
 |refine aj rfl ?_
 |refine mI ?_
 |refine mB ?_
 |refine mP ?_
 |refine lT ?_
 |refine lF ?_
 |refine aD ?_
 |refine am (agg:=false) (d:=.rs r 0 2 xs.length c) rfl rfl rfl hb hlim rfl ?_
 |refine aj rfl ?_
 |refine pB ?_
 |refine eJ rfl rfl rfl ?_
 |refine fD ?_
 |refine aQ rfl rfl ?_
 |refine WS_nil ?_)
 |refine WC_seq ?_
 |refine WC_opsS ?_
 |refine WC_skip ?_
 |refine ah rfl ?_
 |refine af rfl ?_
 |refine WC_block ?_)
   have e:oT xs l b=l:=if_neg (fun h=>hbx h.1)
   exact hQ _ rfl rfl (by rw[e];rfl) rfl rfl
theorem An {xs:List Rd} {l b:Nat} (h:l<xs.length):oT xs l b<xs.length:=by
 unfold oT
 split
 ·rename_i h1;exact h1.1
 ·exact h
theorem s4 {st:Store} {h:Nat} {o:Option Nat} {xs:List Rd} (hx:xs.length≤1073741824) (hH:HW st h o xs) {i k:Nat} (hi:i<xs.length) (hk:k<xs.length):
  EvRWX Γ 67 [.ptr h 0,.int .i64 i,.int .i64 k] st (fun r st'=>r=.tuple []∧HW st' h o (o9 xs i k (b6 xs i) (b6 xs k))∧Fr st st' h o o):=zK xs hx st h o i k _ _ hH (dR hi) (dR hk)
theorem Af (h:Nat) (o:Option Nat):∀(m k:Nat) (xs:List Rd) (st:Store),xs.length≤m+k→k≤xs.length→xs.length≤1073741824→HW st h o xs→vC k xs→
  EvRWX Γ 68 [.ptr h 0,.int .i64 k] st (fun r st'=>r=.tuple []∧∃ys,HW st' h o ys∧hp ys∧ys.Perm xs∧Fr st st' h o o):=by
 intro m
 induction m with
 |zero=>
  intro k xs st hm hk hx hH hX
  have hke:k=xs.length:=by omega
  have e1:oT xs k (2*k+1)=k:=if_neg (fun h=>by omega)
  have e2:oT xs k (2*k+2)=k:=if_neg (fun h=>by omega)
  refine bY rfl rfl ?_
  repeat' (first
 |(refine ai ?_;first
 |refine mI ?_
 |refine aD ?_
 |refine y7 rfl rfl rfl rfl (by first|exact rV (by omega)|rfl) ?_
 |refine bi (cs:=[_,_]) rfl rfl rfl ?_
 |refine WS_nil ?_)
 |refine WC_seq ?_
 |refine WC_opsS ?_
 |refine WC_block ?_)
  refine me hH hx k 0 k (2*k+1) (2*k+1) (2*k+2) (.inl ⟨rfl,rfl⟩) (by omega) _ ?_ ?_ ?_ ?_ ?_ _ (fun ρ1 a0 a1 a4 a14 a15=>?_)
  ·rfl
  ·rfl
  ·rfl
  ·rfl
  ·rfl
  rw[e1]at a4
  refine me hH hx k 1 k (2*k+2) (2*k+1) (2*k+2) (.inr ⟨rfl,rfl⟩) (by omega) _ a0 a1 a4 a14 a15 _ (fun ρ2 b0 b1 b4 b14 b15=>?_)
  rw[e2]at b4
  rw[←aa b0,←aa b1,←aa b4,←aa b14,←aa b15]
  refine WC_loop ?_
  repeat' (first
 |(refine ai ?_;first
 |refine mI ?_
 |refine lF ?_
 |refine fC rfl rfl rfl rfl (by omega) ?_
 |refine WS_nil ?_)
 |refine WC_seq ?_
 |refine WC_opsS ?_
 |refine WC_skip ?_
 |refine af rfl ?_
 |refine WC_exit ?_)
  exact⟨.inl rfl,_,rfl,rfl,xs,hH,oL hX (by rw[e1,e2]),List.Perm.refl _,Fr.refl _ _ _⟩
 |succ m ih=>
  intro k xs st hm hk hx hH hX
  refine bY rfl rfl ?_
  repeat' (first
 |(refine ai ?_;first
 |refine mI ?_
 |refine aD ?_
 |refine y7 rfl rfl rfl rfl (by first|exact rV (by omega)|rfl) ?_
 |refine bi (cs:=[_,_]) rfl rfl rfl ?_
 |refine WS_nil ?_)
 |refine WC_seq ?_
 |refine WC_opsS ?_
 |refine WC_block ?_)
  refine me hH hx k 0 k (2*k+1) (2*k+1) (2*k+2) (.inl ⟨rfl,rfl⟩) (by omega) _ ?_ ?_ ?_ ?_ ?_ _ (fun ρ1 a0 a1 a4 a14 a15=>?_)
  ·rfl
  ·rfl
  ·rfl
  ·rfl
  ·rfl
  refine me hH hx k 1 (oT xs k (2*k+1)) (2*k+2) (2*k+1) (2*k+2) (.inr ⟨rfl,rfl⟩) ?_ _ a0 a1 a4 a14 a15 _ (fun ρ2 b0 b1 b4 b14 b15=>?_)
  ·by_cases hk':k<xs.length
   ·exact .inl (An hk')
   ·exact .inr (by omega)
  generalize hl:oT xs (oT xs k (2*k+1)) (2*k+2)=l at b4
  rw[←aa b0,←aa b1,←aa b4,←aa b14,←aa b15]
  refine WC_loop ?_
  by_cases hlk:l=k
  ·subst hlk
   repeat' (first
 |(refine ai ?_;first
 |refine mI ?_
 |refine lF ?_
 |refine fC rfl rfl rfl rfl (by omega) ?_
 |refine WS_nil ?_)
 |refine WC_seq ?_
 |refine WC_opsS ?_
 |refine WC_skip ?_
 |refine af rfl ?_
 |refine WC_exit ?_)
   exact⟨.inl rfl,_,rfl,rfl,xs,hH,oL hX hl,List.Perm.refl _,Fr.refl _ _ _⟩
  ·by_cases hk':k<xs.length
   ·obtain⟨d1,d2,d3⟩:=uY hX hk' hl hlk
    have hsw:=s4 hx hH hk' d2
    have hlk':¬(l:Int)=k:=by omega
    repeat' (first
 |(refine ai ?_;first
 |refine mI ?_
 |refine mP ?_
 |refine lF ?_
 |refine hG rfl rfl rfl rfl (by omega) ?_
 |(refine dF rfl rfl rfl hsw ?_<;>intro r1 st1 hp1)
 |refine WS_nil ?_)
 |refine WC_seq ?_
 |refine WC_opsS ?_
 |refine ah rfl ?_
 |refine af rfl ?_
 |refine WC_exit ?_)
    obtain⟨rfl,hH1,hF1⟩:=hp1
    have hrec:=ih l _ st1 (by rw[dm];omega) (by rw[dm];omega) (by rw[dm];exact hx) hH1 d3
    repeat' (first
 |(refine ai ?_;first
 |(refine dF rfl rfl rfl hrec ?_<;>intro r2 st2 hp2)
 |refine WS_nil ?_))
    obtain⟨rfl,ys,hH2,hhp,hperm,hF2⟩:=hp2
    exact⟨.inl rfl,_,rfl,rfl,ys,hH2,hhp,hperm.trans (nk hk' d2),hF1.trans hF2⟩
   ·exfalso
    apply hlk
    rw[←hl]
    have e1:oT xs k (2*k+1)=k:=if_neg (fun h=>by omega)
    have e2:oT xs k (2*k+2)=k:=if_neg (fun h=>by omega)
    rw[e1,e2]
end Go.Lea
/-
  What the heap's functions come to: one more is laid; the first one is taken.
-/
namespace Go.Lea
open Go.Ev
theorem Ba (k:Nat) (h:k≤1073741824):IntKind.i64.wrap ((k:Int).tdiv 2)=((k / 2:Nat):Int):=by
 have e:(k:Int).tdiv 2=((k / 2:Nat):Int):=rfl
 rw[e]
 exact rV (by omega)
theorem Bn (h:Nat) (o:Option Nat) (Q:X→(Nat→D)→Store→Prop):∀(m k:Nat) (xs:List Rd) (st:Store) (ρ:Nat→D),k≤m→k<xs.length→xs.length≤1073741824→HW st h o xs→AU k xs→ρ 0=.ptr h 0→ρ 4=.int .i64 k→
  (∀ρ' st' ys,HW st' h o ys→hp ys→ys.Perm xs→Fr st st' h o o→Q .normal ρ' st')→
  WC Γ aR ρ st (fun x ρ1 st1=>match x with| .goto l'=>l'=0∧WC Γ (.again 0 aR) ρ1 st1 Q|x=>Q x ρ1 st1):=by
 intro m
 induction m with
 |zero=>
  intro k xs st ρ hm hk hx hH hU h0 h4 hQ
  have hk0:k=0:=by omega
  subst hk0
  have h4':ρ 4=.int .i64 0:=h4
  rw[←aa h0,←aa h4']
  unfold aR
  repeat' (first
 |(refine ai ?_;first
 |refine aj rfl ?_
 |refine mI ?_
 |refine mB ?_
 |refine gF ?_
 |refine aS ?_
 |refine rO rfl rfl rfl rfl (by omega) rfl ?_
 |refine aj rfl ?_
 |refine pB ?_
 |refine WS_nil ?_)
 |refine WC_seq ?_
 |refine WC_opsS ?_
 |refine WC_skip ?_
 |refine af rfl ?_)
  exact hQ _ _ xs hH (p9 hU (.inl rfl)) (List.Perm.refl _) (Fr.refl _ _ _)
 |succ m ih=>
  intro k xs st ρ hm hk hx hH hU h0 h4 hQ
  cases k with
  |zero=>
   have h4':ρ 4=.int .i64 0:=h4
   rw[←aa h0,←aa h4']
   unfold aR
   repeat' (first
 |(refine ai ?_;first
 |refine aj rfl ?_
 |refine mI ?_
 |refine mB ?_
 |refine gF ?_
 |refine aS ?_
 |refine rO rfl rfl rfl rfl (by omega) rfl ?_
 |refine aj rfl ?_
 |refine pB ?_
 |refine WS_nil ?_)
 |refine WC_seq ?_
 |refine WC_opsS ?_
 |refine WC_skip ?_
 |refine af rfl ?_)
   exact hQ _ _ xs hH (p9 hU (.inl rfl)) (List.Perm.refl _) (Fr.refl _ _ _)
  |succ k=>
   have hak:k / 2<xs.length:=by omega
   have ha:=rI hH hx hk hak
   have h4':ρ 4=.int .i64 ((k:Int)+1):=h4
   have hsub:IntKind.i64.wrap ((k:Int)+1 - 1)=(k:Int):=by rw[Int.add_sub_cancel];exact rV (by omega)
   have hpar:(k+1 - 1) / 2=k / 2:=by omega
   rw[←aa h0,←aa h4']
   unfold aR
   by_cases hlt:(b6 xs (k+1)).lt (b6 xs (k / 2))
   ·have hsw:=s4 hx hH hk hak
    have hU':=yH hU hk (by omega) (by rw[hpar];exact hlt)
    rw[hpar]at hU'
    rw[decide_eq_true hlt]at ha
    repeat' (first
 |(refine ai ?_;first
 |refine aS (hs:=hsub) ?_
 |refine rO rfl rfl rfl rfl (by omega) (Ba k (by omega)) ?_
 |refine mI ?_
 |refine mB ?_
 |refine mP ?_
 |refine gT ?_
 |refine cB rfl rfl rfl ha rfl rfl ?_
 |(refine dF rfl rfl rfl hsw ?_<;>intro r1 st1 hp1)
 |refine pB ?_
 |refine WS_nil ?_)
 |refine WC_seq ?_
 |refine WC_opsS ?_
 |refine WC_skip ?_
 |refine ah rfl ?_
 |refine ud ?_)
    obtain⟨rfl,hH1,hF1⟩:=hp1
    skip
    refine⟨rfl,rl ?_⟩
    refine ih (k / 2) _ st1 _ (by omega) (by rw[dm];omega) (by rw[dm];exact hx) hH1 hU' rfl rfl (fun ρ' st' ys a b c d=>?_)
    exact hQ ρ' st' ys a b (c.trans (nk hk hak)) (hF1.trans d)
   ·rw[decide_eq_false hlt]at ha
    repeat' (first
 |(refine ai ?_;first
 |refine aS (hs:=hsub) ?_
 |refine rO rfl rfl rfl rfl (by omega) (Ba k (by omega)) ?_
 |refine mI ?_
 |refine mB ?_
 |refine mP ?_
 |refine gT ?_
 |refine cB rfl rfl rfl ha rfl rfl ?_
 |refine pB ?_
 |refine WS_nil ?_)
 |refine WC_seq ?_
 |refine WC_opsS ?_
 |refine WC_skip ?_
 |refine af rfl ?_)
    exact hQ _ _ xs hH (p9 hU (.inr (by rw[hpar];exact hlt))) (List.Perm.refl _) (Fr.refl _ _ _)
def PQ (st:Store) (h:Nat) (o:Option Nat) (a:Rd) (xs:List Rd):X→(Nat→D)→Store→Prop:=fun x ρ1 st1=>(x=.normal∨x=.ret)∧∃r,aB ρ1 st1 ca.res=some r∧(r.strip=.tuple []∧∃ys o',HW st1 h o' ys∧hp ys∧ys.Perm (a::xs)∧Fr st st1 h o o')
theorem zQ (xs:List Rd) (hx:xs.length≤1073741823) (st:Store) (h:Nat) (o:Option Nat) (a:Rd) (hH:HW st h o xs) (hX:hp xs):
  EvRWX Γ 44 [.ptr h 0,a.e] st (fun r st'=>r=.tuple []∧∃ys o',HW st' h o' ys∧hp ys∧ys.Perm (a::xs)∧Fr st st' h o o'):=by
 have hlim:=hH.lim
 have hnx:=hH.nx
 have hne:h≠st.next:=Nat.ne_of_lt hnx
 have hel:∀d∈[a.e],gL 2 d:=by intro d hd;rw[List.mem_singleton.mp hd];exact⟨rfl,rfl⟩
 have hfin:∀(ρ:Nat→D) (st1:Store) (o':Option Nat),HW st1 h o' (xs++[a])→Fr st st1 h o o'→ρ 0=.ptr h 0→ρ 4=.int .i64 xs.length→
   WC Γ aR ρ st1 (fun x ρ1 st1=>match x with| .goto l'=>l'=0∧WC Γ (.again 0 aR) ρ1 st1 (PQ st h o a xs)|x=>PQ st h o a xs x ρ1 st1):=by
  intro ρ st1 o' hH1 hF1 e0 e4
  refine Bn h o' _ xs.length xs.length (xs++[a]) st1 ρ (Nat.le_refl _) (by simp) (by simp;omega) hH1 (wS a hX) e0 e4 (fun ρ' st' ys q1 q2 q3 q4=>?_)
  refine⟨.inl rfl,_,rfl,rfl,ys,o',q1,q2,q3.trans (List.perm_append_comm (l₁:=xs) (l₂:=[a])),hF1.trans q4⟩
 obtain⟨_,_,⟨rfl,rfl,hb⟩|⟨r,c,rfl,hrh,hb,hR,hcap⟩⟩:=hH
 ·refine bY rfl rfl ?_
  repeat' (first
 |(refine ai ?_;first
 |refine ck rfl rfl rfl rfl rfl ?_
 |refine WS_nil ?_)
 |refine WC_seq ?_
 |refine WC_opsS ?_)
  refine nE ?_
  have hb1:∀{x:Option Box},(ap st.boxes st.next x h).bind Box.cs=some [.slice .isnil 0 []]:=fun{x}=>by rw[ab _ _ hne,hb];rfl
  have hl2:st.lim≤st.next:=Nat.le_trans hlim (Nat.le_of_lt hnx)
  repeat' (first
 |(refine ai ?_;first
 |refine o8 (ys:=[a.e]) rfl rfl rfl rfl (by decide) ?_
 |(refine kH (xs:=[]) (ys:=[a.e]) rfl rfl (.inr rfl) (.inr rfl) rfl rfl (.inl rfl) (by simp) (by simp) hel (by simp) (Nat.le_succ_of_le hl2) ?_<;>intro st1 e1 e2 e3 e4 hR1 hb2 e5)
 |refine mP ?_
 |refine mc (agg:=false) (d:=.slice .isnil 0 []) rfl rfl hb1 hlim rfl ?_
 |refine mc (agg:=true) (d:=.agg [_,_]) rfl rfl (dV rfl) hl2 rfl ?_
 |refine fD ?_
 |refine aQ rfl rfl ?_
 |refine qW rfl rfl ?_)
 |refine WC_seq ?_
 |refine bq ?_)
  have hb3:st1.boxes h=some (.cells [.slice .isnil 0 []]):=by
   rw[hb2 h (Nat.lt_succ_of_lt hnx)]
   show ap st.boxes st.next _ h=_
   rw[ab _ _ hne,hb]
  have hne3:h≠st.next+1:=by omega
  repeat' (first
 |(refine ai ?_;first
 |refine an (cs':=[.rs (st.next+1) 0 2 1 1]) rfl rfl hb3 rfl (by rw[e1];exact hlim) rfl rfl rfl ?_
 |refine mI ?_
 |refine mP ?_
 |refine aS ?_
 |refine am (agg:=false) (d:=.rs (st.next+1) 0 2 1 1) rfl rfl rfl (dV rfl) (by show st1.lim≤h;rw[e1];exact hlim) rfl ?_
 |refine eJ rfl rfl rfl ?_
 |refine fD ?_
 |refine aQ rfl rfl ?_
 |refine WS_nil ?_)
 |refine hfin _ _ (some (st.next+1)) ?_ ?_ ?_ ?_
 |refine WC_seq ?_
 |refine WC_opsS ?_
 |refine a8 rfl ?_)
  ·refine⟨by show st1.lim≤h;rw[e1];exact hlim,by show h<st1.next;rw[e5];exact Nat.lt_succ_of_lt (Nat.lt_succ_of_lt hnx),.inr ⟨st.next+1,1,rfl,Ne.symm hne3,ae _ _ _,?_,Nat.le_refl _⟩⟩
   exact hR1.of (by show st1.lim≤_;rw[e1];exact Nat.le_succ_of_le hl2) (by show _<st1.next;rw[e5];exact Nat.lt_succ_self _) (ab _ _ (Ne.symm hne3))
  ·refine⟨e1,e2,e3,e4,by show st.next≤st1.next;rw[e5];exact Nat.le_succ_of_le (Nat.le_succ _),fun q hq h1 _=>?_,.inr ⟨_,rfl,Nat.le_succ _⟩⟩
   show ap st1.boxes h _ q=_
   rw[ab _ _ h1,hb2 q (Nat.lt_succ_of_lt hq)]
   exact ab _ _ (Nat.ne_of_lt hq)
  ·rfl
  ·rfl
 ·refine bY rfl rfl ?_
  repeat' (first
 |(refine ai ?_;first
 |refine ck rfl rfl rfl rfl rfl ?_
 |refine WS_nil ?_)
 |refine WC_seq ?_
 |refine WC_opsS ?_)
  refine nE ?_
  have hb1:∀{x:Option Box},(ap st.boxes st.next x h).bind Box.cs=some [.rs r 0 2 xs.length c]:=fun{x}=>by rw[ab _ _ hne,hb];rfl
  have hl2:st.lim≤st.next:=Nat.le_trans hlim (Nat.le_of_lt hnx)
  have hrn:r≠st.next:=Nat.ne_of_lt hR.2.1
  have hR':∀{x:Option Box},RowIs {st with boxes:=ap st.boxes st.next x,next:=st.next+1} r 2 (xs.map Rd.e):=fun{x}=>hR.of hR.1 (Nat.lt_succ_of_lt hR.2.1) (ab _ _ hrn)
  repeat' (first
 |(refine ai ?_;first
 |refine o8 (ys:=[a.e]) rfl rfl rfl rfl (by decide) ?_
 |(refine ve (xs:=xs.map Rd.e) (ys:=[a.e]) rfl rfl rfl hR' (List.length_map _).symm (.inl rfl) dS hel (by simp;omega) ?_<;>intro p' c' st1 e1 e2 e3 e4 hR1 hb2 e5 e6 e7)
 |refine mP ?_
 |refine mc (agg:=false) (d:=.rs r 0 2 xs.length c) rfl rfl hb1 hlim rfl ?_
 |refine mc (agg:=true) (d:=.agg [_,_]) rfl rfl (dV rfl) hl2 rfl ?_
 |refine fD ?_
 |refine aQ rfl rfl ?_
 |refine qW rfl rfl ?_)
 |refine WC_seq ?_
 |refine bq ?_)
  have hb3:st1.boxes h=some (.cells [.rs r 0 2 xs.length c]):=by
   rw[hb2 h (Ne.symm hrh) (Nat.lt_succ_of_lt hnx)]
   show ap st.boxes st.next _ h=_
   rw[ab _ _ hne,hb]
  have e5':st.next+1≤st1.next:=e5
  have hp':p'≠h:=by
   rcases e6 with rfl|e6
   ·exact hrh
   ·have e6:st.next+1≤p':=e6
    omega
  have hlen1:xs.length+[a.e].length - 1=xs.length:=by simp
  repeat' (first
 |(refine ai ?_;first
 |refine an (cs':=[.rs p' 0 2 (xs.length+1) c']) rfl rfl hb3 rfl (by rw[e1];exact hlim) rfl rfl rfl ?_
 |refine aS (s:=(xs.length:Int)) (hs:=by rw[show ((xs.length+1:Nat):Int) - 1=(xs.length:Int)by omega];exact rV (by omega)) ?_
 |refine mI ?_
 |refine mP ?_
 |refine am (agg:=false) (d:=.rs p' 0 2 (xs.length+1) c') rfl rfl rfl (dV rfl) (by show st1.lim≤h;rw[e1];exact hlim) rfl ?_
 |refine eJ rfl rfl rfl ?_
 |refine fD ?_
 |refine aQ rfl rfl ?_
 |refine WS_nil ?_)
 |refine hfin _ _ (some p') ?_ ?_ ?_ ?_
 |refine WC_seq ?_
 |refine WC_opsS ?_
 |refine a8 rfl ?_)
  ·refine⟨by show st1.lim≤h;rw[e1];exact hlim,by show h<st1.next;omega,.inr ⟨p',c',rfl,hp',?_,?_,?_⟩⟩
   ·show ap st1.boxes h _ h=_
    rw[ae]
    simp[Box.set]
   ·have:RowIs st1 p' 2 ((xs++[a]).map Rd.e):=by simpa using hR1
    exact this.of this.1 this.2.1 (ab _ _ hp')
   ·simpa using e7
  ·refine⟨e1,e2,e3,e4,by show st.next≤st1.next;omega,fun q hq h1 h2=>?_,?_⟩
   ·show ap st1.boxes h _ q=_
    rw[ab _ _ h1,hb2 q (fun e=>h2 (by rw[e])) (Nat.lt_succ_of_lt hq)]
    exact ab _ _ (Nat.ne_of_lt hq)
   ·rcases e6 with rfl|e6
    ·exact .inl rfl
    ·have e6:st.next+1≤p':=e6
     exact .inr ⟨p',rfl,by omega⟩
  ·rfl
  ·rfl
end Go.Lea
/-
  What the heap's functions come to: the first one is taken; a heap of some.
-/
namespace Go.Lea
open Go.Ev
theorem xG {ρ:Nat→D} {st:Store} {p:Nat} {a b:D} {t:Bool} (h2:ρ 2=.ptr p 0) (h3:ρ 3=.bool t) (hb:(st.boxes p).bind Box.cs=some [a,b]) (hl:st.lim≤p):aB ρ st bO.res=some (.tuple [.agg [a,b],.bool t]):=by
 simp[aB,lB,bO,h2,h3,Store.cellsAt,hb,Nat.not_lt.mpr hl,cut]
theorem A3 (xs:List Rd) (hx:xs.length≤1073741823) (st:Store) (h:Nat) (o:Option Nat) (hH:HW st h o xs) (hX:hp xs):
  EvRWX Γ 41 [.ptr h 0] st (fun r st'=>(xs=[]∧r=.tuple [.agg [.int .i64 0,.int .i64 0],.bool false]∧HW st' h o []∧Fr st st' h o o)∨(0<xs.length∧r=.tuple [(b6 xs 0).e,.bool true]∧∃ys,HW st' h o ys∧hp ys∧xs.Perm (b6 xs 0::ys)∧Fr st st' h o o)):=by
 have hlim:=hH.lim
 have hnx:=hH.nx
 have hl2:st.lim≤st.next:=Nat.le_trans hlim (Nat.le_of_lt hnx)
 have hne:h≠st.next:=Nat.ne_of_lt hnx
 have hne1:st.next≠st.next+1:=by omega
 have H1:∀{x:Option Box},HW {st with boxes:=ap st.boxes st.next x,next:=st.next+1} h o xs:=fun{x}=>hH.of rfl (Nat.le_succ _) (fun q hq _=>ab _ _ (Nat.ne_of_lt hq))
 have hpk:=fun{x}=>Ab xs (by omega) _ h o (H1 (x:=x))
 by_cases h0:xs=[]
 ·subst h0
  refine bY rfl rfl ?_
  repeat' (first
 |(refine ai ?_;first
 |refine an (cs':=[_,_]) rfl rfl (ae _ _ _) rfl (Nat.le_succ_of_le hl2) rfl rfl rfl ?_
 |refine an (cs':=[_,_]) rfl rfl ((ab _ _ hne1).trans ((ab _ _ hne1).trans (ae _ _ _))) rfl hl2 rfl rfl rfl ?_
 |refine mB ?_
 |refine mP ?_
 |refine mT ?_
 |refine am (agg:=true) (d:=.agg [_,_]) rfl rfl rfl (dV rfl) (Nat.le_succ_of_le hl2) rfl ?_
 |refine cB rfl rfl rfl hpk rfl rfl ?_
 |refine eB ?_
 |refine eA ?_
 |refine nT ?_
 |refine aq rfl rfl ?_
 |refine WS_nil ?_)
 |refine WC_seq ?_
 |refine WC_opsS ?_
 |refine ah rfl ?_
 |refine al ?_)
  refine⟨.inr rfl,_,xG rfl rfl (dV rfl) hl2,.inl ⟨rfl,rfl,hH.of rfl ?_ (fun q hq _=>?_),⟨rfl,rfl,rfl,rfl,?_,fun q hq _ _=>?_,.inl rfl⟩⟩⟩
  ·show st.next≤st.next+1+1;omega
  ·have k1:q≠st.next:=Nat.ne_of_lt hq
   have k2:q≠st.next+1:=by omega
   exact(ab _ _ k1).trans ((ab _ _ k2).trans ((ab _ _ k2).trans (ab _ _ k1)))
  ·show st.next≤st.next+1+1;omega
  ·have k1:q≠st.next:=Nat.ne_of_lt hq
   have k2:q≠st.next+1:=by omega
   exact(ab _ _ k1).trans ((ab _ _ k2).trans ((ab _ _ k2).trans (ab _ _ k1)))
 ·have hl:0<xs.length:=List.length_pos_iff.mpr h0
  have hl1:xs.length - 1<xs.length:=by omega
  have hok:(decide (0<xs.length))=true:=by simp[hl]
  obtain⟨_,_,⟨rfl,rfl,hb⟩|⟨r,c,rfl,hrh,hb,hR,hcap⟩⟩:=id hH
  ·exact absurd rfl h0
  rw[hok]at hpk
  have hbh:∀{x y z:Option Box},((ap (ap (ap st.boxes st.next x) (st.next+1) y) (st.next+1) z) h).bind Box.cs=some [.rs r 0 2 xs.length c]:=fun{x y z}=>by
   rw[ab _ _ (by omega),ab _ _ (by omega),ab _ _ (by omega),hb];rfl
  have H2:∀{x y z:Option Box},HW {st with boxes:=ap (ap (ap st.boxes st.next x) (st.next+1) y) (st.next+1) z,next:=st.next+1+1} h (some r) xs:=fun{x y z}=>hH.of rfl (by show st.next≤st.next+1+1;omega) (fun q hq _=>(ab _ _ (by omega)).trans ((ab _ _ (by omega)).trans (ab _ _ (by omega))))
  have hsw:=fun{x y z}=>s4 (by omega) (H2 (x:=x) (y:=y) (z:=z)) hl hl1
  have hcast:((xs.length:Int) - 1)=((xs.length - 1:Nat):Int):=by omega
  refine bY rfl rfl ?_
  repeat' (first
 |(refine ai ?_;first
 |refine aS (s:=((xs.length - 1:Nat):Int)) (hs:=by rw[hcast];exact rV (by omega)) ?_
 |refine an (cs':=[_,_]) rfl rfl (ae _ _ _) rfl (Nat.le_succ_of_le hl2) rfl rfl rfl ?_
 |refine mI ?_
 |refine mB ?_
 |refine mP ?_
 |refine mT ?_
 |refine am (agg:=false) (d:=.rs r 0 2 xs.length c) rfl rfl rfl hbh hlim rfl ?_
 |refine cB rfl rfl rfl hpk rfl rfl ?_
 |(refine dF rfl rfl rfl hsw ?_<;>intro r1 st1 hp1)
 |refine eB ?_
 |refine eA ?_
 |refine nT ?_
 |refine eJ rfl rfl rfl ?_
 |refine fD ?_
 |refine aQ rfl rfl ?_
 |refine aq rfl rfl ?_
 |refine WS_nil ?_)
 |refine WC_seq ?_
 |refine WC_opsS ?_
 |refine WC_skip ?_
 |refine af rfl ?_)
  obtain⟨rfl,hH1,hF1⟩:=hp1
  have hn1:st.next+1+1≤st1.next:=hF1.next
  have hl3:st1.lim=st.lim:=hF1.lim
  have hzl:(o9 xs 0 (xs.length - 1) (b6 xs 0) (b6 xs (xs.length - 1))).length=xs.length:=dm _ _ _ _ _
  have hperm:=xD hl
  have vC:=xV hX hl
  generalize hzs:o9 xs 0 (xs.length - 1) (b6 xs 0) (b6 xs (xs.length - 1))=zs at*
  obtain⟨hlim1,hnx1,⟨e,_,_⟩|⟨r2,c2,e,hrh2,hb2,hR2,hcap2⟩⟩:=id hH1
  ·cases e
  cases e
  have hbN:st1.boxes st.next=some (.cells [.int .i64 0,.int .i64 0]):=by
   have k1:st.next≠st.next+1:=by omega
   have:=hF1.box st.next (by show st.next<st.next+1+1;omega) (Ne.symm hne) (fun e=>by cases e;exact absurd hR.2.1 (Nat.lt_irrefl _))
   rw[this]
   exact(ab _ _ k1).trans ((ab _ _ k1).trans (ae _ _ _))
  have hbN1:st1.boxes (st.next+1)=some (.cells [.int .i64 (b6 xs 0).node,.int .i64 (b6 xs 0).at']):=by
   have:=hF1.box (st.next+1) (by show st.next+1<st.next+1+1;omega) (by omega) (fun e=>by cases e;have:=hR.2.1;omega)
   rw[this]
   exact ae _ _ _
  have hb3:(st1.boxes h).bind Box.cs=some [.rs r 0 2 zs.length c2]:=by rw[hb2];rfl
  have htl:(zs.take (xs.length - 1)).length=xs.length - 1:=by rw[List.length_take,hzl];omega
  have H4:HW {st1 with boxes:=ap st1.boxes h (some (.cells [.rs r 0 2 (xs.length - 1) c2]))} h (some r) (zs.take (xs.length - 1)):=by
   refine⟨hlim1,hnx1,.inr ⟨r,c2,rfl,hrh,by rw[htl];exact ae _ _ _,?_,by rw[htl];omega⟩⟩
   have:RowAt st1 r 2 ((zs.take (xs.length - 1)).map Rd.e):=by
    have h1:=hR2.at
    rw[←List.take_append_drop (xs.length - 1) zs,List.map_append]at h1
    exact h1.pre dS
   exact⟨hR2.1,hR2.2.1,this.of (ab _ _ hrh)⟩
  have hdn:=Af h (some r) (xs.length - 1) 0 _ _ (by rw[htl];omega) (Nat.zero_le _) (by rw[htl];omega) H4 vC
  have hcj:xs.length - 1≤c2:=by omega
  repeat' (first
 |(refine ai ?_;first
 |refine mH rfl rfl (Bl (xs.length - 1)) hcj rfl ?_
 |refine an (cs':=[.rs r 0 2 (xs.length - 1) c2]) rfl rfl hb2 rfl hlim1 rfl rfl rfl ?_
 |refine mI ?_
 |refine mP ?_
 |refine am (agg:=false) (d:=.rs r 0 2 zs.length c2) rfl rfl rfl hb3 hlim1 rfl ?_
 |(refine dF rfl rfl rfl hdn ?_<;>intro r1 st2 hp2)
 |refine fD ?_
 |refine aQ rfl rfl ?_
 |refine WS_nil ?_)
 |refine WC_seq ?_
 |refine WC_opsS ?_)
  obtain⟨rfl,ys,hH2,hhp,hperm2,hF2⟩:=hp2
  have hn2:st1.next≤st2.next:=hF2.next
  have hl4:st2.lim=st.lim:=hF2.lim.trans hl3
  have hcN:st2.boxes st.next=some (.cells [.int .i64 0,.int .i64 0]):=by
   rw[hF2.box st.next (by show st.next<st1.next;omega) (Ne.symm hne) (fun e=>by cases e;exact absurd hR.2.1 (Nat.lt_irrefl _)),←hbN]
   exact ab _ _ (Ne.symm hne)
  have hcN1:(st2.boxes (st.next+1)).bind Box.cs=some [.int .i64 (b6 xs 0).node,.int .i64 (b6 xs 0).at']:=by
   have k1:st.next+1≠h:=by omega
   have eN1:st2.boxes (st.next+1)=st1.boxes (st.next+1):=(hF2.box (st.next+1) (by show st.next+1<st1.next;omega) k1 (fun e=>by cases e;have:=hR.2.1;omega)).trans (ab _ _ k1)
   rw[eN1,hbN1]
   rfl
  repeat' (first
 |(refine ai ?_;first
 |refine an (cs':=[_,_]) rfl rfl hcN rfl (by rw[hl4];exact hl2) rfl rfl rfl ?_
 |refine mB ?_
 |refine am (agg:=true) (d:=.agg [_,_]) rfl rfl rfl hcN1 (by rw[hl4];exact Nat.le_succ_of_le hl2) rfl ?_
 |refine WS_nil ?_)
 |refine al ?_)
  refine⟨.inr rfl,_,xG rfl rfl (dV rfl) (by show st2.lim≤_;rw[hl4];exact hl2),.inr ⟨hl,rfl,ys,?_,hhp,hperm.trans (List.Perm.cons _ hperm2.symm),?_⟩⟩
  ·refine hH2.of rfl (Nat.le_refl _) (fun q hq hq2=>ab _ _ ?_)
   rcases hq2 with rfl|hq2
   ·exact hne
   ·cases hq2
    exact Nat.ne_of_lt hR.2.1
  ·refine⟨hl4,hF2.tlim.trans hF1.tlim,hF2.toks.trans hF1.toks,hF2.ntok.trans hF1.ntok,by show st.next≤st2.next;omega,fun q hq q1 q2=>?_,.inl rfl⟩
   have k1:q≠st.next:=Nat.ne_of_lt hq
   have k2:q≠st.next+1:=by omega
   refine(ab _ _ k1).trans ?_
   rw[hF2.box q (by show q<st1.next;omega) q1 q2]
   refine(ab _ _ q1).trans ?_
   rw[hF1.box q (by show q<st.next+1+1;omega) q1 q2]
   exact(ab _ _ k2).trans ((ab _ _ k2).trans (ab _ _ k1))
end Go.Lea
/-
  What the heap's functions come to, as rows in order.
-/
namespace Go.Lea
open Go.Ev
def AH (st:Store) (h:Nat) (o:Option Nat) (s:List Rd):Prop:=∃xs,HW st h o xs∧hp xs∧xs.Perm s∧xz s
theorem AH.of {st st':Store} {h:Nat} {o:Option Nat} {s:List Rd} (H:AH st h o s) (hl:st'.lim=st.lim) (hn:st.next≤st'.next) (hb:∀q,q<st.next→q=h∨some q=o→st'.boxes q=st.boxes q):AH st' h o s:=by
 obtain⟨xs,h1,h2,h3,h4⟩:=H
 exact⟨xs,h1.of hl hn hb,h2,h3,h4⟩
theorem AH.nx {st:Store} {h:Nat} {o:Option Nat} {s:List Rd} (H:AH st h o s):h<st.next:=by
 obtain⟨xs,h1,_⟩:=H
 exact h1.nx
theorem AH.lim {st:Store} {h:Nat} {o:Option Nat} {s:List Rd} (H:AH st h o s):st.lim≤h:=by
 obtain⟨xs,h1,_⟩:=H
 exact h1.lim
theorem AH.onx {st:Store} {h r:Nat} {s:List Rd} (H:AH st h (some r) s):r<st.next:=by
 obtain⟨xs,⟨_,_,⟨h1,_⟩|⟨r',c,h1,_,_,h3,_⟩⟩,_⟩:=H
 ·cases h1
 ·cases h1;exact h3.2.1
def Bj (s:List Rd):Rd:=s.headD ⟨0,0⟩
theorem tp {st:Store} {h:Nat} {o:Option Nat} {s:List Rd} (H:AH st h o s) (hs:s.length≤1073741823):EvRO Γ 40 [.ptr h 0] st (.int .i64 s.length):=by
 obtain⟨xs,h1,h2,h3,h4⟩:=H
 rw[←h3.length_eq]
 exact A4 xs (by have:=h3.length_eq;omega) st h o h1
theorem Ar {xs s:List Rd} (h2:hp xs) (h3:xs.Perm s) (h4:xz s) (hl:0<xs.length):b6 xs 0=Bj s:=by
 cases s with
 |nil=>have:=h3.length_eq;simp at this;simp[this]at hl
 |cons x s=>
  show b6 xs 0=x
  have hm:b6 xs 0∈xs:=List.mem_of_getElem? (dR hl)
  have hx:x∈xs:=h3.mem_iff.mpr List.mem_cons_self
  refine rp ?_ ?_
  ·rcases List.mem_cons.mp (h3.mem_iff.mp hm)with e|e
   ·rw[e];exact lt_irrefl _
   ·exact h4.1 _ e
  ·obtain⟨j,hj,e⟩:=List.getElem_of_mem hx
   have:=zb h2 j hj
   rw[sq (List.getElem?_eq_some_iff.mpr ⟨hj,e⟩)]at this
   exact this
theorem uR {st:Store} {h:Nat} {o:Option Nat} {s:List Rd} (H:AH st h o s) (hs:s.length≤1073741823) (a:Rd):
  EvRWX Γ 44 [.ptr h 0,a.e] st (fun r st'=>r=.tuple []∧∃o',AH st' h o' (vw a s)∧Fr st st' h o o'):=by
 obtain⟨xs,h1,h2,h3,h4⟩:=H
 refine(zQ xs (by have:=h3.length_eq;omega) st h o a h1 h2).mono (fun r st' hp=>?_)
 obtain⟨rfl,ys,o',k1,k2,k3,k4⟩:=hp
 exact⟨rfl,o',⟨ys,k1,k2,k3.trans ((h3.cons a).trans (gz a s).symm),pt a s h4⟩,k4⟩
theorem zV {st:Store} {h:Nat} {o:Option Nat} {s:List Rd} (H:AH st h o s) (hs:s.length≤1073741823):
  EvRWX Γ 41 [.ptr h 0] st (fun r st'=>r=.tuple [(Bj s).e,.bool (decide (0<s.length))]∧AH st' h o s.tail∧Fr st st' h o o):=by
 obtain⟨xs,h1,h2,h3,h4⟩:=H
 have hl:=h3.length_eq
 refine(A3 xs (by omega) st h o h1 h2).mono (fun r st' hp=>?_)
 rcases hp with⟨rfl,rfl,k1,k2⟩|⟨k0,rfl,ys,k1,k2,k3,k4⟩
 ·have e2:s=[]:=List.length_eq_zero_iff.mp (by simpa using hl.symm)
  subst e2
  exact⟨rfl,⟨[],k1,h2,List.Perm.refl _,trivial⟩,k2⟩
 ·have ht:=Ar h2 h3 h4 k0
  have h0:0<s.length:=by omega
  cases s with
  |nil=>simp at h0
  |cons x s=>
   have ht:b6 xs 0=x:=ht
   rw[ht]at k3 ⊢
   exact⟨by simp[Bj],⟨ys,k1,k2,(List.perm_cons x).mp (k3.symm.trans h3),h4.2⟩,k4⟩
structure Nw (st st':Store):Prop where
 lim:st'.lim=st.lim
 tlim:st'.tlim=st.tlim
 toks:st'.toks=st.toks
 ntok:st'.ntok=st.ntok
 next:st.next≤st'.next
 box:∀q,q<st.next→st'.boxes q=st.boxes q
theorem xQ {l pre post:List Rd} {x:Rd} (h:l=pre++x::post):l[pre.length]?=some x:=by rw[h];simp
theorem A7 (st0:Store) (h:Nat) (hh:st0.next≤h) (hl:st0.lim≤st0.next) (l:List Rd) (hll:l.length≤1073741823) (t:Tok) (sz:Nat) (hsz:sz=2∨l=[]):∀(post pre:List Rd),l=pre++post→
  ∀(ρ:Nat→D) (st:Store) (o:Option Nat),AH st h o (jN pre)→Nw st0 st→(∀r,o=some r→st0.next≤r)→ρ 3=.ptr h 0→ρ 8=.slice t sz (l.map Rd.e)→ρ 9=.int .i64 l.length→ρ 10=.int .i64 pre.length→∀(Q:X→(Nat→D)→Store→Prop),
  (∀ρ' st' o',AH st' h o' (jN l)→Nw st0 st'→(∀r,o'=some r→st0.next≤r)→ρ' 3=.ptr h 0→Q (.exit 0) ρ' st')→WC Γ (.loop jT) ρ st Q:=by
 intro post
 induction post with
 |nil=>
  intro pre hp ρ st o H N ho h3 h8 h9 h10 Q hQ
  rw[List.append_nil]at hp
  subst hp
  rw[←aa h3,←aa h8,←aa h9,←aa h10]
  refine WC_loop ?_
  repeat' (first
 |(refine ai ?_;first
 |refine lF ?_
 |refine WS_nil ?_)
 |refine WC_seq ?_
 |refine WC_opsS ?_
 |refine af rfl ?_
 |refine WC_exit ?_)
  exact hQ _ _ o H N ho rfl
 |cons x post ih=>
  intro pre hp ρ st o H N ho h3 h8 h9 h10 Q hQ
  have hv:=xQ hp
  have hlen:l.length=pre.length+(post.length+1):=by rw[hp];simp
  have hnx:=H.nx
  have hlim2:st.lim≤st.next:=Nat.le_trans H.lim (Nat.le_of_lt hnx)
  have hsl:(jN pre).length=pre.length:=(vp pre).length_eq
  have hA:∀{x y:Option Box},AH {st with boxes:=ap (ap st.boxes st.next x) st.next y,next:=st.next+1} h o (jN pre):=fun{x y}=>H.of rfl (Nat.le_succ _) (fun q hq _=>(ab _ _ (Nat.ne_of_lt hq)).trans (ab _ _ (Nat.ne_of_lt hq)))
  have hps:=fun{u v:Option Box}=>uR (hA (x:=u) (y:=v)) (by omega) x
  rw[←aa h3,←aa h8,←aa h9,←aa h10]
  refine WC_loop ?_
  repeat' (first
 |(refine ai ?_;first
 |refine an (cs':=[_,_]) rfl rfl (ae _ _ _) rfl hlim2 rfl rfl rfl ?_
 |refine mI ?_
 |refine mP ?_
 |refine lT ?_
 |refine aD ?_
 |refine lE (d:=.agg [_,_]) hv ?_
 |refine am (agg:=true) (d:=.agg [_,_]) rfl rfl rfl (dV rfl) hlim2 rfl ?_
 |(refine dF rfl rfl rfl hps ?_<;>intro r1 st1 hp1)
 |refine aq rfl rfl ?_
 |refine kD rfl rfl rfl rfl (by first|rfl|exact qz (by assumption) (by omega)) (by first|decide|(simp only[List.length_map];omega)) ?_
 |refine WS_nil ?_)
 |refine WC_seq ?_
 |refine WC_opsS ?_
 |refine WC_skip ?_
 |refine ah rfl ?_
 |refine WC_block ?_)
  obtain⟨rfl,o',H1,F1⟩:=hp1
  skip
  have hn1:st.next+1≤st1.next:=F1.next
  refine ih (pre++[x]) (by simp[hp]) _ st1 o' (by rw[show jN (pre++[x])=vw x (jN pre)by simp[jN]];exact H1) ?_ ?_ rfl rfl rfl (by rw[List.length_append];rfl) Q hQ
  ·refine⟨F1.lim.trans N.lim,F1.tlim.trans N.tlim,F1.toks.trans N.toks,F1.ntok.trans N.ntok,by have:=N.next;omega,fun q hq=>?_⟩
   have hq2:q<st.next:=Nat.lt_of_lt_of_le hq N.next
   rw[F1.box q (Nat.lt_succ_of_lt hq2) (by omega) (fun e=>by have:=ho q e.symm;omega),←N.box q hq]
   exact(ab _ _ (Nat.ne_of_lt hq2)).trans (ab _ _ (Nat.ne_of_lt hq2))
  ·intro r hr
   rcases F1.own with e|⟨r',e,hr'⟩
   ·exact ho r (by rw[←e];exact hr)
   ·rw[hr]at e
    cases e
    have:=N.next
    have hr':st.next+1≤r:=hr'
    omega
theorem AT (l:List Rd) (hll:l.length≤1073741823) (t:Tok) (sz:Nat) (hsz:sz=2∨l=[]) (st:Store) (hl:st.lim≤st.next):
  EvRWX Γ 39 [.slice t sz (l.map Rd.e)] st (fun r st'=>∃h o,r=.ptr h 0∧st.next≤h∧(∀r,o=some r→st.next≤r)∧AH st' h o (jN l)∧Nw st st'):=by
 refine bY rfl rfl ?_
 repeat' (first
 |(refine ai ?_;first
 |refine lN ?_
 |refine mI ?_
 |refine mS ?_
 |refine mP ?_
 |refine bL (v:=.nilptr) rfl rfl rfl ?_
 |refine bi (cs:=[_]) rfl rfl rfl ?_
 |refine ck rfl rfl rfl rfl rfl ?_
 |refine WS_nil ?_)
 |refine WC_seq ?_
 |refine WC_opsS ?_
 |refine WC_block ?_)
 refine A7 st st.next (Nat.le_refl _) hl l hll _ sz hsz l [] rfl _ _ none ?_ ?_ (fun r hr=>by cases hr) rfl rfl rfl rfl _ (fun ρ' st' o' H N ho h3=>?_)
 ·exact⟨[],⟨hl,Nat.lt_succ_self _,.inl ⟨rfl,rfl,ae _ _ _⟩⟩,fun j _ hj=>by simp at hj,List.Perm.refl _,trivial⟩
 ·exact⟨rfl,rfl,rfl,rfl,Nat.le_succ _,fun q hq=>ab _ _ (Nat.ne_of_lt hq)⟩
 ·rw[←aa h3]
  repeat' (first
 |(refine ai ?_;first
 |refine mP ?_
 |refine WS_nil ?_)
 |refine WC_seq ?_
 |refine WC_opsS ?_
 |refine al ?_)
  exact⟨.inr rfl,_,rfl,_,o',rfl,Nat.le_refl _,ho,H,N⟩
end Go.Lea
/-
  What may be, rounding up.
-/
namespace Go.Lea
open Go.Ev
theorem iW (n lo hi:Int):EvP Γ 74 [.int .i64 n,.int .i64 lo,.int .i64 hi] (.bool (decide (lo≤n∧n≤hi))):=by
 refine aA rfl rfl ?_
 repeat' (first
 |(refine ai ?_;first
 |refine aj rfl ?_
 |refine mI ?_
 |refine mB ?_
 |refine aj rfl ?_
 |(refine wu rfl rfl rfl rfl ?_ ?_<;>intro _)
 |refine pB ?_
 |refine WS_nil ?_)
 |refine WC_seq ?_
 |refine WC_opsS ?_
 |refine al ?_)
 all_goals refine aK (by simp) rfl ?_
 all_goals simp[*]
theorem il (n:Int):EvP Γ 47 [.int .i64 n] (.bool (decide (1≤n∧n≤255))):=by
 refine aA rfl rfl ?_
 repeat' (first
 |(refine ai ?_;first
 |refine mI ?_
 |refine mB ?_
 |refine dT rfl rfl rfl (iW _ _ _) rfl ?_ ?_<;>intro _
 |refine WS_nil ?_)
 |refine WC_seq ?_
 |refine WC_opsS ?_
 |refine al ?_)
 all_goals refine aK (by simp) rfl ?_
 all_goals simp_all
def jW (a b:Int):Int:=a.tdiv b+(if 1<a.tmod b then 1 else a.tmod b)
theorem ql {a b:Int} (ha:0≤a) (hb:1≤b):0≤jW a b∧jW a b≤a+1:=by
 unfold jW
 rw[Int.tdiv_eq_ediv_of_nonneg ha,Int.tmod_eq_emod_of_nonneg ha]
 have h1:=Int.ediv_nonneg ha (show 0≤b by omega)
 have h2:=Int.emod_nonneg a (show b≠0 by omega)
 have h3:a / b≤a:=Int.ediv_le_self _ ha
 split<;>omega
theorem zk (a b:Int) (ha:0≤a) (ha2:a≤4611686018427387904) (hb:1≤b):EvP Γ 90 [.int .i64 a,.int .i64 b] (.tuple [.int .i64 (jW a b),.bool true]):=by
 refine aA rfl rfl ?_
 have hc:=ql ha hb
 unfold jW at hc ⊢
 have h1:0≤a.tdiv b∧a.tdiv b≤a:=by
  rw[Int.tdiv_eq_ediv_of_nonneg ha]
  exact⟨Int.ediv_nonneg ha (by omega),Int.ediv_le_self _ ha⟩
 have h2:0≤a.tmod b:=by
  rw[Int.tmod_eq_emod_of_nonneg ha]
  exact Int.emod_nonneg a (by omega)
 generalize hq:a.tdiv b=q at*
 generalize hr:a.tmod b=r at*
 have hb0:b≠0:=by omega
 have hq':IntKind.wrap .i64 (a.tdiv b)=q:=by rw[hq];exact rV (by omega)
 have hsum:IntKind.wrap .i64 (q+if 1<r then 1 else r)=q+if 1<r then 1 else r:=rV (by omega)
 repeat' (first
 |(refine ai ?_;first
 |refine rO (s:=q) rfl rfl rfl rfl hb0 hq' ?_
 |refine Bg (s:=r) rfl rfl rfl rfl hb0 hr ?_
 |refine aD (hs:=hsum) ?_
 |refine mI ?_
 |refine mB ?_
 |refine lF ?_
 |refine pB ?_
 |refine sV rfl rfl rfl rfl ?_
 |refine WS_nil ?_)
 |refine WC_seq ?_
 |refine WC_opsS ?_
 |refine bq ?_
 |refine WC_skip ?_
 |refine af rfl ?_
 |refine al ?_
 |refine a8 rfl ?_)
 exact be (r':=.tuple [.int _ _,.bool _]) (.inr rfl) rfl rfl rfl
end Go.Lea
/-
  What the view's functions come to: edges from a node.
-/
namespace Go.Lea
open Go.Ev
structure Eg where
 id:Int
 fr:Int
 to:Int
 op:Int
 en:Int
 ra:Int
 ow:Int
 ro:Int
deriving DecidableEq
def Eg.e (r:Eg):D:=.agg [.int .i64 r.id,.int .i64 r.fr,.int .i64 r.to,.int .i64 r.op,.int .i64 r.en,.int .i64 r.ra,.int .i64 r.ow,.int .i64 r.ro]
theorem jb {l pre post:List Eg} {x:Eg} (h:l=pre++x::post):l[pre.length]?=some x:=by rw[h];simp
def bD (n:Int) (l:List Eg):List Eg:=l.filter (fun x=>decide (x.fr=n))
theorem j4 (n:Int) (l:List Eg) (x:Eg):bD n (l++[x])=if x.fr=n then bD n l++[x]else bD n l:=by
 unfold bD
 rw[List.filter_append]
 by_cases h:x.fr=n<;>simp[h]
theorem Ao (n:Int) (l:List Eg) (hll:l.length≤1073741824) (t0:Tok) (sz0:Nat) (hs0:sz0=8∨l=[]):∀(post pre:List Eg),l=pre++post→∀(ρ:Nat→D) (st:Store) (t:Tok) (sz:Nat),st.lim≤0→st.tlim≤st.ntok→eV st 8 t sz ((bD n pre).map Eg.e)→
  ρ 1=.int .i64 n→ρ 4=.slice t sz ((bD n pre).map Eg.e)→ρ 7=.slice t0 sz0 (l.map Eg.e)→ρ 8=.int .i64 l.length→ρ 9=.int .i64 pre.length→∀(Q:X→(Nat→D)→Store→Prop),
  (∀ρ' st' t' sz',(sz'=8∨bD n l=[])→ρ' 4=.slice t' sz' ((bD n l).map Eg.e)→Q (.exit 0) ρ' st')→WC Γ (.loop jf) ρ st Q:=by
 intro post
 induction post with
 |nil=>
  intro pre hp ρ st t sz hlim htk hO h1 h4 h7 h8 h9 Q hQ
  rw[List.append_nil]at hp
  subst hp
  have hsz:sz=8∨bD n l=[]:=by
   rcases hO with⟨_,h|⟨_,h⟩⟩|⟨k,_,_,_,h⟩
   ·exact .inl h
   ·exact .inr (List.map_eq_nil_iff.mp h)
   ·exact .inl h
  rw[←aa h1,←aa h4,←aa h7,←aa h8,←aa h9]
  refine WC_loop ?_
  repeat' (first
 |(refine ai ?_;first
 |refine lF ?_
 |refine WS_nil ?_)
 |refine WC_seq ?_
 |refine WC_opsS ?_
 |refine af rfl ?_
 |refine WC_exit ?_)
  exact hQ _ _ t sz hsz rfl
 |cons x post ih=>
  intro pre hp ρ st t sz hlim htk hO h1 h4 h7 h8 h9 Q hQ
  have hv:=jb hp
  have hlen:l.length=pre.length+(post.length+1):=by rw[hp];simp
  have hsz0:sz0=8:=by
   rcases hs0 with h|h
   ·exact h
   ·rw[h]at hlen;simp at hlen
  subst hsz0
  have hlim2:st.lim≤st.next:=by omega
  have hfl:(bD n pre).length≤pre.length:=List.length_filter_le _ _
  have hby:(((bD n pre).map Eg.e).length+([x.e]:List D).length)*64≤140737488355328:=by simp;omega
  have hO1:∀{u v:Option Box},eV {st with boxes:=ap (ap st.boxes st.next u) st.next v,next:=st.next+1} 8 t sz ((bD n pre).map Eg.e):=fun{u v}=>hO
  have hpl:pre.length<(l.map Eg.e).length:=by simp;omega
  have hltl:(pre.length:Int)<l.length:=by omega
  rw[←aa h1,←aa h4,←aa h7,←aa h8,←aa h9]
  refine WC_loop ?_
  by_cases hx:x.fr=n
  ·repeat' (first
 |(refine ai ?_;first
 |refine iA (pre.length) hpl ?_
 |refine an (cs':=[_,_,_,_,_,_,_,_]) rfl rfl (ae _ _ _) rfl hlim2 rfl rfl rfl ?_
 |(refine iS (ys:=[x.e]) rfl rfl rfl hO1 (.inl rfl) hby htk rfl ?_<;>intro k1 st1 e1 e2 e3 e4 e5 e6 e7)
 |refine mI ?_
 |refine mS ?_
 |refine lT ?_
 |refine fK rfl rfl rfl rfl (by omega) ?_
 |refine aD ?_
 |refine lE (d:=.agg [_,_,_,_,_,_,_,_]) hv ?_
 |refine am (agg:=false) (d:=.int _ _) rfl rfl rfl (dV rfl) hlim2 rfl ?_
 |refine am (agg:=true) (d:=.agg [_,_,_,_,_,_,_,_]) rfl rfl rfl (dV rfl) hlim2 rfl ?_
 |refine fD ?_
 |refine aq rfl rfl ?_
 |refine bh (ys:=[_]) rfl rfl rfl (by decide) rfl ?_
 |refine WS_nil ?_)
 |refine WC_seq ?_
 |refine WC_opsS ?_
 |refine WC_skip ?_
 |refine ah rfl ?_
 |refine WC_block ?_)
   refine ih (pre++[x]) (by simp[hp]) _ st1 (.own k1) 8 (by rw[e3];exact hlim) e5 (.inr ⟨k1,rfl,e6,e7,rfl⟩) ?_ ?_ ?_ ?_ ?_ Q hQ
   ·rfl
   ·rw[j4,if_pos hx,List.map_append];rfl
   ·rfl
   ·rfl
   ·rw[List.length_append];rfl
  ·repeat' (first
 |(refine ai ?_;first
 |refine iA (pre.length) hpl ?_
 |refine an (cs':=[_,_,_,_,_,_,_,_]) rfl rfl (ae _ _ _) rfl hlim2 rfl rfl rfl ?_
 |refine mI ?_
 |refine lT ?_
 |refine dz rfl rfl rfl rfl (by omega) ?_
 |refine aD ?_
 |refine lE (d:=.agg [_,_,_,_,_,_,_,_]) hv ?_
 |refine am (agg:=false) (d:=.int _ _) rfl rfl rfl (dV rfl) hlim2 rfl ?_
 |refine fD ?_
 |refine aq rfl rfl ?_
 |refine WS_nil ?_)
 |refine WC_seq ?_
 |refine WC_opsS ?_
 |refine WC_skip ?_
 |refine ah rfl ?_
 |refine af rfl ?_
 |refine WC_block ?_)
   refine ih (pre++[x]) (by simp[hp]) _ _ t sz ?_ ?_ ?_ ?_ ?_ ?_ ?_ ?_ Q hQ
   ·exact hlim
   ·exact htk
   ·rw[j4,if_neg hx];exact hO
   ·rfl
   ·rw[j4,if_neg hx];rfl
   ·rfl
   ·rfl
   ·rw[List.length_append];rfl
theorem xC (n:Int) (l:List Eg) (hll:l.length≤1073741824) (t:Tok) (sz:Nat) (hs:sz=8∨l=[]):EvX Γ 42 [.slice t sz (l.map Eg.e),.int .i64 n] (Bw Eg.e 8 (bD n l)):=by
 refine cn rfl rfl ?_
 repeat' (first
 |(refine ai ?_;first
 |refine lN ?_
 |refine mI ?_
 |refine mS ?_
 |refine WS_nil ?_)
 |refine WC_seq ?_
 |refine WC_opsS ?_
 |refine WC_block ?_)
 refine Ao n l hll t sz hs l [] rfl _ _ .isnil 0 (Nat.le_refl _) (Nat.le_refl _) (.inl ⟨.inl rfl,.inr ⟨rfl,rfl⟩⟩) ?_ ?_ ?_ ?_ ?_ _ (fun ρ' st' t' sz' hsz h4=>?_)
 ·rfl
 ·rfl
 ·rfl
 ·rfl
 ·rfl
 rw[←aa h4]
 repeat' (first
 |(refine ai ?_;first
 |refine mS ?_
 |refine WS_nil ?_)
 |refine WC_seq ?_
 |refine WC_opsS ?_
 |refine al ?_)
 exact zJ (.inr rfl) rfl hsz rfl
end Go.Lea
/-
  What hop's functions come to: when what is ready is there.
-/
namespace Go.Lea
open Go.Ev
def Eg.ok (x:Eg):Prop:=((1≤x.fr∧x.fr≤255)∧(1≤x.to∧x.to≤255)∧x.fr≠x.to)∧((0≤x.op∧x.op≤1099511627776)∧(1≤x.en∧x.en≤2147483647)∧(0≤x.ow∧x.ow≤2147483647))∧(1≤x.id∧x.id≤1048576)∧(1≤x.ra∧x.ra≤2147483647)∧(0≤x.ro∧x.ro≤4611686018427387904)
instance (x:Eg):Decidable x.ok:=by unfold Eg.ok;infer_instance
set_option maxHeartbeats 4000000 in
theorem qJ (x:Eg):EvP Γ 89 [x.e] (.bool (decide x.ok)):=by
 refine aA rfl rfl ?_
 unfold Eg.ok
 repeat' (first
 |(refine ai ?_;first
 |refine aj rfl ?_
 |refine mB ?_
 |refine aj rfl ?_
 |(refine uN rfl rfl rfl rfl ?_ ?_<;>intro _)
 |refine aj rfl ?_
 |refine lO (d:=.int _ _) ?_
 |refine aj rfl ?_
 |(refine dT rfl rfl rfl (il _) rfl ?_ ?_<;>intro _)
 |(refine dT rfl rfl rfl (iW _ _ _) rfl ?_ ?_<;>intro _)
 |refine pB ?_
 |refine ck rfl rfl rfl rfl rfl ?_
 |refine fD ?_
 |refine aj rfl ?_
 |refine WS_nil ?_)
 |refine WC_seq ?_
 |refine WC_opsS ?_
 |refine al ?_)
 all_goals (refine aK (by simp) rfl ?_;first|(simp_all;done)|(simp_all;omega)|(simp only[eq_comm (a:=true),eq_comm (a:=false),decide_eq_true_eq,decide_eq_false_iff_not]at*;omega)|grind)
def fP (x:Eg) (t sz:Int):Prop:=(0≤t∧t≤1099511627776)∧(0≤sz∧sz≤1099511627775)∧x.ok
instance (x:Eg) (t sz:Int):Decidable (fP x t sz):=by unfold fP;infer_instance
theorem mo (x:Eg) (t sz:Int):EvP Γ 70 [x.e,.int .i64 t,.int .i64 sz] (.bool (decide (fP x t sz))):=by
 refine aA rfl rfl ?_
 unfold fP
 repeat' (first
 |(refine ai ?_;first
 |refine aj rfl ?_
 |refine mI ?_
 |refine mB ?_
 |refine aj rfl ?_
 |refine lO (d:=.agg [_,_,_,_,_,_,_,_]) ?_
 |refine aj rfl ?_
 |(refine dT rfl rfl rfl (qJ _) rfl ?_ ?_<;>intro _)
 |(refine dT rfl rfl rfl (iW _ _ _) rfl ?_ ?_<;>intro _)
 |refine pB ?_
 |refine ck rfl rfl rfl rfl rfl ?_
 |refine WS_nil ?_)
 |refine WC_seq ?_
 |refine WC_opsS ?_
 |refine al ?_)
 all_goals (refine aK (by simp) rfl ?_;first|(simp_all;done)|(simp_all;omega)|(simp only[eq_comm (a:=true),eq_comm (a:=false),decide_eq_true_eq,decide_eq_false_iff_not]at*;omega)|grind)
def aT (x:Eg) (sz:Int):Int:=if fP x 0 sz then jW sz x.ra else 0
theorem gH (x:Eg) (sz:Int):0≤aT x sz∧aT x sz≤1099511627776:=by
 unfold aT
 split
 ·rename_i h
  have:=ql (a:=sz) (b:=x.ra) h.2.1.1 h.2.2.2.2.2.1.1
  have:=h.2.1.2
  omega
 ·omega
theorem uC (x:Eg) (sz:Int):EvP Γ 69 [x.e,.int .i64 sz] (.int .i64 (aT x sz)):=by
 refine aA rfl rfl ?_
 unfold aT
 by_cases h:fP x 0 sz
 ·rw[if_pos h]
  have hc:=zk sz x.ra h.2.1.1 (by have:=h.2.1.2;omega) h.2.2.2.2.2.1.1
  have hr:=mo x 0 sz
  rw[decide_eq_true h]at hr
  generalize jW sz x.ra=c at hc ⊢
  repeat' (first
 |(refine ai ?_;first
 |refine mI ?_
 |refine mB ?_
 |refine mT ?_
 |refine lO (d:=.int _ _) ?_
 |refine lO (d:=.agg [_,_,_,_,_,_,_,_]) ?_
 |refine cA rfl hr ?_
 |refine cA rfl hc ?_
 |refine eI ?_
 |refine eB ?_
 |refine ck rfl rfl rfl rfl rfl ?_
 |refine nT ?_
 |refine fD ?_
 |refine WS_nil ?_)
 |refine WC_seq ?_
 |refine WC_opsS ?_
 |refine WC_skip ?_
 |refine af rfl ?_
 |refine al ?_)
  exact dH (.inr rfl) rfl rfl
 ·rw[if_neg h]
  have hr:=mo x 0 sz
  rw[decide_eq_false h]at hr
  repeat' (first
 |(refine ai ?_;first
 |refine mI ?_
 |refine lO (d:=.agg [_,_,_,_,_,_,_,_]) ?_
 |refine cA rfl hr ?_
 |refine ck rfl rfl rfl rfl rfl ?_
 |refine nT ?_
 |refine WS_nil ?_)
 |refine WC_seq ?_
 |refine WC_opsS ?_
 |refine ah rfl ?_
 |refine al ?_)
  exact dH (.inr rfl) rfl rfl
def mx (a b:Int):Int:=if b>a then b else a
theorem nQ {a b c:Int}:mx a b≤c↔a≤c∧b≤c:=by unfold mx;split<;>omega
theorem jQ {a b:Int}:a≤mx a b∧b≤mx a b:=by unfold mx;split<;>omega
section
variable {Γ:Nat→Option FD} {ρ:Nat→D} {st:Store} {dr:Bool} {R:(Nat→D)→Store→List Fl→Prop} {l:List Op1} {g:Option (Nat×Bool)} {mv:Bool} {k:Nat} {x y:A}
theorem xI {κ κ':IntKind} {n m s:Int} (hg:ak ρ g=some true) (hx:x.ev ρ=.int κ n) (hm:mv=false) (hy:y.ev ρ=.int κ' m) (hs:mx n m=s) (h:WS Γ dr l (ap ρ k (.int κ s)) st (nx .n R)):WS Γ dr (⟨some k,g,mv,.max [x,y]⟩::l) ρ st R:=by
 subst hs
 exact tI hg hx hm hy h
end
def di (x:Eg) (t sz:Int):Prop:=fP x t sz∧sz≤x.ro∧mx t x.op≤x.en - mx (aT x sz) 1
instance (x:Eg) (t sz:Int):Decidable (di x t sz):=by unfold di;infer_instance
def aJ (x:Eg) (t sz:Int):Int:=mx t x.op+aT x sz+x.ow
def rq (x:Eg) (t sz:Int):D:=if di x t sz then .tuple [.int .i64 (mx t x.op),.int .i64 (aJ x t sz),.bool true]else .tuple [.int .i64 0,.int .i64 0,.bool false]
set_option maxHeartbeats 4000000 in
theorem sN (x:Eg) (t sz:Int):EvP Γ 43 [x.e,.int .i64 t,.int .i64 sz] (rq x t sz):=by
 refine aA rfl rfl ?_
 have hT:=uC x sz
 have hk:=gH x sz
 have hr:=mo x t sz
 unfold rq
 by_cases hc:di x t sz
 ·rw[if_pos hc]
  obtain⟨h1,h2,h3⟩:=hc
  rw[decide_eq_true h1]at hr
  obtain⟨ht,hs,hok⟩:=h1
  have hop:=hok.2.1.1
  have hen:=hok.2.1.2.1
  have how:=hok.2.1.2.2
  have hro:=hok.2.2.2.2
  have hm:=jQ (a:=t) (b:=x.op)
  have hm1:=jQ (a:=aT x sz) (b:=1)
  have hmt:mx (aT x sz) 1≤1099511627776:=nQ.mpr ⟨hk.2,by omega⟩
  have hmo:mx t x.op≤1099511627776:=nQ.mpr ⟨ht.2,hop.2⟩
  have hm0:0≤mx t x.op:=by omega
  unfold aJ
  clear hok
  generalize aT x sz=k at*
  generalize e1:mx t x.op=m at*
  generalize e2:mx k 1=k1 at*
  repeat' (first
 |(refine ai ?_;first
 |refine xI rfl rfl rfl rfl e1 ?_
 |refine xI rfl rfl rfl rfl e2 ?_
 |refine mI ?_
 |refine mB ?_
 |refine gF ?_
 |refine aD ?_
 |refine aS ?_
 |refine lO (d:=.int _ _) ?_
 |refine lO (d:=.agg [_,_,_,_,_,_,_,_]) ?_
 |refine cA rfl hr ?_
 |refine cA rfl hT ?_
 |refine pB ?_
 |refine ck rfl rfl rfl rfl rfl ?_
 |refine nT ?_
 |refine fD ?_
 |refine WS_nil ?_)
 |refine WC_seq ?_
 |refine WC_opsS ?_
 |refine bq ?_
 |refine WC_skip ?_
 |refine af rfl ?_
 |refine al ?_
 |refine a8 rfl ?_)
  all_goals exact be (r':=.tuple [.int _ _,.int _ _,.bool _]) (.inr rfl) rfl rfl rfl
 ·rw[if_neg hc]
  by_cases h1:fP x t sz
  ·have h1':=h1
   obtain⟨ht,hs,hok⟩:=h1'
   have hop:=hok.2.1.1
   have hen:=hok.2.1.2.1
   have hm1:=jQ (a:=aT x sz) (b:=1)
   have hmt:mx (aT x sz) 1≤1099511627776:=nQ.mpr ⟨hk.2,by omega⟩
   have hc':¬(sz≤x.ro∧mx t x.op≤x.en - mx (aT x sz) 1):=fun h=>hc ⟨h1,h.1,h.2⟩
   rw[decide_eq_true h1]at hr
   clear hok hc h1
   generalize aT x sz=k at*
   generalize e1:mx t x.op=m at*
   generalize e2:mx k 1=k1 at*
   repeat' (first
 |(refine ai ?_;first
 |refine xI rfl rfl rfl rfl e1 ?_
 |refine xI rfl rfl rfl rfl e2 ?_
 |refine aj rfl ?_
 |refine mI ?_
 |refine mB ?_
 |refine aj rfl ?_
 |refine gT ?_
 |(refine oU rfl rfl rfl rfl ?_ ?_<;>intro _)
 |refine aS ?_
 |refine aj rfl ?_
 |refine lO (d:=.int _ _) ?_
 |refine lO (d:=.agg [_,_,_,_,_,_,_,_]) ?_
 |refine cA rfl hr ?_
 |refine cA rfl hT ?_
 |refine pB ?_
 |refine ck rfl rfl rfl rfl rfl ?_
 |refine nT ?_
 |refine fD ?_
 |refine aj rfl ?_
 |refine WS_nil ?_)
 |refine WC_seq ?_
 |refine WC_opsS ?_
 |refine ah rfl ?_
 |refine al ?_)
   all_goals first
    |exact be (r':=.tuple [.int _ _,.int _ _,.bool _]) (.inr rfl) rfl rfl rfl
    |(exfalso;omega)
  ·rw[decide_eq_false h1]at hr
   repeat' (first
 |(refine ai ?_;first
 |refine aj rfl ?_
 |refine mI ?_
 |refine mB ?_
 |refine aj rfl ?_
 |refine aj rfl ?_
 |refine lO (d:=.int _ _) ?_
 |refine lO (d:=.agg [_,_,_,_,_,_,_,_]) ?_
 |refine cA rfl hr ?_
 |refine cA rfl hT ?_
 |refine pB ?_
 |refine ck rfl rfl rfl rfl rfl ?_
 |refine nT ?_
 |refine tI rfl rfl rfl rfl ?_
 |refine fD ?_
 |refine aj rfl ?_
 |refine WS_nil ?_)
 |refine WC_seq ?_
 |refine WC_opsS ?_
 |refine ah rfl ?_
 |refine al ?_)
   all_goals exact be (r':=.tuple [.int _ _,.int _ _,.bool _]) (.inr rfl) rfl rfl rfl
end Go.Lea
/-
  What is asked, and what is told of a node.
-/
namespace Go.Lea
open Go.Ev
def RL (l:List Eg):Prop:=(∀e∈l,e.ok)∧l.Pairwise fun a b=>a.id<b.id
instance (l:List Eg):Decidable (RL l):=by unfold RL;infer_instance
theorem RL.nil:RL []:=⟨by simp,by simp⟩
theorem mf {pre:List Eg} {x:Eg}:RL (pre++[x])↔RL pre∧x.ok∧∀y∈pre,y.id<x.id:=by
 unfold RL
 rw[List.pairwise_append]
 constructor
 ·rintro⟨h1,h2,h3,h4⟩
  exact⟨⟨fun e he=>h1 e (by simp[he]),h2⟩,h1 x (by simp),fun y hy=>h4 y hy x (by simp)⟩
 ·rintro⟨⟨h1,h2⟩,h3,h4⟩
  refine⟨fun e he=>?_,h2,by simp,fun a ha b hb=>?_⟩
  ·rcases List.mem_append.mp he with he|he
   ·exact h1 e he
   ·rw[List.mem_singleton.mp he];exact h3
  ·rw[List.mem_singleton.mp hb]
   exact h4 a ha
theorem RL.pre {pre post:List Eg} (h:RL (pre++post)):RL pre:=⟨fun e he=>h.1 e (by simp[he]),(List.pairwise_append.mp h.2).1⟩
theorem yp {pre:List Eg} (h:RL pre) {y:Eg} (hy:pre[pre.length - 1]?=some y):∀z∈pre,z.id≤y.id:=by
 intro z hz
 obtain⟨i,hi,rfl⟩:=List.getElem_of_mem hz
 obtain⟨hk,rfl⟩:=List.getElem?_eq_some_iff.mp hy
 by_cases e:i=pre.length - 1
 ·subst e;exact Int.le_refl _
 ·exact Int.le_of_lt (List.pairwise_iff_getElem.mp h.2 i (pre.length - 1) hi hk (by omega))
set_option maxHeartbeats 4000000 in
theorem Bu (l:List Eg) (hll:l.length≤1073741824) (t:Tok) (sz:Nat) (hs:sz=8∨l=[]):∀(post pre:List Eg),l=pre++post→RL pre→∀(ρ:Nat→D) (st:Store),st.lim≤st.next→
  ρ 0=.slice t sz (l.map Eg.e)→ρ 5=.slice t sz (l.map Eg.e)→ρ 6=.int .i64 l.length→ρ 7=.int .i64 pre.length→∀(Q:X→(Nat→D)→Store→Prop),
  (RL l→∀ρ' st',Q (.exit 0) ρ' st')→(¬RL l→∀ρ' st',ρ' 2=.bool false→Q .ret ρ' st')→WC Γ (.loop eL) ρ st Q:=by
 intro post
 induction post with
 |nil=>
  intro pre hpp hR ρ st hlim h0 h5 h6 h7 Q hQ hQ2
  rw[List.append_nil]at hpp
  subst hpp
  rw[←aa h0,←aa h5,←aa h6,←aa h7]
  refine WC_loop ?_
  repeat' (first
 |(refine ai ?_;first
 |refine lF ?_
 |refine WS_nil ?_)
 |refine WC_seq ?_
 |refine WC_opsS ?_
 |refine af rfl ?_
 |refine WC_exit ?_)
  exact hQ hR _ _
 |cons x post ih=>
  intro pre hpp hR ρ st hlim h0 h5 h6 h7 Q hQ hQ2
  have hv:=jb hpp
  have hlen:l.length=pre.length+(post.length+1):=by rw[hpp];simp
  have hz:sz=8:=hs.resolve_right (by rintro rfl;simp at hlen)
  subst hz
  have hpl:pre.length<(l.map Eg.e).length:=by simp;omega
  have hpl2:pre.length - 1<(l.map Eg.e).length:=by simp;omega
  have hltl:(pre.length:Int)<l.length:=by omega
  have hRl:RL l→RL (pre++[x]):=fun h=>by
   rw[hpp,show pre++x::post=(pre++[x])++post by simp]at h
   exact h.pre
  have hbad:∀ρ' st',decide x.ok=false→ρ' 2=.bool false→Q .ret ρ' st':=fun ρ' st' hx e=>hQ2 (fun h=>(of_decide_eq_false hx) (mf.mp (hRl h)).2.1) ρ' st' e
  have hnext:∀ρ' st',st'.lim≤st'.next→RL (pre++[x])→ρ' 0=.slice t 8 (l.map Eg.e)→ρ' 5=.slice t 8 (l.map Eg.e)→ρ' 6=.int .i64 l.length→ρ' 7=.int .i64 ((pre.length:Int)+1)→WC Γ (.loop eL) ρ' st' Q:=fun ρ' st' e1 e2 k0 k5 k6 k7=>
   ih (pre++[x]) (by simp[hpp]) e2 ρ' st' e1 k0 k5 k6 (by rw[List.length_append];exact k7) Q hQ hQ2
  have hok:=qJ x
  rw[←aa h0,←aa h5,←aa h6,←aa h7]
  refine WC_loop ?_
  by_cases hz:0<pre.length
  ·have hsub:IntKind.i64.wrap ((pre.length:Int) - 1)=((pre.length - 1:Nat):Int):=by rw[rV (by omega)];omega
   have hz':(0:Int)<pre.length:=by omega
   obtain⟨y,hy⟩:∃y,pre[pre.length - 1]?=some y:=⟨pre[pre.length - 1]'(by omega),List.getElem?_eq_getElem _⟩
   have hvy:l[pre.length - 1]?=some y:=by rw[hpp,List.getElem?_append_left (by omega)];exact hy
   have hmem:=List.mem_of_getElem? hy
   have hbad2:∀ρ' st',x.id≤y.id→ρ' 2=.bool false→Q .ret ρ' st':=fun ρ' st' hx e=>hQ2 (fun h=>by
    have:=(mf.mp (hRl h)).2.2 y hmem
    omega) ρ' st' e
   have hgo:decide x.ok=true→y.id<x.id→RL (pre++[x]):=fun h1 h2=>mf.mpr ⟨hR,of_decide_eq_true h1,fun z hz=>by have:=yp hR hy z hz;omega⟩
   clear ih hQ hQ2 hRl hpp hR
   generalize decide x.ok=bk at*
   repeat' (first
 |(refine ai ?_;first
 |refine aS (s:=((pre.length - 1:Nat):Int)) (hs:=hsub) ?_
 |refine iA (pre.length) hpl ?_
 |refine iA (pre.length - 1) hpl2 ?_
 |refine an (cs':=[_,_,_,_,_,_,_,_]) rfl rfl (ae _ _ _) rfl hlim rfl rfl rfl ?_
 |refine aj rfl ?_
 |refine mI ?_
 |refine mB ?_
 |refine mS ?_
 |refine aj rfl ?_
 |refine lT ?_
 |refine gT ?_
 |(refine vX rfl rfl rfl rfl ?_ ?_<;>intro _)
 |refine aD ?_
 |refine aj rfl ?_
 |refine lE (d:=.agg [_,_,_,_,_,_,_,_]) hv ?_
 |refine lE (d:=.int _ _) hvy ?_
 |refine am (agg:=false) (d:=.int _ _) rfl rfl rfl (dV rfl) (by first|exact Nat.zero_le _|assumption|exact Nat.le_trans hlim (Nat.zero_le _)|omega) rfl ?_
 |refine am (agg:=true) (d:=.agg [_,_,_,_,_,_,_,_]) rfl rfl rfl (dV rfl) (by first|exact Nat.zero_le _|assumption|exact Nat.le_trans hlim (Nat.zero_le _)|omega) rfl ?_
 |(refine dT rfl rfl rfl hok rfl ?_ ?_<;>intro _)
 |refine pB ?_
 |refine aj rfl ?_
 |refine nT ?_
 |refine fD ?_
 |refine wz rfl rfl rfl ?_
 |refine aq rfl rfl ?_
 |refine aj rfl ?_
 |refine WS_nil ?_)
 |refine a8 (dj rfl) ?_
 |refine WC_seq ?_
 |refine WC_opsS ?_
 |refine bq ?_
 |refine WC_skip ?_
 |refine ah rfl ?_
 |refine af rfl ?_
 |refine WC_block ?_
 |refine al ?_)
   all_goals first
    |(refine hbad _ _ (by assumption) ?_;rfl;done)
    |(refine hbad2 _ _ (by omega) ?_;rfl;done)
    |(refine hnext _ _ ?_ (hgo (by assumption) (by omega)) ?_ ?_ ?_ ?_<;>first|rfl|exact Nat.le_succ_of_le hlim)
  ·have hz':(pre.length:Int)≤0:=by omega
   have hp0:pre=[]:=List.length_eq_zero_iff.mp (by omega)
   have hgo:decide x.ok=true→RL (pre++[x]):=fun h1=>mf.mpr ⟨hR,of_decide_eq_true h1,fun z hz=>by rw[hp0]at hz;cases hz⟩
   clear ih hQ hQ2 hRl hpp hR hp0
   generalize decide x.ok=bk at*
   repeat' (first
 |(refine ai ?_;first
 |refine iA (pre.length) hpl ?_
 |refine an (cs':=[_,_,_,_,_,_,_,_]) rfl rfl (ae _ _ _) rfl hlim rfl rfl rfl ?_
 |refine aj rfl ?_
 |refine mI ?_
 |refine mB ?_
 |refine aj rfl ?_
 |refine lT ?_
 |refine gF ?_
 |refine aD ?_
 |refine aj rfl ?_
 |refine lE (d:=.agg [_,_,_,_,_,_,_,_]) hv ?_
 |refine am (agg:=true) (d:=.agg [_,_,_,_,_,_,_,_]) rfl rfl rfl (dV rfl) (by first|exact Nat.zero_le _|assumption|exact Nat.le_trans hlim (Nat.zero_le _)|omega) rfl ?_
 |(refine dT rfl rfl rfl hok rfl ?_ ?_<;>intro _)
 |refine pB ?_
 |refine aj rfl ?_
 |refine nT ?_
 |refine aq rfl rfl ?_
 |refine aj rfl ?_
 |refine WS_nil ?_)
 |refine a8 (dj rfl) ?_
 |refine WC_seq ?_
 |refine WC_opsS ?_
 |refine bq ?_
 |refine WC_skip ?_
 |refine ah rfl ?_
 |refine af rfl ?_
 |refine WC_block ?_
 |refine al ?_)
   all_goals first
    |(refine hbad _ _ (by assumption) ?_;rfl;done)
    |(refine hnext _ _ ?_ (hgo (by assumption)) ?_ ?_ ?_ ?_<;>first|rfl|exact Nat.le_succ_of_le hlim)
theorem xc (l:List Eg) (hll:l.length≤1073741824) (t:Tok) (sz:Nat) (hs:sz=8∨l=[]):EvP Γ 64 [.slice t sz (l.map Eg.e)] (.bool (decide (RL l))):=by
 refine aA rfl rfl ?_
 repeat' (first
 |(refine ai ?_;first
 |refine lN ?_
 |refine mI ?_
 |refine mB ?_
 |refine mS ?_
 |refine WS_nil ?_)
 |refine WC_seq ?_
 |refine WC_opsS ?_
 |refine WC_block ?_)
 refine Bu l hll t sz hs l [] rfl RL.nil _ _ (Nat.le_refl _) ?_ ?_ ?_ ?_ _ (fun h ρ' st'=>?_) (fun h ρ' st' h2=>?_)
 ·rfl
 ·rfl
 ·rfl
 ·rfl
 ·repeat' (first
 |(refine ai ?_;first
 |refine mB ?_
 |refine WS_nil ?_)
 |refine WC_seq ?_
 |refine WC_opsS ?_
 |refine al ?_)
  exact aK (.inr rfl) rfl (decide_eq_true h).symm
 ·rw[←aa h2]
  exact aK (.inr rfl) rfl (decide_eq_false h).symm
def br (l:List Eg) (fr now sz:Int):Prop:=(1≤fr∧fr≤255)∧(0≤sz∧sz≤1099511627775)∧(0≤now∧now≤1099511627776)∧RL l
instance (l:List Eg) (fr now sz:Int):Decidable (br l fr now sz):=by unfold br;infer_instance
theorem wO (fr to sz now:Int):EvP Γ 63 [.agg [.int .i64 fr,.int .i64 to,.int .i64 sz,.int .i64 0,.int .i64 now]] (.bool (decide ((1≤fr∧fr≤255)∧(1≤to∧to≤255)∧(0≤sz∧sz≤1099511627775)∧(0≤now∧now≤1099511627776)))):=by
 refine aA rfl rfl ?_
 have h0:=iW 0 0 2
 rw[decide_eq_true (by omega)]at h0
 repeat' (first
 |(refine ai ?_;first
 |refine mB ?_
 |refine aj rfl ?_
 |refine lO (d:=.int _ _) ?_
 |refine aj rfl ?_
 |refine cA rfl h0 ?_
 |(refine dT rfl rfl rfl (il _) rfl ?_ ?_<;>intro _)
 |(refine dT rfl rfl rfl (iW _ _ _) rfl ?_ ?_<;>intro _)
 |refine pB ?_
 |refine ck rfl rfl rfl rfl rfl ?_
 |refine fD ?_
 |refine aj rfl ?_
 |refine WS_nil ?_)
 |refine WC_seq ?_
 |refine WC_opsS ?_
 |refine al ?_)
 all_goals (refine aK (by simp) rfl ?_;first|(simp_all;done)|(simp_all;omega)|(simp only[eq_comm (a:=true),eq_comm (a:=false),decide_eq_true_eq,decide_eq_false_iff_not]at*;omega)|grind)
theorem iT (l:List Eg) (hll:l.length≤1073741824) (fr now sz:Int) (t:Tok) (s:Nat) (hs:s=8∨l=[]):EvP Γ 32 [.slice t s (l.map Eg.e),.int .i64 fr,.int .i64 fr,.int .i64 now,.int .i64 sz] (.bool (decide (br l fr now sz))):=by
 refine aA rfl rfl ?_
 have hR:=fun t=>xc l hll t s hs
 have hB:=wO fr fr sz now
 have ht:decide ((1≤fr∧fr≤255)∧(1≤fr∧fr≤255)∧(0≤sz∧sz≤1099511627775)∧(0≤now∧now≤1099511627776))=true→decide (RL l)=true→decide (br l fr now sz)=true:=fun h1 h2=>by
  have h1:=of_decide_eq_true h1
  exact decide_eq_true ⟨h1.1,h1.2.2.1,h1.2.2.2,of_decide_eq_true h2⟩
 have hf1:decide ((1≤fr∧fr≤255)∧(1≤fr∧fr≤255)∧(0≤sz∧sz≤1099511627775)∧(0≤now∧now≤1099511627776))=false→decide (br l fr now sz)=false:=fun h1=>
  decide_eq_false fun h=>(of_decide_eq_false h1) ⟨h.1,h.1,h.2.1,h.2.2.1⟩
 have hf2:decide (RL l)=false→decide (br l fr now sz)=false:=fun h1=>
  decide_eq_false fun h=>(of_decide_eq_false h1) h.2.2.2
 generalize decide (br l fr now sz)=q at*
 generalize decide (RL l)=q2 at*
 generalize decide ((1≤fr∧fr≤255)∧(1≤fr∧fr≤255)∧(0≤sz∧sz≤1099511627775)∧(0≤now∧now≤1099511627776))=q1 at*
 repeat' (first
 |(refine ai ?_;first
 |refine aj rfl ?_
 |refine mI ?_
 |refine mB ?_
 |refine mS ?_
 |refine aj rfl ?_
 |(refine dT rfl rfl rfl hB rfl ?_ ?_<;>intro _)
 |(refine dT rfl rfl rfl (hR _) rfl ?_ ?_<;>intro _)
 |refine pB ?_
 |refine bi (cs:=[_,_,_,_,_]) rfl rfl rfl ?_
 |refine WS_nil ?_)
 |refine WC_seq ?_
 |refine WC_opsS ?_
 |refine al ?_)
 all_goals first
  |exact aK (.inr rfl) rfl (ht (by assumption) (by assumption)).symm
  |exact aK (.inr rfl) rfl (hf1 (by assumption)).symm
  |exact aK (.inr rfl) rfl (hf2 (by assumption)).symm
theorem z8 {l pre post:List Rd} {x:Rd} (h:l=pre++x::post):l[pre.length]?=some x:=by rw[h];simp
def bP (n:Int):List Rd→Option Int
 |[]=>none
 |r::l=>if r.node=n then some r.at' else bP n l
theorem tP {n:Int}:∀{pre post:List Rd} {x:Rd},(∀y∈pre,y.node≠n)→x.node=n→bP n (pre++x::post)=some x.at'
 |[],post,x,_,h=>by simp[bP,h]
 |y::pre,post,x,h0,h=>by
  rw[List.cons_append,bP,if_neg (h0 y (by simp))]
  exact tP (fun z hz=>h0 z (by simp[hz])) h
theorem rL {n:Int}:∀{l:List Rd},(∀y∈l,y.node≠n)→bP n l=none
 |[],_=>rfl
 |y::l,h=>by rw[bP,if_neg (h y (by simp))];exact rL (fun z hz=>h z (by simp[hz]))
set_option maxHeartbeats 4000000 in
theorem Bz (n:Int) (l:List Rd) (hll:l.length≤1073741824) (t:Tok) (sz:Nat) (hs:sz=2∨l=[]):∀(post pre:List Rd),l=pre++post→(∀y∈pre,y.node≠n)→∀(ρ:Nat→D) (st:Store),st.lim≤st.next→
  ρ 1=.int .i64 n→ρ 8=.slice t sz (l.map Rd.e)→ρ 9=.int .i64 l.length→ρ 10=.int .i64 pre.length→∀(Q:X→(Nat→D)→Store→Prop),
  (bP n l=none→∀ρ' st',Q (.exit 0) ρ' st')→(∀u,bP n l=some u→∀ρ' st',ρ' 4=.int .i64 u→ρ' 5=.bool true→Q .ret ρ' st')→WC Γ (.loop gw) ρ st Q:=by
 intro post
 induction post with
 |nil=>
  intro pre hpp hn ρ st hlim h1 h8 h9 h10 Q hQ hQ2
  rw[List.append_nil]at hpp
  subst hpp
  rw[←aa h1,←aa h8,←aa h9,←aa h10]
  refine WC_loop ?_
  repeat' (first
 |(refine ai ?_;first
 |refine lF ?_
 |refine WS_nil ?_)
 |refine WC_seq ?_
 |refine WC_opsS ?_
 |refine af rfl ?_
 |refine WC_exit ?_)
  exact hQ (rL hn) _ _
 |cons x post ih=>
  intro pre hpp hn ρ st hlim h1 h8 h9 h10 Q hQ hQ2
  have hv:=z8 hpp
  have hlen:l.length=pre.length+(post.length+1):=by rw[hpp];simp
  have hz:sz=2:=hs.resolve_right (by rintro rfl;simp at hlen)
  subst hz
  have hpl:pre.length<(l.map Rd.e).length:=by simp;omega
  have hltl:(pre.length:Int)<l.length:=by omega
  have hyes:x.node=n→∀ρ' st',ρ' 4=.int .i64 x.at'→ρ' 5=.bool true→Q .ret ρ' st':=fun e ρ' st' k4 k5=>hQ2 x.at' (by rw[hpp];exact tP hn e) ρ' st' k4 k5
  have hnext:x.node≠n→∀ρ' st',st'.lim≤st'.next→ρ' 1=.int .i64 n→ρ' 8=.slice t 2 (l.map Rd.e)→ρ' 9=.int .i64 l.length→ρ' 10=.int .i64 ((pre.length:Int)+1)→WC Γ (.loop gw) ρ' st' Q:=fun e ρ' st' e1 k1 k8 k9 k10=>
   ih (pre++[x]) (by simp[hpp]) (fun y hy=>by
    rcases List.mem_append.mp hy with hy|hy
    ·exact hn y hy
    ·rw[List.mem_singleton.mp hy];exact e) ρ' st' e1 k1 k8 k9 (by rw[List.length_append];exact k10) Q hQ hQ2
  clear ih hQ hQ2 hn hpp
  rw[←aa h1,←aa h8,←aa h9,←aa h10]
  refine WC_loop ?_
  repeat' (first
 |(refine ai ?_;first
 |refine iA (pre.length) hpl ?_
 |refine an (cs':=[_,_]) rfl rfl (ae _ _ _) rfl hlim rfl rfl rfl ?_
 |refine mI ?_
 |refine mB ?_
 |refine lT ?_
 |(refine wC rfl rfl rfl rfl ?_ ?_<;>intro _)
 |refine aD ?_
 |refine lE (d:=.agg [_,_]) hv ?_
 |refine am (agg:=false) (d:=.int _ _) rfl rfl rfl (dV rfl) (by first|exact Nat.zero_le _|assumption|exact Nat.le_trans hlim (Nat.zero_le _)|omega) rfl ?_
 |refine fD ?_
 |refine aq rfl rfl ?_
 |refine WS_nil ?_)
 |refine WC_seq ?_
 |refine WC_opsS ?_
 |refine WC_skip ?_
 |refine ah rfl ?_
 |refine af rfl ?_
 |refine WC_block ?_
 |refine al ?_)
  all_goals first
   |(refine hyes (by assumption) _ _ ?_ ?_<;>rfl)
   |(refine hnext (by assumption) _ _ ?_ ?_ ?_ ?_ ?_<;>first|rfl|exact Nat.le_succ_of_le hlim)
theorem AV (n:Int) (l:List Rd) (hll:l.length≤1073741824) (t:Tok) (sz:Nat) (hs:sz=2∨l=[]):EvP Γ 20 [.slice t sz (l.map Rd.e),.int .i64 n] (.tuple [.int .i64 ((bP n l).getD 0),.bool (bP n l).isSome]):=by
 refine aA rfl rfl ?_
 repeat' (first
 |(refine ai ?_;first
 |refine lN ?_
 |refine mI ?_
 |refine mB ?_
 |refine mS ?_
 |refine WS_nil ?_)
 |refine WC_seq ?_
 |refine WC_opsS ?_
 |refine WC_block ?_)
 refine Bz n l hll t sz hs l [] rfl (by simp) _ _ (Nat.le_refl _) ?_ ?_ ?_ ?_ _ (fun h ρ' st'=>?_) (fun u h ρ' st' h4 h5=>?_)
 ·rfl
 ·rfl
 ·rfl
 ·rfl
 ·rw[h]
  repeat' (first
 |(refine ai ?_;first
 |refine mI ?_
 |refine mB ?_
 |refine WS_nil ?_)
 |refine WC_seq ?_
 |refine WC_opsS ?_
 |refine al ?_)
  exact be (r':=.tuple [.int _ _,.bool _]) (.inr rfl) rfl rfl rfl
 ·rw[←aa h4,←aa h5,h]
  exact be (r':=.tuple [.int _ _,.bool _]) (.inr rfl) rfl rfl rfl
end Go.Lea
/-
  When one is to be ready at the latest; is a number one of some?
-/
namespace Go.Lea
open Go.Ev
def mn (a b:Int):Int:=if b<a then b else a
theorem uF {a b c:Int}:c≤mn a b↔c≤a∧c≤b:=by unfold mn;split<;>omega
theorem oj {a b:Int}:mn a b≤a∧mn a b≤b:=by unfold mn;split<;>omega
section
variable {Γ:Nat→Option FD} {ρ:Nat→D} {st:Store} {dr:Bool} {R:(Nat→D)→Store→List Fl→Prop} {l:List Op1} {g:Option (Nat×Bool)} {mv:Bool} {k:Nat} {x y:A}
theorem Bb {κ κ':IntKind} {n m s:Int} (hg:ak ρ g=some true) (hx:x.ev ρ=.int κ n) (hm:mv=false) (hy:y.ev ρ=.int κ' m) (hs:mn n m=s) (h:WS Γ dr l (ap ρ k (.int κ s)) st (nx .n R)):WS Γ dr (⟨some k,g,mv,.min [x,y]⟩::l) ρ st R:=by
 subst hs
 exact sV hg hx hm hy h
end
def kP (x:Eg) (by' sz:Int):Int:=mn (x.en - mx (aT x sz) 1) (by' - aT x sz - x.ow)
def wX (x:Eg) (by' sz:Int):Prop:=fP x by' sz∧sz≤x.ro∧x.op≤kP x by' sz
instance (x:Eg) (t sz:Int):Decidable (wX x t sz):=by unfold wX;infer_instance
def jY (x:Eg) (by' sz:Int):Option Int:=if wX x by' sz then some (kP x by' sz)else none
def po (x:Eg) (by' sz:Int):D:=match jY x by' sz with
 |some t=>.tuple [.int .i64 t,.bool true]
 |none=>.tuple [.int .i64 0,.bool false]
set_option maxHeartbeats 4000000 in
theorem xo (x:Eg) (by' sz:Int):EvP Γ 75 [x.e,.int .i64 by',.int .i64 sz] (po x by' sz):=by
 refine aA rfl rfl ?_
 have hT:=uC x sz
 have hk:=gH x sz
 have hr:=mo x by' sz
 by_cases h1:fP x by' sz
 ·have h1':=h1
  obtain⟨ht,hs,hok⟩:=h1'
  have hop:=hok.2.1.1
  have hen:=hok.2.1.2.1
  have how:=hok.2.1.2.2
  have hm1:=jQ (a:=aT x sz) (b:=1)
  have hmt:mx (aT x sz) 1≤1099511627776:=nQ.mpr ⟨hk.2,by omega⟩
  have hc1:sz≤x.ro→x.op≤kP x by' sz→po x by' sz=.tuple [.int .i64 (kP x by' sz),.bool true]:=fun a b=>by unfold po jY;rw[if_pos ⟨h1,a,b⟩]
  have hc2:¬(sz≤x.ro∧x.op≤kP x by' sz)→po x by' sz=.tuple [.int .i64 0,.bool false]:=fun a=>by unfold po jY;rw[if_neg (fun h=>a h.2)]
  have hle:=oj (a:=x.en - mx (aT x sz) 1) (b:=by' - aT x sz - x.ow)
  have hge: -20000000000000≤mn (x.en - mx (aT x sz) 1) (by' - aT x sz - x.ow):=uF.mpr ⟨by omega,by omega⟩
  unfold kP at hc1 hc2
  rw[decide_eq_true h1]at hr
  clear hok h1
  generalize aT x sz=k at*
  generalize e2:mx k 1=k1 at*
  generalize e3:mn (x.en - k1) (by' - k - x.ow)=m at*
  generalize po x by' sz=T at*
  repeat' (first
 |(refine ai ?_;first
 |refine xI rfl rfl rfl rfl e2 ?_
 |refine Bb rfl rfl rfl rfl e3 ?_
 |refine aj rfl ?_
 |refine mI ?_
 |refine mB ?_
 |refine aj rfl ?_
 |(refine rx rfl rfl rfl rfl ?_ ?_<;>intro _)
 |(refine oU rfl rfl rfl rfl ?_ ?_<;>intro _)
 |refine aS ?_
 |refine aj rfl ?_
 |refine lO (d:=.int _ _) ?_
 |refine lO (d:=.agg [_,_,_,_,_,_,_,_]) ?_
 |refine cA rfl hr ?_
 |refine cA rfl hT ?_
 |refine pB ?_
 |refine ck rfl rfl rfl rfl rfl ?_
 |refine nT ?_
 |refine fD ?_
 |refine aj rfl ?_
 |refine WS_nil ?_)
 |refine WC_seq ?_
 |refine WC_opsS ?_
 |refine WC_skip ?_
 |refine ah rfl ?_
 |refine af rfl ?_
 |refine al ?_)
  all_goals first
   |(rw[hc1 (by omega) (by omega)];exact be (r':=.tuple [.int _ _,.bool _]) (.inr rfl) rfl rfl rfl)
   |(rw[hc2 (by omega)];exact be (r':=.tuple [.int _ _,.bool _]) (.inr rfl) rfl rfl rfl)
   |(exfalso;omega)
 ·have hc2:po x by' sz=.tuple [.int .i64 0,.bool false]:=by unfold po jY;rw[if_neg (fun h=>h1 h.1)]
  rw[decide_eq_false h1]at hr
  rw[hc2]
  repeat' (first
 |(refine ai ?_;first
 |refine aj rfl ?_
 |refine mI ?_
 |refine mB ?_
 |refine aj rfl ?_
 |refine aS ?_
 |refine aj rfl ?_
 |refine lO (d:=.int _ _) ?_
 |refine lO (d:=.agg [_,_,_,_,_,_,_,_]) ?_
 |refine cA rfl hr ?_
 |refine cA rfl hT ?_
 |refine pB ?_
 |refine ck rfl rfl rfl rfl rfl ?_
 |refine nT ?_
 |refine sV rfl rfl rfl rfl ?_
 |refine tI rfl rfl rfl rfl ?_
 |refine fD ?_
 |refine aj rfl ?_
 |refine WS_nil ?_)
 |refine WC_seq ?_
 |refine WC_opsS ?_
 |refine ah rfl ?_
 |refine al ?_)
  all_goals exact be (r':=.tuple [.int _ _,.bool _]) (.inr rfl) rfl rfl rfl
theorem nD {l pre post:List Int} {x:Int} (h:l=pre++x::post):l[pre.length]?=some x:=by rw[h];simp
def kq (n:Int):List Int→Int→Int
 |[],_=> -1
 |x::L,k=>if n=x then k else kq n L (k+1)
theorem uG (n:Int):∀(L:List Int) (k:Int),0≤k→((0≤kq n L k)↔n∈L)∧ -1≤kq n L k
 |[],k,h=>by simp[kq]
 |x::L,k,h=>by
  obtain⟨h1,h2⟩:=uG n L (k+1) (by omega)
  unfold kq
  by_cases e:n=x
  ·rw[if_pos e];simp[e];omega
  ·rw[if_neg e];simp[e,h1,h2]
theorem AD (n:Int) (L:List Int) (hll:L.length≤1073741824) (t:Tok) (s:Nat) (hs:s=1∨L=[]):∀(post pre:List Int),L=pre++post→∀(ρ:Nat→D) (st:Store),
  ρ 0=.slice t s (L.map (D.int .i64))→ρ 1=.int .i64 n→ρ 7=.int .i64 L.length→ρ 8=.int .i64 pre.length→∀(Q:X→(Nat→D)→Store→Prop),
  (kq n post pre.length= -1→∀ρ',Q (.exit 0) ρ' st)→(∀ρ',ρ' 4=.int .i64 (kq n post pre.length)→Q .ret ρ' st)→WC Γ (.loop cG) ρ st Q:=by
 intro post
 induction post with
 |nil=>
  intro pre hpp ρ st h0 h1 h7 h8 Q hQ hQ2
  rw[List.append_nil]at hpp
  subst hpp
  rw[←aa h0,←aa h1,←aa h7,←aa h8]
  refine WC_loop ?_
  repeat' (first
 |(refine ai ?_;first
 |refine lF ?_
 |refine WS_nil ?_)
 |refine WC_seq ?_
 |refine WC_opsS ?_
 |refine af rfl ?_
 |refine WC_exit ?_)
  exact hQ rfl _
 |cons x post ih=>
  intro pre hpp ρ st h0 h1 h7 h8 Q hQ hQ2
  have hv:=nD hpp
  have hlen:L.length=pre.length+(post.length+1):=by rw[hpp];simp
  have hz:s=1:=hs.resolve_right (by rintro rfl;simp at hlen)
  subst hz
  have hpl:pre.length<(L.map (D.int .i64)).length:=by simp;omega
  have hltl:(pre.length:Int)<L.length:=by omega
  have hnext:kq n (x::post) pre.length=kq n post ((pre.length:Int)+1)→∀(ρ':Nat→D),ρ' 0=.slice t 1 (L.map (D.int .i64))→ρ' 1=.int .i64 n→ρ' 7=.int .i64 L.length→ρ' 8=.int .i64 ((pre.length:Int)+1)→WC Γ (.loop cG) ρ' st Q:=fun hx ρ' k0 k1 k7 k8=>
   ih (pre++[x]) (by simp[hpp]) ρ' st k0 k1 k7 (by rw[List.length_append];exact k8) Q (fun h=>hQ (by rw[hx];simpa using h)) (fun ρ'' h=>hQ2 ρ'' (by rw[hx];simpa using h))
  clear ih hQ hpp
  rw[←aa h0,←aa h1,←aa h7,←aa h8]
  refine WC_loop ?_
  by_cases hx:n=x
  ·rw[show kq n (x::post) pre.length=pre.length by simp[kq,hx]]at hQ2
   repeat' (first
 |(refine ai ?_;first
 |refine iA (pre.length) hpl ?_
 |refine fK rfl rfl rfl rfl hx ?_
 |refine mI ?_
 |refine mS ?_
 |refine lT ?_
 |refine lE (d:=.int _ _) hv ?_
 |refine WS_nil ?_)
 |refine WC_seq ?_
 |refine WC_opsS ?_
 |refine WC_skip ?_
 |refine ah rfl ?_
 |refine WC_block ?_
 |refine al ?_)
   exact hQ2 _ rfl
  ·repeat' (first
 |(refine ai ?_;first
 |refine iA (pre.length) hpl ?_
 |refine dz rfl rfl rfl rfl hx ?_
 |refine mI ?_
 |refine mS ?_
 |refine lT ?_
 |refine aD ?_
 |refine lE (d:=.int _ _) hv ?_
 |refine WS_nil ?_)
 |refine WC_seq ?_
 |refine WC_opsS ?_
 |refine WC_skip ?_
 |refine ah rfl ?_
 |refine af rfl ?_
 |refine WC_block ?_)
   refine hnext (by simp[kq,hx]) _ ?_ ?_ ?_ ?_<;>rfl
theorem yl (n:Int) (L:List Int) (hll:L.length≤1073741824) (t:Tok) (s:Nat) (hs:s=1∨L=[]):EvP Γ 77 [.slice t s (L.map (D.int .i64)),.int .i64 n] (.int .i64 (kq n L 0)):=by
 refine aA rfl rfl ?_
 repeat' (first
 |(refine ai ?_;first
 |refine lN ?_
 |refine mI ?_
 |refine mS ?_
 |refine WS_nil ?_)
 |refine WC_seq ?_
 |refine WC_opsS ?_
 |refine WC_block ?_)
 refine AD n L hll t s hs L [] rfl _ _ ?_ ?_ ?_ ?_ _ (fun h ρ'=>?_) (fun ρ' h=>?_)
 all_goals first|rfl|skip
 ·rw[show kq n L 0= -1 from h]
  repeat' (first
 |(refine ai ?_;first
 |refine mI ?_
 |refine WS_nil ?_)
 |refine WC_seq ?_
 |refine WC_opsS ?_
 |refine al ?_)
  exact dH (.inr rfl) rfl rfl
 ·rw[←aa h]
  exact dH (.inr rfl) rfl rfl
theorem kp (n:Int) (L:List Int) (hll:L.length≤1073741824) (t:Tok) (s:Nat) (hs:s=1∨L=[]):EvP Γ 53 [.slice t s (L.map (D.int .i64)),.int .i64 n] (.bool (decide (n∈L))):=by
 refine aA rfl rfl ?_
 have hI:=fun t=>yl n L hll t s hs
 have h1:=(uG n L 0 (Int.le_refl _)).1
 generalize kq n L 0=j at*
 by_cases hn:n∈L
 ·rw[decide_eq_true hn]
  have hj:0≤j:=h1.2 hn
  repeat' (first
 |(refine ai ?_;first
 |refine mI ?_
 |refine mB ?_
 |refine mS ?_
 |refine xq rfl rfl rfl rfl (by omega) ?_
 |refine cA rfl (hI _) ?_
 |refine WS_nil ?_)
 |refine WC_seq ?_
 |refine WC_opsS ?_
 |refine al ?_)
  exact aK (.inr rfl) rfl rfl
 ·rw[decide_eq_false hn]
  have hj:j<0:=by
   rcases Int.lt_or_le j 0 with h|h
   ·exact h
   ·exact absurd (h1.1 h) hn
  repeat' (first
 |(refine ai ?_;first
 |refine mI ?_
 |refine mB ?_
 |refine mS ?_
 |refine sG rfl rfl rfl rfl (by omega) ?_
 |refine cA rfl (hI _) ?_
 |refine WS_nil ?_)
 |refine WC_seq ?_
 |refine WC_opsS ?_
 |refine al ?_)
  exact aK (.inr rfl) rfl rfl
end Go.Lea
/-
  The edges of IDs, one behind the other; is it right to ask?
-/
namespace Go.Lea
open Go.Ev
def kQ (id:Int) (l:List Eg):Option Eg:=l.foldl (fun o x=>if id=x.id then some x else o) none
theorem sA (id:Int) (l:List Eg) (x:Eg):kQ id (l++[x])=if id=x.id then some x else kQ id l:=by simp[kQ]
def KVE (kv:List (Int×D)) (l:List Eg):Prop:=∀id,aL id kv=(kQ id l).map Eg.e
theorem KVE.set {kv:List (Int×D)} {l:List Eg} (h:KVE kv l) (x:Eg):KVE (bM x.id x.e kv) (l++[x]):=fun id=>by
 rw[fy,sA,h id]
 split<;>rfl
set_option maxHeartbeats 4000000 in
theorem AG (l:List Eg) (hll:l.length≤1073741824) (t:Tok) (sz:Nat) (hs:sz=8∨l=[]) (p:Nat) (v1 v2 v6:D):∀(post pre:List Eg),l=pre++post→∀(kv:List (Int×D)),KVE kv pre→∀(ρ:Nat→D) (st:Store),st.lim≤p→p<st.next→st.boxes p=some (.map kv)→
  ρ 1=v1→ρ 2=v2→ρ 6=v6→ρ 8=.map p→ρ 16=.slice t sz (l.map Eg.e)→ρ 17=.int .i64 l.length→ρ 18=.int .i64 pre.length→∀(Q:X→(Nat→D)→Store→Prop),
  (∀ρ' st' kv',KVE kv' l→st'.lim≤p→p<st'.next→st'.boxes p=some (.map kv')→st'.tlim=st.tlim→st'.toks=st.toks→st'.ntok=st.ntok→ρ' 1=v1→ρ' 2=v2→ρ' 6=v6→ρ' 8=.map p→Q (.exit 0) ρ' st')→WC Γ (.loop eT) ρ st Q:=by
 intro post
 induction post with
 |nil=>
  intro pre hpp kv hk ρ st hlim hnx hb h1 h2 h6 h8 h16 h17 h18 Q hQ
  rw[List.append_nil]at hpp
  subst hpp
  rw[←aa h1,←aa h2,←aa h6,←aa h8,←aa h16,←aa h17,←aa h18]
  refine WC_loop ?_
  repeat' (first
 |(refine ai ?_;first
 |refine lF ?_
 |refine WS_nil ?_)
 |refine WC_seq ?_
 |refine WC_opsS ?_
 |refine af rfl ?_
 |refine WC_exit ?_)
  exact hQ _ _ kv hk hlim hnx hb rfl rfl rfl rfl rfl rfl rfl
 |cons x post ih=>
  intro pre hpp kv hk ρ st hlim hnx hb h1 h2 h6 h8 h16 h17 h18 Q hQ
  have hv:=jb hpp
  have hlen:l.length=pre.length+(post.length+1):=by rw[hpp];simp
  have hz:sz=8:=hs.resolve_right (by rintro rfl;simp at hlen)
  subst hz
  have hpl:pre.length<(l.map Eg.e).length:=by simp;omega
  have hltl:(pre.length:Int)<l.length:=by omega
  have hpn:p≠st.next:=Nat.ne_of_lt hnx
  have hlim2:st.lim≤st.next:=by omega
  have hnext:∀(ρ':Nat→D) (st':Store),st'.lim≤p→p<st'.next→st'.boxes p=some (.map (bM x.id x.e kv))→st'.tlim=st.tlim→st'.toks=st.toks→st'.ntok=st.ntok→ρ' 1=v1→ρ' 2=v2→ρ' 6=v6→ρ' 8=.map p→ρ' 16=.slice t 8 (l.map Eg.e)→ρ' 17=.int .i64 l.length→ρ' 18=.int .i64 ((pre.length:Int)+1)→WC Γ (.loop eT) ρ' st' Q:=fun ρ' st' e1 e2 e3 e4 e5 e6 k1 k2 k6 k8 k16 k17 k18=>
   ih (pre++[x]) (by simp[hpp]) _ (hk.set x) ρ' st' e1 e2 e3 k1 k2 k6 k8 k16 k17 (by rw[List.length_append];exact k18) Q (fun ρ'' st'' kv' f0 f1 f2 f3 f4 f5 f6=>hQ ρ'' st'' kv' f0 f1 f2 f3 (f4.trans e4) (f5.trans e5) (f6.trans e6))
  clear ih hQ hpp
  rw[←aa h1,←aa h2,←aa h6,←aa h8,←aa h16,←aa h17,←aa h18]
  refine WC_loop ?_
  repeat' (first
 |(refine ai ?_;first
 |refine iA (pre.length) hpl ?_
 |refine an (cs':=[_,_,_,_,_,_,_,_]) rfl rfl (ae _ _ _) rfl hlim2 rfl rfl rfl ?_
 |refine dk (v:=x.e) rfl rfl rfl ((ab _ _ hpn).trans ((ab _ _ hpn).trans hb)) hlim rfl rfl ?_
 |refine mI ?_
 |refine mM ?_
 |refine lT ?_
 |refine aD ?_
 |refine lE (d:=.agg [_,_,_,_,_,_,_,_]) hv ?_
 |refine am (agg:=false) (d:=.int _ _) rfl rfl rfl (dV rfl) (by first|exact Nat.zero_le _|assumption|exact Nat.le_trans hlim (Nat.zero_le _)|omega) rfl ?_
 |refine am (agg:=true) (d:=.agg [_,_,_,_,_,_,_,_]) rfl rfl rfl (dV rfl) (by first|exact Nat.zero_le _|assumption|exact Nat.le_trans hlim (Nat.zero_le _)|omega) rfl ?_
 |refine fD ?_
 |refine aq rfl rfl ?_
 |refine WS_nil ?_)
 |refine WC_seq ?_
 |refine WC_opsS ?_
 |refine WC_skip ?_
 |refine ah rfl ?_
 |refine WC_block ?_)
  refine hnext _ _ ?_ ?_ ?_ ?_ ?_ ?_ ?_ ?_ ?_ ?_ ?_ ?_ ?_
  ·exact hlim
  ·exact Nat.lt_succ_of_lt hnx
  ·exact ae _ _ _
  all_goals rfl
def bf (l:List Eg):List Int→Int→Option (List Eg)
 |[],_=>some []
 |id::r,fr=>match kQ id l with
  |some e=>if e.fr=fr then(bf l r e.to).map (e:: ·)else none
  |none=>none
theorem yV (l:List Eg) (ids:List Int) (hil:ids.length≤1073741824) (t:Tok) (sz:Nat) (hs:sz=1∨ids=[]) (p:Nat) (kv:List (Int×D)) (hk:KVE kv l):∀(post pre:List Int),ids=pre++post→∀(ρ:Nat→D) (st:Store) (cur:Int) (out:List Eg) (tk:Tok) (so:Nat),out.length≤pre.length→st.lim≤p→p<st.next→st.boxes p=some (.map kv)→st.tlim≤st.ntok→eV st 8 tk so (out.map Eg.e)→
  ρ 2=.int .i64 cur→ρ 6=.slice tk so (out.map Eg.e)→ρ 8=.map p→ρ 27=.slice t sz (ids.map (D.int .i64))→ρ 28=.int .i64 ids.length→ρ 29=.int .i64 pre.length→∀(Q:X→(Nat→D)→Store→Prop),
  (∀m,bf l post cur=some m→∀ρ' st' tk' so',eV st' 8 tk' so' ((out++m).map Eg.e)→ρ' 6=.slice tk' so' ((out++m).map Eg.e)→Q (.exit 2) ρ' st')→(bf l post cur=none→∀ρ' st',ρ' 6=.slice .isnil 0 []→ρ' 7=.bool false→Q .ret ρ' st')→WC Γ (.loop eM) ρ st Q:=by
 intro post
 induction post with
 |nil=>
  intro pre hpp ρ st cur out tk so hol hlim hnx hb htl hO h2 h6 h8 h27 h28 h29 Q hQ hQ2
  rw[List.append_nil]at hpp
  subst hpp
  rw[←aa h2,←aa h6,←aa h8,←aa h27,←aa h28,←aa h29]
  refine WC_loop ?_
  repeat' (first
 |(refine ai ?_;first
 |refine lF ?_
 |refine WS_nil ?_)
 |refine WC_seq ?_
 |refine WC_opsS ?_
 |refine af rfl ?_
 |refine WC_exit ?_)
  exact hQ [] rfl _ _ tk so (by simpa using hO) (by rw[List.append_nil];rfl)
 |cons id post ih=>
  intro pre hpp ρ st cur out tk so hol hlim hnx hb htl hO h2 h6 h8 h27 h28 h29 Q hQ hQ2
  have hv:ids[pre.length]?=some id:=by rw[hpp];simp
  have hlen:ids.length=pre.length+(post.length+1):=by rw[hpp];simp
  have hz:sz=1:=hs.resolve_right (by rintro rfl;simp at hlen)
  subst hz
  have hpl:pre.length<(ids.map (D.int .i64)).length:=by simp;omega
  have hltl:(pre.length:Int)<ids.length:=by omega
  have hpn:p≠st.next:=Nat.ne_of_lt hnx
  have hlim2:st.lim≤st.next:=by omega
  have hkv:=hk id
  rw[←aa h2,←aa h6,←aa h8,←aa h27,←aa h28,←aa h29]
  refine WC_loop ?_
  cases hle:kQ id l with
  |none=>
   rw[hle]at hkv
   have hg1:(aL id kv).getD (.agg [.int .i64 0,.int .i64 0,.int .i64 0,.int .i64 0,.int .i64 0,.int .i64 0,.int .i64 0,.int .i64 0])=.agg [.int .i64 0,.int .i64 0,.int .i64 0,.int .i64 0,.int .i64 0,.int .i64 0,.int .i64 0,.int .i64 0]:=by rw[hkv];rfl
   have hg2:(aL id kv).isSome=false:=by rw[hkv];rfl
   have hn:bf l (id::post) cur=none:=by simp only[bf,hle]
   clear ih hQ
   repeat' (first
 |(refine ai ?_;first
 |refine iA (pre.length) hpl ?_
 |refine an (cs':=[_,_,_,_,_,_,_,_]) rfl rfl (ae _ _ _) rfl hlim2 rfl rfl rfl ?_
 |refine aP rfl rfl rfl hb hg1 hg2 rfl ?_
 |refine aj rfl ?_
 |refine mI ?_
 |refine mB ?_
 |refine mS ?_
 |refine mT ?_
 |refine mM ?_
 |refine aj rfl ?_
 |refine lT ?_
 |refine aj rfl ?_
 |refine lE (d:=.int _ _) hv ?_
 |refine pB ?_
 |refine eB ?_
 |refine eA ?_
 |refine nT ?_
 |refine aq rfl rfl ?_
 |refine aj rfl ?_
 |refine WS_nil ?_)
 |refine WC_seq ?_
 |refine WC_opsS ?_
 |refine WC_skip ?_
 |refine ah rfl ?_
 |refine WC_block ?_
 |refine al ?_)
   all_goals exact hQ2 hn _ _ rfl rfl
  |some e=>
   rw[hle]at hkv
   have hg1:(aL id kv).getD (.agg [.int .i64 0,.int .i64 0,.int .i64 0,.int .i64 0,.int .i64 0,.int .i64 0,.int .i64 0,.int .i64 0])=e.e:=by rw[hkv];rfl
   have hg2:(aL id kv).isSome=true:=by rw[hkv];rfl
   have hstep:bf l (id::post) cur=if e.fr=cur then(bf l post e.to).map (e:: ·)else none:=by simp only[bf,hle]
   by_cases hfr:e.fr=cur
   ·rw[if_pos hfr]at hstep
    have hbd:((out.map Eg.e).length+[e.e].length)*64≤140737488355328:=by simp;omega
    have hnext:∀(ρ':Nat→D) (st':Store) (tk':Tok) (so':Nat),st'.lim≤p→p<st'.next→st'.boxes p=some (.map kv)→st'.tlim≤st'.ntok→eV st' 8 tk' so' ((out++[e]).map Eg.e)→ρ' 2=.int .i64 e.to→ρ' 6=.slice tk' so' ((out++[e]).map Eg.e)→ρ' 8=.map p→ρ' 27=.slice t 1 (ids.map (D.int .i64))→ρ' 28=.int .i64 ids.length→ρ' 29=.int .i64 ((pre.length:Int)+1)→WC Γ (.loop eM) ρ' st' Q:=fun ρ' st' tk' so' e1 e2 e3 e4 e5 k2 k6 k8 k27 k28 k29=>
     ih (pre++[id]) (by simp[hpp]) ρ' st' e.to (out++[e]) tk' so' (by simp;omega) e1 e2 e3 e4 e5 k2 k6 k8 k27 k28 (by rw[List.length_append];exact k29) Q
      (fun m hm ρ'' st'' tk'' so'' f1 f2=>hQ (e::m) (by rw[hstep,hm];rfl) ρ'' st'' tk'' so'' (by simpa using f1) (by rw[f2];simp)) (fun hm ρ'' st'' f1 f2=>hQ2 (by rw[hstep,hm];rfl) ρ'' st'' f1 f2)
    clear ih hQ hQ2 hstep hkv
    repeat' (first
 |(refine ai ?_;first
 |refine iA (pre.length) hpl ?_
 |refine an (cs':=[_,_,_,_,_,_,_,_]) rfl rfl (ae _ _ _) rfl hlim2 rfl rfl rfl ?_
 |(refine iS rfl rfl rfl hO (.inl rfl) hbd htl rfl ?_<;>intro k' st' c1 c2 c3 c4 c5 c6 c7)
 |refine aP rfl rfl rfl hb hg1 hg2 rfl ?_
 |refine mI ?_
 |refine mB ?_
 |refine mS ?_
 |refine mT ?_
 |refine mM ?_
 |refine lT ?_
 |refine fC rfl rfl rfl rfl (by omega) ?_
 |refine aD ?_
 |refine lE (d:=.int _ _) hv ?_
 |refine am (agg:=false) (d:=.int _ _) rfl rfl rfl ((congrArg (fun f=>Option.bind (f st.next) Box.cs) c1).trans (dV rfl)) (Nat.le_trans (Nat.le_of_eq c3) hlim2) rfl ?_
 |refine am (agg:=false) (d:=.int _ _) rfl rfl rfl (dV rfl) (by first|exact Nat.zero_le _|assumption|exact Nat.le_trans hlim (Nat.zero_le _)|omega) rfl ?_
 |refine am (agg:=true) (d:=.agg [_,_,_,_,_,_,_,_]) rfl rfl rfl (dV rfl) (by first|exact Nat.zero_le _|assumption|exact Nat.le_trans hlim (Nat.zero_le _)|omega) rfl ?_
 |refine pB ?_
 |refine eB ?_
 |refine eA ?_
 |refine nT ?_
 |refine fD ?_
 |refine aq rfl rfl ?_
 |refine bh (ys:=[_]) rfl rfl rfl (by decide) rfl ?_
 |refine WS_nil ?_)
 |refine a8 rfl ?_
 |refine WC_seq ?_
 |refine WC_opsS ?_
 |refine bq ?_
 |refine WC_skip ?_
 |refine ah rfl ?_
 |refine af rfl ?_
 |refine WC_block ?_)
    all_goals first
     |(exfalso;omega)
     |skip
    refine hnext _ _ (.own k') 8 ?_ ?_ ?_ c5 (.inr ⟨k',rfl,c6,c7,rfl⟩) ?_ ?_ ?_ ?_ ?_ ?_
    ·rw[c3];exact hlim
    ·rw[c2];exact Nat.lt_succ_of_lt hnx
    ·rw[c1];exact(ab _ _ hpn).trans ((ab _ _ hpn).trans hb)
    all_goals first|rfl|(rw[List.map_append];rfl)
   ·rw[if_neg hfr]at hstep
    clear ih hQ hkv
    repeat' (first
 |(refine ai ?_;first
 |refine iA (pre.length) hpl ?_
 |refine an (cs':=[_,_,_,_,_,_,_,_]) rfl rfl (ae _ _ _) rfl hlim2 rfl rfl rfl ?_
 |refine aP rfl rfl rfl hb hg1 hg2 rfl ?_
 |refine mI ?_
 |refine mB ?_
 |refine mS ?_
 |refine mT ?_
 |refine mM ?_
 |refine lT ?_
 |refine hG rfl rfl rfl rfl (by omega) ?_
 |refine lE (d:=.int _ _) hv ?_
 |refine am (agg:=false) (d:=.int _ _) rfl rfl rfl (dV rfl) (by first|exact Nat.zero_le _|assumption|exact Nat.le_trans hlim (Nat.zero_le _)|omega) rfl ?_
 |refine pB ?_
 |refine eB ?_
 |refine eA ?_
 |refine nT ?_
 |refine fD ?_
 |refine aq rfl rfl ?_
 |refine WS_nil ?_)
 |refine WC_seq ?_
 |refine WC_opsS ?_
 |refine WC_skip ?_
 |refine ah rfl ?_
 |refine WC_block ?_
 |refine al ?_)
    all_goals first
     |exact hQ2 hstep _ _ rfl rfl
     |(exfalso;omega)
end Go.Lea
/-
  A walk by contacts; is it right to ask?
-/
namespace Go.Lea
open Go.Ev
theorem kO (l:List Eg) (hll:l.length≤1073741824) (ids:List Int) (hil:ids.length≤1073741824) (fr:Int) (m:List Eg) (hm:bf l ids fr=some m) (t:Tok) (s:Nat) (hs:s=8∨l=[]) (t':Tok) (s':Nat) (hs':s'=1∨ids=[]):
  EvX Γ 33 [.slice t s (l.map Eg.e),.slice t' s' (ids.map (D.int .i64)),.int .i64 fr] (IsT Eg.e 8 m [.bool true]):=by
 refine cn rfl rfl ?_
 repeat' (first
 |(refine ai ?_;first
 |refine lN ?_
 |refine mI ?_
 |refine mB ?_
 |refine mS ?_
 |refine mM ?_
 |refine eu rfl rfl ?_
 |refine WS_nil ?_)
 |refine WC_seq ?_
 |refine WC_opsS ?_
 |refine WC_block ?_)
 refine AG l hll t s hs 0 (.slice t' s' (ids.map (D.int .i64))) (.int .i64 fr) (.slice .isnil 0 []) l [] rfl [] (fun id=>rfl) _ _ ?_ ?_ ?_ ?_ ?_ ?_ ?_ ?_ ?_ ?_ _ (fun ρ' st' kv hk e1 e2 e3 e4 e5 e6 h1 h2 h6 h8=>?_)
 ·exact Nat.le_refl _
 ·exact Nat.succ_pos _
 all_goals first|rfl|skip
 have htl:st'.tlim≤st'.ntok:=by rw[e4,e6];exact Nat.le_refl _
 rw[←aa h1,←aa h2,←aa h6,←aa h8]
 repeat' (first
 |(refine ai ?_;first
 |refine lN ?_
 |refine mI ?_
 |refine mS ?_
 |refine WS_nil ?_)
 |refine WC_seq ?_
 |refine WC_opsS ?_
 |refine WC_block ?_)
 refine yV l ids hil t' s' hs' 0 kv hk ids [] rfl _ _ fr [] .isnil 0 (Nat.le_refl _) e1 e2 e3 htl (.inl ⟨.inl rfl,.inr ⟨rfl,rfl⟩⟩) ?_ ?_ ?_ ?_ ?_ ?_ _ (fun m' hm' ρ' st'' tk so hO h6=>?_) (fun hm'=>by rw[hm]at hm';cases hm')
 all_goals first|rfl|skip
 rw[hm]at hm'
 cases hm'
 rw[List.nil_append]at hO h6
 rw[←aa h6]
 repeat' (first
 |(refine ai ?_;first
 |refine mB ?_
 |refine mS ?_
 |refine WS_nil ?_)
 |refine WC_seq ?_
 |refine WC_opsS ?_
 |refine al ?_)
 have hso:so=8∨m=[]:=by
  rcases hO with⟨_,h|⟨_,h⟩⟩|⟨_,_,_,_,h⟩
  ·exact .inl h
  ·exact .inr (by simpa using h)
  ·exact .inl h
 exact sB (us:=[.bool true]) (.inr rfl) rfl rfl hso rfl rfl
theorem rC (l:List Eg) (hll:l.length≤1073741824) (ids:List Int) (hil:ids.length≤1073741824) (fr:Int) (hm:bf l ids fr=none) (t:Tok) (s:Nat) (hs:s=8∨l=[]) (t':Tok) (s':Nat) (hs':s'=1∨ids=[]):
  EvP Γ 33 [.slice t s (l.map Eg.e),.slice t' s' (ids.map (D.int .i64)),.int .i64 fr] (.tuple [.slice .isnil 0 [],.bool false]):=by
 refine aA rfl rfl ?_
 repeat' (first
 |(refine ai ?_;first
 |refine lN ?_
 |refine mI ?_
 |refine mB ?_
 |refine mS ?_
 |refine mM ?_
 |refine eu rfl rfl ?_
 |refine WS_nil ?_)
 |refine WC_seq ?_
 |refine WC_opsS ?_
 |refine WC_block ?_)
 refine AG l hll t s hs 0 (.slice t' s' (ids.map (D.int .i64))) (.int .i64 fr) (.slice .isnil 0 []) l [] rfl [] (fun id=>rfl) _ _ ?_ ?_ ?_ ?_ ?_ ?_ ?_ ?_ ?_ ?_ _ (fun ρ' st' kv hk e1 e2 e3 e4 e5 e6 h1 h2 h6 h8=>?_)
 ·exact Nat.le_refl _
 ·exact Nat.succ_pos _
 all_goals first|rfl|skip
 have htl:st'.tlim≤st'.ntok:=by rw[e4,e6];exact Nat.le_refl _
 rw[←aa h1,←aa h2,←aa h6,←aa h8]
 repeat' (first
 |(refine ai ?_;first
 |refine lN ?_
 |refine mI ?_
 |refine mS ?_
 |refine WS_nil ?_)
 |refine WC_seq ?_
 |refine WC_opsS ?_
 |refine WC_block ?_)
 refine yV l ids hil t' s' hs' 0 kv hk ids [] rfl _ _ fr [] .isnil 0 (Nat.le_refl _) e1 e2 e3 htl (.inl ⟨.inl rfl,.inr ⟨rfl,rfl⟩⟩) ?_ ?_ ?_ ?_ ?_ ?_ _ (fun m' hm'=>by rw[hm]at hm';cases hm') (fun _ ρ' st'' h6 h7=>?_)
 all_goals first|rfl|skip
 rw[←aa h6,←aa h7]
 exact⟨.inr rfl,rfl⟩
structure Hp where
 id:Int
 se:Int
 ar:Int
deriving DecidableEq
def Hp.e (r:Hp):D:=.agg [.int .i64 r.id,.int .i64 r.se,.int .i64 r.ar]
def qe (e:Eg) (t sz:Int):Hp:=⟨e.id,mx t e.op,aJ e t sz⟩
def fX (sz:Int):List Eg→Int→Option (List Hp)
 |[],_=>some []
 |e::r,t=>if di e t sz then(fX sz r (aJ e t sz)).map (qe e t sz:: ·)else none
set_option maxHeartbeats 4000000 in
theorem tz (sz:Int) (m:List Eg) (hml:m.length≤1073741824) (t:Tok) (s:Nat) (hs:s=8∨m=[]):∀(post pre:List Eg),m=pre++post→∀(ρ:Nat→D) (st:Store) (now:Int) (out:List Hp) (tk:Tok) (so:Nat),out.length≤pre.length→st.lim≤st.next→st.tlim≤st.ntok→eV st 3 tk so (out.map Hp.e)→
  ρ 3=.int .i64 now→ρ 4=.int .i64 sz→ρ 14=.slice tk so (out.map Hp.e)→ρ 38=.slice t s (m.map Eg.e)→ρ 39=.int .i64 m.length→ρ 40=.int .i64 pre.length→∀(Q:X→(Nat→D)→Store→Prop),
  (∀h,fX sz post now=some h→∀ρ' st' tk' so',eV st' 3 tk' so' ((out++h).map Hp.e)→ρ' 14=.slice tk' so' ((out++h).map Hp.e)→Q (.exit 0) ρ' st')→(fX sz post now=none→∀ρ' st',ρ' 10=.slice .isnil 0 []→ρ' 11=.bool false→Q .ret ρ' st')→WC Γ (.loop fM) ρ st Q:=by
 intro post
 induction post with
 |nil=>
  intro pre hpp ρ st now out tk so hol hlim htl hO h3 h4 h14 h38 h39 h40 Q hQ hQ2
  rw[List.append_nil]at hpp
  subst hpp
  rw[←aa h3,←aa h4,←aa h14,←aa h38,←aa h39,←aa h40]
  refine WC_loop ?_
  repeat' (first
 |(refine ai ?_;first
 |refine lF ?_
 |refine WS_nil ?_)
 |refine WC_seq ?_
 |refine WC_opsS ?_
 |refine af rfl ?_
 |refine WC_exit ?_)
  exact hQ [] rfl _ _ tk so (by simpa using hO) (by rw[List.append_nil];rfl)
 |cons e post ih=>
  intro pre hpp ρ st now out tk so hol hlim htl hO h3 h4 h14 h38 h39 h40 Q hQ hQ2
  have hv:=jb hpp
  have hlen:m.length=pre.length+(post.length+1):=by rw[hpp];simp
  have hz:s=8:=hs.resolve_right (by rintro rfl;simp at hlen)
  subst hz
  have hpl:pre.length<(m.map Eg.e).length:=by simp;omega
  have hltl:(pre.length:Int)<m.length:=by omega
  have hP:=sN e now sz
  unfold rq at hP
  rw[←aa h3,←aa h4,←aa h14,←aa h38,←aa h39,←aa h40]
  refine WC_loop ?_
  by_cases hc:di e now sz
  ·rw[if_pos hc]at hP
   have hstep:fX sz (e::post) now=(fX sz post (aJ e now sz)).map (qe e now sz:: ·):=by simp only[fX,if_pos hc]
   have hbd:((out.map Hp.e).length+[D.agg [.int .i64 e.id,.int .i64 (mx now e.op),.int .i64 (aJ e now sz)]].length)*24≤140737488355328:=by simp;omega
   have hnext:∀(ρ':Nat→D) (st':Store) (tk':Tok) (so':Nat),st'.lim≤st'.next→st'.tlim≤st'.ntok→eV st' 3 tk' so' ((out++[qe e now sz]).map Hp.e)→ρ' 3=.int .i64 (aJ e now sz)→ρ' 4=.int .i64 sz→ρ' 14=.slice tk' so' ((out++[qe e now sz]).map Hp.e)→ρ' 38=.slice t 8 (m.map Eg.e)→ρ' 39=.int .i64 m.length→ρ' 40=.int .i64 ((pre.length:Int)+1)→WC Γ (.loop fM) ρ' st' Q:=fun ρ' st' tk' so' e1 e2 e3 k3 k4 k14 k38 k39 k40=>
    ih (pre++[e]) (by simp[hpp]) ρ' st' _ _ tk' so' (by simp;omega) e1 e2 e3 k3 k4 k14 k38 k39 (by rw[List.length_append];exact k40) Q
     (fun h hh ρ'' st'' tk'' so'' f1 f2=>hQ _ (by rw[hstep,hh];rfl) ρ'' st'' tk'' so'' (by simpa using f1) (by rw[f2];simp)) (fun hh ρ'' st'' f1 f2=>hQ2 (by rw[hstep,hh];rfl) ρ'' st'' f1 f2)
   clear ih hQ hQ2 hstep
   repeat' (first
 |(refine ai ?_;first
 |refine iA (pre.length) hpl ?_
 |refine an (cs':=[_,_,_,_,_,_,_,_]) rfl rfl (ae _ _ _) rfl hlim rfl rfl rfl ?_
 |(refine iS rfl rfl rfl hO (.inl rfl) hbd htl rfl ?_<;>intro k' st' c1 c2 c3 c4 c5 c6 c7)
 |refine mI ?_
 |refine mB ?_
 |refine mS ?_
 |refine mT ?_
 |refine lT ?_
 |refine aD ?_
 |refine lE (d:=.agg [_,_,_,_,_,_,_,_]) hv ?_
 |refine am (agg:=false) (d:=.int _ _) rfl rfl rfl (dV rfl) (by first|exact Nat.zero_le _|assumption|exact Nat.le_trans hlim (Nat.zero_le _)|omega) rfl ?_
 |refine am (agg:=true) (d:=.agg [_,_,_,_,_,_,_,_]) rfl rfl rfl (dV rfl) (by first|exact Nat.zero_le _|assumption|exact Nat.le_trans hlim (Nat.zero_le _)|omega) rfl ?_
 |refine cA rfl hP ?_
 |refine eI ?_
 |refine eB ?_
 |refine bi (cs:=[_,_,_]) rfl rfl rfl ?_
 |refine nT ?_
 |refine fD ?_
 |refine aq rfl rfl ?_
 |refine bh (ys:=[_]) rfl rfl rfl (by decide) rfl ?_
 |refine WS_nil ?_)
 |refine WC_seq ?_
 |refine WC_opsS ?_
 |refine WC_skip ?_
 |refine ah rfl ?_
 |refine af rfl ?_
 |refine WC_block ?_)
   refine hnext _ _ (.own k') 3 ?_ c5 (.inr ⟨k',rfl,c6,c7,rfl⟩) ?_ ?_ ?_ ?_ ?_ ?_
   ·rw[c3,c2];exact Nat.le_succ_of_le hlim
   all_goals first|rfl|(rw[List.map_append];rfl)
  ·rw[if_neg hc]at hP
   have hstep:fX sz (e::post) now=none:=by simp only[fX,if_neg hc]
   clear ih hQ
   repeat' (first
 |(refine ai ?_;first
 |refine iA (pre.length) hpl ?_
 |refine an (cs':=[_,_,_,_,_,_,_,_]) rfl rfl (ae _ _ _) rfl hlim rfl rfl rfl ?_
 |refine mI ?_
 |refine mB ?_
 |refine mS ?_
 |refine mT ?_
 |refine lT ?_
 |refine lE (d:=.agg [_,_,_,_,_,_,_,_]) hv ?_
 |refine am (agg:=true) (d:=.agg [_,_,_,_,_,_,_,_]) rfl rfl rfl (dV rfl) (by first|exact Nat.zero_le _|assumption|exact Nat.le_trans hlim (Nat.zero_le _)|omega) rfl ?_
 |refine cA rfl hP ?_
 |refine eI ?_
 |refine eB ?_
 |refine nT ?_
 |refine aq rfl rfl ?_
 |refine WS_nil ?_)
 |refine WC_seq ?_
 |refine WC_opsS ?_
 |refine WC_skip ?_
 |refine ah rfl ?_
 |refine WC_block ?_
 |refine al ?_)
   exact hQ2 hstep _ _ rfl rfl
def db (l:List Eg) (ids:List Int) (fr now sz:Int):Option (List Hp):=if br l fr now sz then(bf l ids fr).bind fun m=>fX sz m now else none
theorem gO (l:List Eg):∀(ids:List Int) (fr:Int) (m:List Eg),bf l ids fr=some m→m.length=ids.length
 |[],fr,m,h=>by cases h;rfl
 |id::ids,fr,m,h=>by
  simp only[bf]at h
  split at h
  ·split at h
   ·obtain⟨m',h1,rfl⟩:=Option.map_eq_some_iff.mp h
    simp[gO l ids _ m' h1]
   ·cases h
  ·cases h
set_option maxHeartbeats 4000000 in
theorem qf (l:List Eg) (hll:l.length≤1073741824) (ids:List Int) (hil:ids.length≤1073741824) (fr now sz:Int) (h:List Hp) (hw:db l ids fr now sz=some h) (t:Tok) (s:Nat) (hs:s=8∨l=[]) (t':Tok) (s':Nat) (hs':s'=1∨ids=[]):
  EvX Γ 48 [.slice t s (l.map Eg.e),.slice t' s' (ids.map (D.int .i64)),.int .i64 fr,.int .i64 now,.int .i64 sz] (IsT Hp.e 3 h [.bool true]):=by
 refine cn rfl rfl ?_
 unfold db at hw
 split at hw
 ·rename_i ha
  obtain⟨m,hm,hh⟩:=Option.bind_eq_some_iff.mp hw
  have hml:=gO l ids fr m hm
  have hS:=fun t t'=>kO l hll ids hil fr m hm t s hs t' s' hs'
  have hA:=fun t=>iT l hll fr now sz t s hs
  rw[decide_eq_true ha]at hA
  repeat' (first
 |(refine ai ?_;first
 |refine lN ?_
 |refine mI ?_
 |refine mB ?_
 |refine mS ?_
 |refine mT ?_
 |refine cA rfl (hA _) ?_
 |(refine fw rfl rfl rfl (hS _ _) rfl ?_;intro tm sm hsm tk2 nt2)
 |refine pB ?_
 |refine eB ?_
 |refine eS ?_
 |refine nT ?_
 |refine WS_nil ?_)
 |refine WC_seq ?_
 |refine WC_opsS ?_
 |refine WC_skip ?_
 |refine af rfl ?_
 |refine WC_block ?_)
  refine tz sz m (by omega) tm sm hsm m [] rfl _ _ now [] .isnil 0 (Nat.le_refl _) (Nat.le_refl _) (Nat.zero_le _) (.inl ⟨.inl rfl,.inr ⟨rfl,rfl⟩⟩) ?_ ?_ ?_ ?_ ?_ ?_ _ (fun h' hh' ρ' st' tk so hO h14=>?_) (fun hh'=>by rw[hh]at hh';cases hh')
  all_goals first|rfl|skip
  rw[hh]at hh'
  cases hh'
  rw[List.nil_append]at hO h14
  rw[←aa h14]
  repeat' (first
 |(refine ai ?_;first
 |refine mB ?_
 |refine mS ?_
 |refine WS_nil ?_)
 |refine WC_seq ?_
 |refine WC_opsS ?_
 |refine al ?_)
  have hso:so=3∨h=[]:=by
   rcases hO with⟨_,h|⟨_,h⟩⟩|⟨_,_,_,_,h⟩
   ·exact .inl h
   ·exact .inr (by simpa using h)
   ·exact .inl h
  exact sB (us:=[.bool true]) (.inr rfl) rfl rfl hso rfl rfl
 ·cases hw
set_option maxHeartbeats 4000000 in
theorem pg (l:List Eg) (hll:l.length≤1073741824) (ids:List Int) (hil:ids.length≤1073741824) (fr now sz:Int) (hw:db l ids fr now sz=none) (t:Tok) (s:Nat) (hs:s=8∨l=[]) (t':Tok) (s':Nat) (hs':s'=1∨ids=[]):
  EvP Γ 48 [.slice t s (l.map Eg.e),.slice t' s' (ids.map (D.int .i64)),.int .i64 fr,.int .i64 now,.int .i64 sz] (.tuple [.slice .isnil 0 [],.bool false]):=by
 refine aA rfl rfl ?_
 unfold db at hw
 have hA:=fun t=>iT l hll fr now sz t s hs
 cases hm:bf l ids fr with
 |none=>
  have hS:=fun t t'=>rC l hll ids hil fr hm t s hs t' s' hs'
  repeat' (first
 |(refine ai ?_;first
 |refine aj rfl ?_
 |refine mI ?_
 |refine mB ?_
 |refine mS ?_
 |refine mT ?_
 |refine aj rfl ?_
 |refine cA rfl (hS _ _) ?_
 |refine pB ?_
 |refine eB ?_
 |refine eS ?_
 |refine nT ?_
 |refine aj rfl ?_
 |refine WS_nil ?_)
 |refine WC_seq ?_
 |refine WC_opsS ?_
 |refine ah rfl ?_
 |refine al ?_)
  exact⟨.inr rfl,rfl⟩
 |some m=>
  have hml:=gO l ids fr m hm
  have hS:=fun t t'=>kO l hll ids hil fr m hm t s hs t' s' hs'
  by_cases ha:br l fr now sz
  ·rw[if_pos ha,hm,Option.bind_some]at hw
   rw[decide_eq_true ha]at hA
   repeat' (first
 |(refine ai ?_;first
 |refine lN ?_
 |refine mI ?_
 |refine mB ?_
 |refine mS ?_
 |refine mT ?_
 |refine cA rfl (hA _) ?_
 |(refine fw rfl rfl rfl (hS _ _) rfl ?_;intro tm sm hsm tk2 nt2)
 |refine pB ?_
 |refine eB ?_
 |refine eS ?_
 |refine nT ?_
 |refine WS_nil ?_)
 |refine WC_seq ?_
 |refine WC_opsS ?_
 |refine WC_skip ?_
 |refine af rfl ?_
 |refine WC_block ?_)
   refine tz sz m (by omega) tm sm hsm m [] rfl _ _ now [] .isnil 0 (Nat.le_refl _) (Nat.le_refl _) (Nat.zero_le _) (.inl ⟨.inl rfl,.inr ⟨rfl,rfl⟩⟩) ?_ ?_ ?_ ?_ ?_ ?_ _ (fun h' hh'=>by rw[hw]at hh';cases hh') (fun _ ρ' st' h10 h11=>?_)
   all_goals first|rfl|skip
   rw[←aa h10,←aa h11]
   exact⟨.inr rfl,rfl⟩
  ·rw[decide_eq_false ha]at hA
   repeat' (first
 |(refine ai ?_;first
 |refine mI ?_
 |refine mB ?_
 |refine mS ?_
 |refine mT ?_
 |refine cA rfl (hA _) ?_
 |(refine fw rfl rfl rfl (hS _ _) rfl ?_;intro tm sm hsm tk2 nt2)
 |refine pB ?_
 |refine eB ?_
 |refine eS ?_
 |refine nT ?_
 |refine WS_nil ?_)
 |refine WC_seq ?_
 |refine WC_opsS ?_
 |refine ah rfl ?_
 |refine al ?_)
   exact⟨.inr rfl,rfl⟩
theorem xY (l:List Eg) (hll:l.length≤1073741824) (fr now sz:Int) (t:Tok) (s:Nat) (hs:s=8∨l=[]):EvP Γ 38 [.slice t s (l.map Eg.e),.int .i64 fr,.int .i64 now,.int .i64 sz] (.bool (decide (br l fr now sz))):=by
 refine aA rfl rfl ?_
 by_cases ha:br l fr now sz
 ·have hw:db l [] fr now sz=some []:=by unfold db;rw[if_pos ha];rfl
  have hW:=fun t=>qf l hll [] (by simp) fr now sz [] hw t s hs .isnil 0 (.inr rfl)
  rw[decide_eq_true ha]
  repeat' (first
 |(refine ai ?_;first
 |refine mI ?_
 |refine mB ?_
 |refine mS ?_
 |refine mT ?_
 |(refine fw rfl rfl rfl (hW _) rfl ?_;intro tm sm hsm tk2 nt2)
 |refine eB ?_
 |refine eS ?_
 |refine WS_nil ?_)
 |refine WC_seq ?_
 |refine WC_opsS ?_
 |refine al ?_)
  exact aK (.inr rfl) rfl rfl
 ·have hw:db l [] fr now sz=none:=by unfold db;rw[if_neg ha]
  have hW:=fun t=>pg l hll [] (by simp) fr now sz hw t s hs .isnil 0 (.inr rfl)
  rw[decide_eq_false ha]
  repeat' (first
 |(refine ai ?_;first
 |refine mI ?_
 |refine mB ?_
 |refine mS ?_
 |refine mT ?_
 |refine cA rfl (hW _) ?_
 |refine eB ?_
 |refine eS ?_
 |refine WS_nil ?_)
 |refine WC_seq ?_
 |refine WC_opsS ?_
 |refine al ?_)
  exact aK (.inr rfl) rfl rfl
end Go.Lea
/-
  Who is where at the earliest, as plain lists: the earliest one goes on first.
-/
namespace Go.Lea
def i6 (out:List Rd) (n:Int):Bool:=out.any fun r=>decide (r.node=n)
theorem ur {out:List Rd} {n:Int}:i6 out n=true↔∃r∈out,r.node=n:=by simp[i6]
theorem zz {out:List Rd} {n:Int}:i6 out n=false↔∀r∈out,r.node≠n:=by simp[i6]
section
variable (ps:Eg→Int→Option Int) (cl:Int→Bool)
def eH (out:List Rd) (t:Int) (s:List Rd) (e:Eg):List Rd:=match ps e t with
 |some u=>if i6 out e.to||cl e.to then s else vw ⟨e.to,u⟩ s
 |none=>s
def cF (out:List Rd) (t:Int) (es:List Eg) (s:List Rd):List Rd:=es.foldl (eH ps cl out t) s
def qk (l:List Eg):Nat→List Rd→List Rd→List Rd
 |0,out,_=>out
 |_+1,out,[]=>out
 |n+1,out,r::s=>if i6 out r.node then qk l n out s else qk l n (out++[r]) (cF ps cl (out++[r]) r.at' (bD r.node l) s)
inductive Reach (l:List Eg) (fr now:Int):Int→Int→Prop where
 |here:Reach l fr now fr now
 |go {n t u:Int} {e:Eg} (h:Reach l fr now n t) (he:e∈l) (hf:e.fr=n) (hp:ps e t=some u) (hc:cl e.to=false):Reach l fr now e.to u
def j7 (l:List Eg) (out s:List Rd):Nat:=s.length+(l.filter fun e=> !i6 out e.fr).length
variable {ps cl}
theorem yc {r x:Rd} {s:List Rd}:x∈vw r s↔x=r∨x∈s:=by
 rw[(gz r s).mem_iff,List.mem_cons]
theorem vI {out:List Rd} {t:Int} {s:List Rd} {e:Eg} {x:Rd}:x∈eH ps cl out t s e↔x∈s∨(x.node=e.to∧ps e t=some x.at'∧i6 out e.to=false∧cl e.to=false):=by
 unfold eH
 cases hp:ps e t with
 |none=>simp
 |some u=>
  simp only[Option.some.injEq]
  by_cases hv:(i6 out e.to||cl e.to)=true
  ·rw[if_pos hv]
   constructor
   ·exact .inl
   ·rintro (h|⟨_,_,h1,h2⟩)
    ·exact h
    ·rw[h1,h2]at hv
     cases hv
  ·rw[if_neg hv,yc]
   have hv':i6 out e.to=false∧cl e.to=false:=by
    cases h1:i6 out e.to<;>cases h2:cl e.to<;>simp[h1,h2]at hv ⊢
   obtain⟨n,a⟩:=x
   simp only[Rd.mk.injEq]
   constructor
   ·rintro (⟨rfl,rfl⟩|h)
    ·exact .inr ⟨rfl,rfl,hv'⟩
    ·exact .inl h
   ·rintro (h|⟨h1,h2,_⟩)
    ·exact .inr h
    ·exact .inl ⟨h1,h2.symm⟩
theorem fL {out:List Rd} {t:Int}:∀{es:List Eg} {s:List Rd} {x:Rd},x∈cF ps cl out t es s↔x∈s∨∃e∈es,x.node=e.to∧ps e t=some x.at'∧i6 out e.to=false∧cl e.to=false
 |[],s,x=>by simp[cF]
 |e::es,s,x=>by
  rw[cF,List.foldl_cons]
  have ih:=fL (out:=out) (t:=t) (es:=es) (s:=eH ps cl out t s e) (x:=x)
  rw[cF]at ih
  rw[ih,vI]
  simp only[List.mem_cons,exists_eq_or_imp,or_assoc]
theorem oO {out:List Rd} {t:Int} {s:List Rd} {e:Eg}:(eH ps cl out t s e).length≤s.length+1:=by
 unfold eH
 split
 ·split
  ·omega
  ·rw[(gz _ s).length_eq];simp
 ·omega
theorem mw {out:List Rd} {t:Int}:∀{es:List Eg} {s:List Rd},(cF ps cl out t es s).length≤s.length+es.length
 |[],s=>by simp[cF]
 |e::es,s=>by
  have ih:=mw (out:=out) (t:=t) (es:=es) (s:=eH ps cl out t s e)
  have:=oO (ps:=ps) (cl:=cl) (out:=out) (t:=t) (s:=s) (e:=e)
  rw[cF]at ih ⊢
  rw[List.foldl_cons,List.length_cons]
  omega
theorem vm {out:List Rd} {t:Int} {s:List Rd} {e:Eg} (h:xz s):xz (eH ps cl out t s e):=by
 unfold eH
 split
 ·split
  ·exact h
  ·exact pt _ s h
 ·exact h
theorem nO {out:List Rd} {t:Int}:∀{es:List Eg} {s:List Rd},xz s→xz (cF ps cl out t es s)
 |[],s,h=>h
 |e::es,s,h=>nO (es:=es) (vm h)
theorem kC (out:List Rd) (r:Rd) (n:Int):i6 (out++[r]) n=(i6 out n||decide (r.node=n)):=by
 simp[i6,List.any_append]
theorem tL (l:List Eg) (out:List Rd) (r:Rd) (hv:i6 out r.node=false):(l.filter fun e=> !i6 out e.fr).length=(l.filter fun e=> !i6 (out++[r]) e.fr).length+(bD r.node l).length:=by
 unfold bD
 induction l with
 |nil=>rfl
 |cons e l ih=>
  simp only[List.filter_cons,kC]
  by_cases he:e.fr=r.node
  ·rw[he,hv]
   simp only[Bool.false_or,decide_true,Bool.not_false,Bool.not_true,if_true,List.length_cons,Bool.false_eq_true,if_false]
   rw[show (List.filter (fun e=> !i6 (out++[r]) e.fr) l)=(List.filter (fun e=> !(i6 out e.fr||decide (r.node=e.fr))) l)by simp only[kC]]at ih
   rw[ih]
   omega
  ·have he':¬r.node=e.fr:=fun h=>he h.symm
   simp only[he,he',decide_false,Bool.or_false,Bool.false_eq_true,if_false]
   rw[show (List.filter (fun e=> !i6 (out++[r]) e.fr) l)=(List.filter (fun e=> !(i6 out e.fr||decide (r.node=e.fr))) l)by simp only[kC]]at ih
   cases hvv:i6 out e.fr
   ·simp only[Bool.not_false,if_true,List.length_cons]
    omega
   ·simp only[Bool.not_true,Bool.false_eq_true,if_false]
    exact ih
theorem oG {l:List Eg} {out s:List Rd} {r:Rd}:j7 l out s+1=j7 l out (r::s):=by
 unfold j7
 rw[List.length_cons]
 omega
theorem tY {l:List Eg} {out s:List Rd} {r:Rd} (hv:i6 out r.node=false):j7 l (out++[r]) (cF ps cl (out++[r]) r.at' (bD r.node l) s)+1≤j7 l out (r::s):=by
 have h1:=mw (ps:=ps) (cl:=cl) (out:=out++[r]) (t:=r.at') (es:=bD r.node l) (s:=s)
 have h2:=tL l out r hv
 unfold j7
 rw[List.length_cons,h2]
 omega
structure DI (ps:Eg→Int→Option Int) (cl:Int→Bool) (l:List Eg) (fr now:Int) (out s:List Rd):Prop where
 p1:∀x,x∈out∨x∈s→Reach ps cl l fr now x.node x.at'
 p2:(out.map Rd.node).Nodup
 p3:∀x∈out,∀y∈s,x.at'≤y.at'
 p4:∀x∈out,∀e∈l,e.fr=x.node→∀u,ps e x.at'=some u→cl e.to=false→∃y,(y∈out∨y∈s)∧y.node=e.to∧y.at'≤u
 p5:xz s
 p6:∃y,(y∈out∨y∈s)∧y.node=fr∧y.at'≤now
structure IsT (ps:Eg→Int→Option Int) (cl:Int→Bool) (l:List Eg) (fr now:Int) (out:List Rd):Prop where
 t1:∀x∈out,Reach ps cl l fr now x.node x.at'
 t2:(out.map Rd.node).Nodup
 t3:∀n t,Reach ps cl l fr now n t→∃y∈out,y.node=n∧y.at'≤t
theorem xK {r:Rd} {s:List Rd} (h:xz (r::s)):∀y∈s,r.at'≤y.at':=fun y hy=>by
 have:=h.1 y hy
 unfold Rd.lt at this
 omega
theorem DI.start {l:List Eg} {fr now:Int}:DI ps cl l fr now [] [⟨fr,now⟩]:=
 ⟨(fun x h=>by
   rcases h with h|h
   ·cases h
   ·rw[List.mem_singleton]at h
    subst h
    exact .here),by simp,(fun x h=>by cases h),(fun x h=>by cases h),⟨(fun y h=>by cases h),trivial⟩,⟨⟨fr,now⟩,.inr (by simp),rfl,Int.le_refl _⟩⟩
theorem DI.skip {l:List Eg} {fr now:Int} {out s:List Rd} {r:Rd} (h:DI ps cl l fr now out (r::s)) (hv:i6 out r.node=true):DI ps cl l fr now out s:=by
 obtain⟨z,hz,hzn⟩:=ur.mp hv
 have hzr:z.at'≤r.at':=h.p3 z hz r List.mem_cons_self
 refine⟨fun x hx=>h.p1 x (hx.imp id (List.mem_cons_of_mem _)),h.p2,fun x hx y hy=>h.p3 x hx y (List.mem_cons_of_mem _ hy),fun x hx e he hf u hp hc=>?_,h.p5.2,?_⟩
 ·obtain⟨y,hy,h1,h2⟩:=h.p4 x hx e he hf u hp hc
  rcases hy with hy|hy
  ·exact⟨y,.inl hy,h1,h2⟩
  ·rcases List.mem_cons.mp hy with rfl|hy
   ·exact⟨z,.inl hz,hzn.trans h1,by omega⟩
   ·exact⟨y,.inr hy,h1,h2⟩
 ·obtain⟨y,hy,h1,h2⟩:=h.p6
  rcases hy with hy|hy
  ·exact⟨y,.inl hy,h1,h2⟩
  ·rcases List.mem_cons.mp hy with rfl|hy
   ·exact⟨z,.inl hz,hzn.trans h1,by omega⟩
   ·exact⟨y,.inr hy,h1,h2⟩
theorem DI.go {l:List Eg} {fr now:Int} {out s:List Rd} {r:Rd} (hge:∀e t u,ps e t=some u→t≤u) (h:DI ps cl l fr now out (r::s)) (hv:i6 out r.node=false):DI ps cl l fr now (out++[r]) (cF ps cl (out++[r]) r.at' (bD r.node l) s):=by
 have hr:=h.p1 r (.inr List.mem_cons_self)
 have hold:∀y,y∈s→y∈cF ps cl (out++[r]) r.at' (bD r.node l) s:=fun y hy=>fL.mpr (.inl hy)
 have hlift:∀y,(y∈out∨y∈r::s)→(y∈out++[r]∨y∈cF ps cl (out++[r]) r.at' (bD r.node l) s):=fun y hy=>by
  rcases hy with hy|hy
  ·exact .inl (List.mem_append_left _ hy)
  ·rcases List.mem_cons.mp hy with rfl|hy
   ·exact .inl (List.mem_append_right _ (by simp))
   ·exact .inr (hold y hy)
 refine⟨fun x hx=>?_,?_,fun x hx y hy=>?_,fun x hx e he hf u hp hc=>?_,nO h.p5.2,?_⟩
 ·rcases hx with hx|hx
  ·rcases List.mem_append.mp hx with hx|hx
   ·exact h.p1 x (.inl hx)
   ·rw[List.mem_singleton]at hx
    subst hx
    exact hr
  ·rcases fL.mp hx with hx|⟨e,he,h1,h2,_,h4⟩
   ·exact h.p1 x (.inr (List.mem_cons_of_mem _ hx))
   ·obtain⟨he1,he2⟩:=List.mem_filter.mp he
    rw[h1]
    exact .go hr he1 (of_decide_eq_true he2) h2 h4
 ·rw[List.map_append,List.nodup_append]
  refine⟨h.p2,by simp,fun a ha b hb=>?_⟩
  obtain⟨x,hx,rfl⟩:=List.mem_map.mp ha
  simp only[List.map_cons,List.map_nil,List.mem_singleton]at hb
  subst hb
  exact zz.mp hv x hx
 ·have hxr:x.at'≤r.at':=by
   rcases List.mem_append.mp hx with hx|hx
   ·exact h.p3 x hx r List.mem_cons_self
   ·rw[List.mem_singleton]at hx
    subst hx
    exact Int.le_refl _
  rcases fL.mp hy with hy|⟨e,he,h1,h2,_⟩
  ·have:=xK h.p5 y hy
   omega
  ·have:=hge e _ _ h2
   omega
 ·rcases List.mem_append.mp hx with hx|hx
  ·obtain⟨y,hy,h1,h2⟩:=h.p4 x hx e he hf u hp hc
   exact⟨y,hlift y hy,h1,h2⟩
  ·rw[List.mem_singleton]at hx
   subst hx
   by_cases hvt:i6 (out++[x]) e.to=true
   ·obtain⟨z,hz,hzn⟩:=ur.mp hvt
    refine⟨z,.inl hz,hzn,?_⟩
    have hu:=hge e _ _ hp
    have hzx:z.at'≤x.at':=by
     rcases List.mem_append.mp hz with hz|hz
     ·exact h.p3 z hz x List.mem_cons_self
     ·rw[List.mem_singleton]at hz
      subst hz
      exact Int.le_refl _
    omega
   ·exact⟨⟨e.to,u⟩,.inr (fL.mpr (.inr ⟨e,List.mem_filter.mpr ⟨he,decide_eq_true hf⟩,rfl,hp,by simpa using hvt,hc⟩)),rfl,Int.le_refl _⟩
 ·obtain⟨y,hy,h1,h2⟩:=h.p6
  exact⟨y,hlift y hy,h1,h2⟩
theorem DI.done {l:List Eg} {fr now:Int} {out:List Rd} (hmo:∀e t t' u,ps e t=some u→t'≤t→(∃a b,Reach ps cl l fr now a b∧b=t')→∃u',u'≤u∧ps e t'=some u') (h:DI ps cl l fr now out []):IsT ps cl l fr now out:=by
 refine⟨fun x hx=>h.p1 x (.inl hx),h.p2,fun n t hr=>?_⟩
 induction hr with
 |here=>
  obtain⟨y,hy,h1,h2⟩:=h.p6
  rcases hy with hy|hy
  ·exact⟨y,hy,h1,h2⟩
  ·cases hy
 | @go n t u e hr he hf hp hc ih=>
   obtain⟨y,hy,h1,h2⟩:=ih
   obtain⟨u',hu',hp'⟩:=hmo e t y.at' u hp h2 ⟨_,_,h.p1 y (.inl hy),rfl⟩
   obtain⟨z,hz,h3,h4⟩:=h.p4 y hy e he (hf.trans h1.symm) u' hp' hc
   rcases hz with hz|hz
   ·exact⟨z,hz,h3,by omega⟩
   ·cases hz
theorem pC {l:List Eg} {fr now:Int} (hge:∀e t u,ps e t=some u→t≤u) (hmo:∀e t t' u,ps e t=some u→t'≤t→(∃a b,Reach ps cl l fr now a b∧b=t')→∃u',u'≤u∧ps e t'=some u'):∀(n:Nat) (out s:List Rd),j7 l out s≤n→DI ps cl l fr now out s→IsT ps cl l fr now (qk ps cl l n out s)
 |0,out,s,hm,h=>by
  have hs:s=[]:=List.length_eq_zero_iff.mp (by unfold j7 at hm;omega)
  subst hs
  exact h.done hmo
 |n+1,out,[],hm,h=>h.done hmo
 |n+1,out,r::s,hm,h=>by
  rw[qk]
  cases hv:i6 out r.node with
  |true=>
   rw[if_pos rfl]
   exact pC hge hmo n out s (by have:=oG (l:=l) (out:=out) (s:=s) (r:=r);omega) (h.skip hv)
  |false=>
   rw[if_neg (by simp)]
   exact pC hge hmo n _ _ (by have:=tY (ps:=ps) (cl:=cl) (l:=l) (s:=s) hv;omega) (h.go hge hv)
end
end Go.Lea
