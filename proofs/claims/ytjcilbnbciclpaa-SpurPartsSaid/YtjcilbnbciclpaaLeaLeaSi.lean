/-
  Leaving out the edges that are banned.
-/
import Derived.Test.YtjcilbnbciclpaaLeaLeaF
import Derived.Test.YtjcilbnbciclpaaEvEvN
import Derived.Test.YtjcilbnbciclpaaEvEvX12
import Derived.Test.YtjcilbnbciclpaaLeaLeaF
import Derived.Test.YtjcilbnbciclpaaEvEvX4
import Derived.Test.YtjcilbnbciclpaaEvEvX8
set_option linter.unusedVariables false
set_option linter.unusedSimpArgs false
set_option linter.unnecessarySimpa false
namespace Go.Lea
open Go.Ev
def Eg.bn (e:Eg) (na:Int) (bans:List Int):Bool:=decide (e.fr=na)&&decide (e.id∈bans)
def BanB (st:Store) (qa qb:Nat) (na:Int) (ti:Tok) (si:Nat) (ids:List Int):Prop:=(st.boxes qa).bind Box.cs=some [.int .i64 na]∧(st.boxes qb).bind Box.cs=some [.slice ti si (ids.map (D.int .i64))]
theorem BanB.of {st st':Store} {qa qb:Nat} {na:Int} {ti:Tok} {si:Nat} {ids:List Int} (h:BanB st qa qb na ti si ids) (h1:st'.boxes qa=st.boxes qa) (h2:st'.boxes qb=st.boxes qb):BanB st' qa qb na ti si ids:=⟨by rw[h1];exact h.1,by rw[h2];exact h.2⟩
theorem BanB.up {st:Store} {qa qb:Nat} {na:Int} {ti:Tok} {si:Nat} {ids:List Int} (h:BanB st qa qb na ti si ids) {q:Nat} {n2:Nat} {tk:Nat→Bool} {nt l1 l2:Nat} {x:Option Box} (hn:qa<q∧qb<q):BanB ⟨ap st.boxes q x,n2,tk,nt,l1,l2⟩ qa qb na ti si ids:=h.of (ab _ _ (Nat.ne_of_lt hn.1)) (ab _ _ (Nat.ne_of_lt hn.2))
theorem Bs {a b n:Nat} (h:a<n∧b<n):a<n+1∧b<n+1:=⟨Nat.lt_succ_of_lt h.1,Nat.lt_succ_of_lt h.2⟩
theorem yR (na:Int) (ids:List Int) (hl:ids.length≤1073741824) (qa qb:Nat) (ti:Tok) (si:Nat) (hsi:si=1∨ids=[]) (st:Store) (h00:BanB st qa qb na ti si ids) (hn0:qa<st.next∧qb<st.next) (e:Eg):EvRO Γ2 52 [e.e,.ptr qa 0,.ptr qb 0] st (.bool (e.bn na ids)):=by
 have hc:=fun t=>(kp e.id ids hl t si hsi).grow kz
 refine b9 rfl rfl rfl ?_
 unfold Eg.bn
 by_cases hf:e.fr=na
 ·rw[decide_eq_true hf,Bool.true_and]
  generalize decide (e.id∈ids)=bb at*
  repeat' (first
 |(refine ai ?_;first
 |refine fK rfl rfl rfl rfl hf ?_
 |refine mB ?_
 |refine ez (agg:=false) (d:=.int _ _) rfl rfl rfl (xZ (Nat.ne_of_lt hn0.1) h00.1) hn0.1 rfl ?_
 |refine ez (agg:=false) (d:=.slice _ _ _) rfl rfl rfl (xZ (Nat.ne_of_lt hn0.2) h00.2) hn0.2 rfl ?_
 |refine am (agg:=false) (d:=.int _ _) rfl rfl rfl (dV rfl) (Nat.le_refl _) rfl ?_
 |refine cA rfl (hc _) ?_
 |refine pB ?_
 |refine ck rfl rfl rfl rfl rfl ?_
 |refine fD ?_
 |refine WS_nil ?_)
 |refine WC_seq ?_
 |refine WC_opsS ?_
 |refine al ?_)
  exact⟨.inr rfl,rfl⟩
 ·rw[decide_eq_false hf,Bool.false_and]
  repeat' (first
 |(refine ai ?_;first
 |refine dz rfl rfl rfl rfl hf ?_
 |refine mB ?_
 |refine aj rfl ?_
 |refine ez (agg:=false) (d:=.int _ _) rfl rfl rfl (xZ (Nat.ne_of_lt hn0.1) h00.1) hn0.1 rfl ?_
 |refine am (agg:=false) (d:=.int _ _) rfl rfl rfl (dV rfl) (Nat.le_refl _) rfl ?_
 |refine aj rfl ?_
 |refine pB ?_
 |refine ck rfl rfl rfl rfl rfl ?_
 |refine fD ?_
 |refine aj rfl ?_
 |refine WS_nil ?_)
 |refine WC_seq ?_
 |refine WC_opsS ?_
 |refine al ?_)
  exact⟨.inr rfl,rfl⟩
def bA (na:Int) (ids:List Int) (l:List Eg):List Eg:=l.filter (fun e=> !e.bn na ids)
theorem y4 {l:List Eg} {i:Nat} {x:Eg} (h:l[i]?=some x):(l.map Eg.e)[i]?=some (.agg [.int .i64 x.id,.int .i64 x.fr,.int .i64 x.to,.int .i64 x.op,.int .i64 x.en,.int .i64 x.ra,.int .i64 x.ow,.int .i64 x.ro]):=by
 rw[List.getElem?_map,h];rfl
theorem zG {α:Type} {l pre post:List α} {x:α} (h:l=pre++x::post):l[pre.length]?=some x:=by rw[h];simp
theorem qg {l:List Eg}:∀d∈l.map Eg.e,d.cells.length=8:=fun d hd=>by
 obtain⟨e,_,rfl⟩:=List.mem_map.1 hd
 rfl
theorem zM (na:Int) (ids:List Int) (hl:ids.length≤1073741824) (qa qb:Nat) (ti:Tok) (si:Nat) (hsi:si=1∨ids=[]) (l:List Eg) (hll:l.length≤1073741824) (st:Store) (p c:Nat) (h00:BanB st qa qb na ti si ids) (hn0:qa<st.next∧qb<st.next) (hR:RowAt st p 8 (l.map Eg.e)):∀(post pre:List Eg),l=pre++post→(∀b∈pre,b.bn na ids=false)→
  ∀(ρ:Nat→D) (h0:ρ 0=.rs p 0 8 l.length c) (h1:ρ 1=.func 52 [.ptr qa 0,.ptr qb 0]) (h7:ρ 7=.int .i64 l.length) (h8:ρ 8=.int .i64 pre.length) (Q:X→(Nat→D)→Store→Prop),
  ((∀b∈l,b.bn na ids=false)→∀ρ',Q (.exit 0) ρ' st)→(∀(pre':List Eg) (x:Eg) (post':List Eg),l=pre'++x::post'→(∀b∈pre',b.bn na ids=false)→x.bn na ids=true→∀ρ',ρ' 4=.int .i64 pre'.length→Q .ret ρ' st)→WC Γ2 (.loop bI) ρ st Q:=by
 intro post
 induction post with
 |nil=>
  intro pre hp hn ρ h0 h1 h7 h8 Q hQ hQ2
  rw[List.append_nil]at hp
  subst hp
  rw[←aa h0,←aa h1,←aa h7,←aa h8]
  refine WC_loop ?_
  repeat' (first
 |(refine ai ?_;first
 |refine lF ?_
 |refine WS_nil ?_)
 |refine WC_seq ?_
 |refine WC_opsS ?_
 |refine af rfl ?_
 |refine WC_exit ?_)
  exact hQ hn _
 |cons x post ih=>
  intro pre hp hn ρ h0 h1 h7 h8 Q hQ hQ2
  have hv:=y4 (zG hp)
  have hlen:l.length=pre.length+(post.length+1):=by rw[hp];simp
  have hpr:=yR na ids hl qa qb ti si hsi st h00 hn0
  rw[←aa h0,←aa h1,←aa h7,←aa h8]
  refine WC_loop ?_
  repeat' (first
 |(refine ai ?_;first
 |refine mI ?_
 |refine bL (v:=.func _ _) rfl rfl rfl ?_
 |refine mR ?_
 |refine lT ?_
 |refine aD ?_
 |refine ef (j:=pre.length) rfl rfl hR (Nat.zero_add _) qg hv rfl ?_
 |(refine ld rfl rfl rfl (hpr x) rfl ?_ ?_<;>intro _)
 |refine eG rfl rfl rfl rfl (by first|decide|omega) ?_
 |refine WS_nil ?_)
 |refine WC_seq ?_
 |refine WC_opsS ?_
 |refine WC_skip ?_
 |refine ah rfl ?_
 |refine af rfl ?_
 |refine WC_block ?_
 |refine al ?_)
  ·rename_i hx
   exact hQ2 pre x post hp hn hx _ rfl
  ·rename_i hx
   refine ih (pre++[x]) (by simp[hp]) (fun b hb=>?_) _ rfl rfl rfl (by rw[List.length_append];rfl) Q hQ hQ2
   rcases List.mem_append.mp hb with hb|hb
   ·exact hn b hb
   ·rw[List.mem_singleton.mp hb]
    exact hx
theorem qv {na:Int} {ids:List Int}:∀{pre pre':List Eg} {x x':Eg} {post post':List Eg},pre++x::post=pre'++x'::post'→(∀b∈pre,b.bn na ids=false)→x.bn na ids=true→(∀b∈pre',b.bn na ids=false)→x'.bn na ids=true→pre=pre'
 |[],[],_,_,_,_,_,_,_,_,_=>rfl
 |[],a::pre',x,x',post,post',h,_,hx,h',_=>by
  simp only[List.nil_append,List.cons_append,List.cons.injEq]at h
  exact absurd hx (by rw[h.1,h' a (by simp)];decide)
 |a::pre,[],x,x',post,post',h,h1,_,_,hx=>by
  simp only[List.nil_append,List.cons_append,List.cons.injEq]at h
  exact absurd hx (by rw[←h.1,h1 a (by simp)];decide)
 |a::pre,a'::pre',x,x',post,post',h,h1,hx,h1',hx'=>by
  simp only[List.cons_append,List.cons.injEq]at h
  rw[h.1,qv h.2 (fun b hb=>h1 b (List.mem_cons_of_mem _ hb)) hx (fun b hb=>h1' b (List.mem_cons_of_mem _ hb)) hx']
theorem rS (na:Int) (ids:List Int) (hl:ids.length≤1073741824) (qa qb:Nat) (ti:Tok) (si:Nat) (hsi:si=1∨ids=[]) (l:List Eg) (hll:l.length≤1073741824) (st:Store) (p c:Nat) (h00:BanB st qa qb na ti si ids) (hn0:qa<st.next∧qb<st.next) (hR:RowAt st p 8 (l.map Eg.e)):
  ((∀b∈l,b.bn na ids=false)∧EvRO Γ2 78 [.rs p 0 8 l.length c,.func 52 [.ptr qa 0,.ptr qb 0]] st (.int .i64 (-1)))∨
  (∃(pre:List Eg) (x:Eg) (post:List Eg),l=pre++x::post∧(∀b∈pre,b.bn na ids=false)∧x.bn na ids=true∧EvRO Γ2 78 [.rs p 0 8 l.length c,.func 52 [.ptr qa 0,.ptr qb 0]] st (.int .i64 pre.length)):=by
 have hstart:∀(Q:X→(Nat→D)→Store→Prop),((∀b∈l,b.bn na ids=false)→∀ρ',Q (.exit 0) ρ' {st with lim:=st.next,tlim:=st.ntok})→(∀(pre':List Eg) (x:Eg) (post':List Eg),l=pre'++x::post'→(∀b∈pre',b.bn na ids=false)→x.bn na ids=true→∀ρ',ρ' 4=.int .i64 pre'.length→Q .ret ρ' {st with lim:=st.next,tlim:=st.ntok})→
   ∀ρ:Nat→D,ρ 0=.rs p 0 8 l.length c→ρ 1=.func 52 [.ptr qa 0,.ptr qb 0]→ρ 7=.int .i64 l.length→ρ 8=.int .i64 (0:Nat)→WC Γ2 (.loop bI) ρ {st with lim:=st.next,tlim:=st.ntok} Q:=
  fun Q a b ρ e0 e1 e7 e8=>zM na ids hl qa qb ti si hsi l hll {st with lim:=st.next,tlim:=st.ntok} p c h00 hn0 (hR.of rfl) l [] rfl (by simp) ρ e0 e1 e7 e8 Q a b
 by_cases hall:∀b∈l,b.bn na ids=false
 ·refine .inl ⟨hall,b9 rfl rfl rfl ?_⟩
  repeat' (first
 |(refine ai ?_;first
 |refine mI ?_
 |refine mR ?_
 |refine eJ rfl rfl rfl ?_
 |refine WS_nil ?_)
 |refine WC_seq ?_
 |refine WC_opsS ?_
 |refine WC_block ?_)
  refine hstart _ (fun _ ρ=>?_) (fun pre' x post' he _ hx=>absurd hx (by rw[hall x (by rw[he];simp)];decide)) _ rfl rfl rfl rfl
  repeat' (first
 |(refine ai ?_;first
 |refine mI ?_
 |refine WS_nil ?_)
 |refine WC_seq ?_
 |refine WC_opsS ?_
 |refine al ?_)
  exact⟨.inr rfl,rfl⟩
 ·have:∃(pre:List Eg) (x:Eg) (post:List Eg),l=pre++x::post∧(∀b∈pre,b.bn na ids=false)∧x.bn na ids=true:=by
   clear hstart hR hll
   induction l with
   |nil=>exact absurd (by simp) hall
   |cons b l ih=>
    by_cases hb:b.bn na ids=true
    ·exact⟨[],b,l,rfl,by simp,hb⟩
    ·obtain⟨pre,x,post,h1,h2,h3⟩:=ih (fun h=>hall (fun c hc=>by
      rcases List.mem_cons.mp hc with rfl|hc
      ·exact Bool.not_eq_true _▸hb
      ·exact h c hc))
     refine⟨b::pre,x,post,by rw[h1];rfl,fun c hc=>?_,h3⟩
     rcases List.mem_cons.mp hc with rfl|hc
     ·exact Bool.not_eq_true _▸hb
     ·exact h2 c hc
  obtain⟨pre,x,post,he,h1,h2⟩:=this
  refine .inr ⟨pre,x,post,he,h1,h2,b9 rfl rfl rfl ?_⟩
  repeat' (first
 |(refine ai ?_;first
 |refine mI ?_
 |refine mR ?_
 |refine eJ rfl rfl rfl ?_
 |refine WS_nil ?_)
 |refine WC_seq ?_
 |refine WC_opsS ?_
 |refine WC_block ?_)
  refine hstart _ (fun h=>absurd h hall) (fun pre' x' post' he' h1' h2' ρ h4=>?_) _ rfl rfl rfl rfl
  rw[←aa h4]
  have:pre'=pre:=qv (he'.symm.trans he) h1' h2' h1 h2
  subst this
  exact⟨.inr rfl,rfl⟩
theorem dD (na:Int) (ids:List Int) (l:List Eg) (x:Eg):bA na ids (l++[x])=if x.bn na ids=true then bA na ids l else bA na ids l++[x]:=by
 unfold bA
 rw[List.filter_append]
 cases h:x.bn na ids<;>simp[h]
theorem AY (na:Int) (ids:List Int) (hl:ids.length≤1073741824) (qa qb:Nat) (ti:Tok) (si:Nat) (hsi:si=1∨ids=[]) (l:List Eg) (hll:l.length≤1073741824) (p c:Nat) (hp0:p≠qa∧p≠qb):∀(post pre junk:List Eg),l=pre++post→(bA na ids pre).length+junk.length=pre.length→junk≠[]→
  ∀(ρ:Nat→D) (st:Store) (h00:BanB st qa qb na ti si ids) (hn0:qa<st.next∧qb<st.next) (hR:RowIs st p 8 ((bA na ids pre++junk++post).map Eg.e)) (h0:ρ 0=.rs p 0 8 l.length c) (h1:ρ 1=.func 52 [.ptr qa 0,.ptr qb 0]) (h5:ρ 5=.int .i64 (bA na ids pre).length) (h6:ρ 6=.int .i64 pre.length) (Q:X→(Nat→D)→Store→Prop),
  (∀ρ' st' junk',st'.lim=st.lim→RowIs st' p 8 ((bA na ids l).map Eg.e++List.map Eg.e junk')→(bA na ids l).length+junk'.length=l.length→ρ' 0=.rs p 0 8 l.length c→ρ' 5=.int .i64 (bA na ids l).length→Q (.exit 0) ρ' st')→WC Γ2 (.loop cK) ρ st Q:=by
 intro post
 induction post with
 |nil=>
  intro pre junk hp hj hj0 ρ st h00 hn0 hR h0 h1 h5 h6 Q hQ
  rw[List.append_nil]at hp
  subst hp
  rw[←aa h0,←aa h1,←aa h5,←aa h6]
  refine WC_loop ?_
  repeat' (first
 |(refine ai ?_;first
 |refine mI ?_
 |refine mR ?_
 |refine lF ?_
 |refine eJ rfl rfl rfl ?_
 |refine WS_nil ?_)
 |refine WC_seq ?_
 |refine WC_opsS ?_
 |refine af rfl ?_
 |refine WC_exit ?_)
  exact hQ _ _ junk rfl (by simpa using hR) hj rfl rfl
 |cons x post ih=>
  intro pre junk hp hj hj0 ρ st h00 hn0 hR h0 h1 h5 h6 Q hQ
  obtain⟨y,junk,rfl⟩:=List.exists_cons_of_ne_nil hj0
  have hlen:l.length=pre.length+(post.length+1):=by rw[hp];simp
  have hjl:(bA na ids pre).length+(junk.length+1)=pre.length:=by simpa using hj
  have hv:((bA na ids pre++y::junk++x::post).map Eg.e)[pre.length]?=some (.agg [.int .i64 x.id,.int .i64 x.fr,.int .i64 x.to,.int .i64 x.op,.int .i64 x.en,.int .i64 x.ra,.int .i64 x.ow,.int .i64 x.ro]):=by
   refine y4 ?_
   rw[List.getElem?_append_right (by simp;omega)]
   rw[show pre.length - (bA na ids pre++y::junk).length=0 by simp;omega]
   rfl
  have hset:((bA na ids pre++y::junk++x::post).map Eg.e).set (bA na ids pre).length (.agg [.int .i64 x.id,.int .i64 x.fr,.int .i64 x.to,.int .i64 x.op,.int .i64 x.en,.int .i64 x.ra,.int .i64 x.ow,.int .i64 x.ro])=((bA na ids pre++[x])++(junk++[x])++post).map Eg.e:=by
   rw[List.append_assoc,List.map_append,List.set_append_right _ _ (by simp)]
   simp[Eg.e]
  have hkl:(bA na ids pre).length<((bA na ids pre++y::junk++x::post).map Eg.e).length:=by simp
  have hlim2:st.lim≤st.next:=Nat.le_trans hR.1 (Nat.le_of_lt hR.2.1)
  have hne:p≠st.next:=Nat.ne_of_lt hR.2.1
  rw[←aa h0,←aa h1,←aa h5,←aa h6]
  refine WC_loop ?_
  repeat' (first
 |(refine ai ?_;first
 |refine eG (j:=(bA na ids pre).length) rfl rfl rfl rfl (by omega) ?_
 |refine mI ?_
 |refine bL (v:=.func _ _) rfl rfl rfl ?_
 |refine mR ?_
 |refine lT ?_
 |refine aD ?_
 |refine ef (j:=pre.length) rfl rfl hR.at (Nat.zero_add _) qg hv rfl ?_
 |refine am (agg:=true) (d:=.agg [_,_,_,_,_,_,_,_]) rfl rfl rfl (dV rfl) (by first|exact Nat.zero_le _|assumption|exact Nat.le_trans hlim (Nat.zero_le _)|omega) rfl ?_
 |(refine ld rfl rfl rfl (yR na ids hl qa qb ti si hsi _ ((h00.up hn0).up hn0) (Bs hn0) x) rfl ?_ ?_<;>intro _)
 |(refine j5 (j:=(bA na ids pre).length) rfl rfl rfl (RowIs.of hR hR.1 (Nat.lt_succ_of_lt hR.2.1) ((ab _ _ hne).trans (ab _ _ hne))) (Nat.zero_add _) qg hkl rfl rfl rfl ?_<;>intro st2 e1 e2 e3 e4 e5 hR2 hoth)
 |refine an (cs':=[_,_,_,_,_,_,_,_]) rfl rfl (ae _ _ _) rfl (by first|exact Nat.zero_le _|assumption|exact Nat.le_trans hlim (Nat.zero_le _)|omega) rfl rfl rfl ?_
 |refine nT ?_
 |refine eJ rfl rfl rfl ?_
 |refine aq rfl rfl ?_
 |refine eG rfl rfl rfl rfl (by first|decide|omega) ?_
 |refine WS_nil ?_)
 |refine WC_seq ?_
 |refine WC_opsS ?_
 |refine WC_skip ?_
 |refine ah rfl ?_
 |refine af rfl ?_
 |refine WC_block ?_)
  ·rename_i hx
   refine ih (pre++[x]) (y::junk++[x]) (by simp[hp]) (by rw[dD,if_pos hx];simp;omega) (by simp) _ _ ((h00.up hn0).up hn0) (Bs hn0) ?_ rfl rfl (by rw[dD,if_pos hx];rfl) (by rw[List.length_append];rfl) Q ?_
   ·rw[dD,if_pos hx]
    have hR':RowIs st p 8 ((bA na ids pre++(y::junk++[x])++post).map Eg.e):=by simpa using hR
    exact hR'.of hR.1 (Nat.lt_succ_of_lt hR.2.1) ((ab _ _ hne).trans (ab _ _ hne))
   ·exact fun ρ' st' junk' a b d e f=>hQ ρ' st' junk' a b d e f
  ·rename_i hx
   have hx':¬x.bn na ids=true:=by rw[hx];decide
   rw[hset]at hR2
   have hb0:BanB st2 qa qb na ti si ids:=((h00.up hn0).up hn0).of (hoth qa (Ne.symm hp0.1)) (hoth qb (Ne.symm hp0.2))
   have hn2:qa<st2.next∧qb<st2.next:=by rw[e5];exact Bs hn0
   refine ih (pre++[x]) (junk++[x]) (by simp[hp]) (by rw[dD,if_neg hx'];simp;omega) (by simp) _ st2 hb0 hn2 ?_ rfl rfl (by rw[dD,if_neg hx',List.length_append];rfl) (by rw[List.length_append];rfl) Q ?_
   ·rw[dD,if_neg hx']
    exact hR2
   ·exact fun ρ' st' junk' a b d e f=>hQ ρ' st' junk' (a.trans e1) b d e f
theorem lr {na:Int} {ids:List Int} {l:List Eg} (h:∀b∈l,b.bn na ids=false):bA na ids l=l:=by
 unfold bA
 rw[List.filter_eq_self]
 exact fun b hb=>by rw[h b hb];rfl
theorem xA (na:Int) (ids:List Int) (l:List Eg):(bA na ids l).length≤l.length:=List.length_filter_le _ _
theorem pq (na:Int) (ids:List Int) (hl:ids.length≤1073741824) (qa qb:Nat) (ti:Tok) (si:Nat) (hsi:si=1∨ids=[]) (l:List Eg) (hll:l.length≤1073741824) (st:Store) (p:Nat) (hp0:p≠qa∧p≠qb) (h00:BanB st qa qb na ti si ids) (hn0:qa<st.next∧qb<st.next) (hR:RowIs st p 8 (l.map Eg.e)):
  EvRWX Γ2 54 [.rs p 0 8 l.length l.length,.func 52 [.ptr qa 0,.ptr qb 0]] st (fun r st'=>r=.rs p 0 8 (bA na ids l).length l.length∧RowIs st' p 8 ((bA na ids l).map Eg.e)∧st'.lim=st.lim):=by
 refine bY rfl rfl ?_
 rcases rS na ids hl qa qb ti si hsi l hll st p l.length h00 hn0 hR.at with⟨hall,hi⟩|⟨pre,x,post,he,h1,h2,hi⟩
 ·repeat' (first
 |(refine ai ?_;first
 |refine mI ?_
 |refine mS ?_
 |refine bL (v:=.func _ _) rfl rfl rfl ?_
 |refine mR ?_
 |refine fK rfl rfl rfl rfl (by omega) ?_
 |refine cB rfl rfl rfl hi rfl rfl ?_
 |refine WS_nil ?_)
 |refine WC_seq ?_
 |refine WC_opsS ?_
 |refine ah rfl ?_
 |refine al ?_)
  exact⟨.inr rfl,_,rfl,by rw[lr hall];rfl,by rw[lr hall];exact hR,rfl⟩
 ·have hlen:l.length=pre.length+(post.length+1):=by rw[he];simp
  repeat' (first
 |(refine ai ?_;first
 |refine mI ?_
 |refine mS ?_
 |refine bL (v:=.func _ _) rfl rfl rfl ?_
 |refine mR ?_
 |refine dz rfl rfl rfl rfl (by omega) ?_
 |refine aD ?_
 |refine cB rfl rfl rfl hi rfl rfl ?_
 |refine WS_nil ?_)
 |refine WC_seq ?_
 |refine WC_opsS ?_
 |refine WC_skip ?_
 |refine af rfl ?_
 |refine WC_block ?_)
  have hkp:bA na ids (pre++[x])=pre:=by rw[dD,if_pos h2,lr h1]
  refine AY na ids hl qa qb ti si hsi l hll p l.length hp0 post (pre++[x]) [x] (by simp[he]) (by rw[hkp];simp) (by simp) _ st h00 hn0 (by rw[hkp];simpa[he]using hR) rfl rfl (by rw[hkp];rfl) (by rw[List.length_append];rfl) _ ?_
  intro ρ' st' junk' e1 hR' e2 k0 k5
  have hkl:=xA na ids l
  rw[←aa k0,←aa k5]
  repeat' (first
 |(refine ai ?_;first
 |refine sQ (j:=(bA na ids l).length) rfl rfl (by simp[A.ev,ap,bE]) hkl (Nat.le_refl _) rfl ?_
 |(refine sh (j:=(bA na ids l).length) (zs:=junk'.map Eg.e) rfl rfl hR' (Nat.zero_add _) (by simp) (by simp;omega) qg rfl rfl rfl ?_<;>intro st2 f1 _ _ _ _ hR2 _)
 |refine mH (j:=(bA na ids l).length) rfl rfl (by simp[A.ev,ap,bE]) hkl rfl ?_
 |refine mI ?_
 |refine mR ?_
 |refine WS_nil ?_)
 |refine WC_seq ?_
 |refine WC_opsS ?_
 |refine al ?_)
  exact⟨.inr rfl,_,rfl,rfl,hR2,f1.trans e1⟩
end Go.Lea
/-
  Plain laws of the best route, for the statements.
-/
namespace Go.Lea
open Go.Ev
variable {l:List Eg} {fr to now by' sz:Int} {shut:List Int}
theorem BestR.route {es:List Eg} {a:Int} (h:BestR l fr to now sz by' shut es a):IsRoute l fr to now sz es a:=⟨(pT h.at_).1,h.way,h.nd⟩
theorem BestR.routeM {es:List Eg} {a:Int} (h:BestR l fr to now sz by' shut es a):routeM l (es.map Eg.id) fr to now sz=some es:=jZ.2 ⟨rfl,a,h.route⟩
theorem uQ {a b:Int} (h:a<b):gJ a b= -1:=if_pos h
theorem lH (a:Int):gJ a a=0:=by unfold gJ;rw[if_neg (Int.lt_irrefl _),if_neg (Int.lt_irrefl _)]
theorem xb {h h':List Hp} {a a':Int} (e:a<a'):im h a h' a'= -1:=by
 unfold im
 rw[uQ e]
 rfl
theorem vZ {h h':List Hp} {a:Int} (e:h.length<h'.length):im h a h' a= -1:=by
 unfold im
 rw[lH,uQ (by omega)]
 rfl
theorem pO {h h':List Hp} {a:Int} (e:h.length=h'.length):im h a h' a=ea (h.map Hp.id) (h'.map Hp.id):=by
 unfold im
 rw[lH,e,lH]
 simp only[pN,if_true]
 split
 ·rename_i h0;rw[h0]
 ·rfl
theorem BestR.cmp {es:List Eg} {a:Int} (h:BestR l fr to now sz by' shut es a) {es':List Eg} {u':Int} (hw:IsRoute l fr to now sz es' u') (ho:∀e∈es',e.to∉shut):(im (aw sz es now) a (aw sz es' now) u'= -1)∨(im (aw sz es now) a (aw sz es' now) u'=0∧es=es'∧a=u'):=by
 rcases h.best es' u' hw.way hw.nd ho with h1|⟨rfl,h1|⟨h1,h2|h2⟩⟩
 ·exact .inl (xb h1)
 ·exact .inl (vZ (by rw[bu,bu];exact h1))
 ·subst h2
  exact .inr ⟨by rw[pO rfl,lc],rfl,rfl⟩
 ·exact .inl (by rw[pO (by rw[bu,bu];exact h1),ep,ep];exact h2)
theorem lk:∀a b:List Int,ea a b= - ea b a
 |[],[]=>rfl
 |[],_::_=>rfl
 |_::_,[]=>rfl
 |a::xs,b::ys=>by
  rw[ea,ea]
  by_cases h:a<b
  ·rw[if_pos h,if_neg (by omega),if_pos h]
  ·rw[if_neg h]
   by_cases h':b<a
   ·rw[if_pos h',if_pos h'];rfl
   ·rw[if_neg h',if_neg h',if_neg h,lk xs ys]
theorem BestR.same {es es':List Eg} {a a':Int} (h:BestR l fr to now sz by' shut es a) (h':BestR l fr to now sz by' [] es' a') (ho:∀e∈es',e.to∉shut):es=es'∧a=a':=by
 have h1:=h.best es' a' h'.way h'.nd ho
 have h2:=h'.best es a h.way h.nd (by simp)
 rcases h1 with h1|⟨h1,h3⟩
 ·rcases h2 with h2|⟨h2,_⟩<;>omega
 ·subst h1
  rcases h2 with h2|⟨_,h4⟩
  ·omega
  ·rcases h3 with h3|⟨h3,h5⟩
   ·rcases h4 with h4|⟨h4,_⟩<;>omega
   ·rcases h4 with h4|⟨_,h6⟩
    ·omega
    ·rcases h5 with h5|h5
     ·exact⟨h5,rfl⟩
     ·rcases h6 with h6|h6
      ·exact⟨h6.symm,rfl⟩
      ·rw[lk,h6]at h5
       cases h5
end Go.Lea
/-
  Plain laws of the best way on.
-/
namespace Go.Lea
open Go.Ev
def gg (l:List Eg) (bans:List Int) (n:Int):List Eg:=l.filter (fun e=> !(decide (e.fr=n)&&decide (e.id∈bans)))
theorem jA {l:List Eg} {bans:List Int} {n:Int} {e:Eg}:e∈gg l bans n↔e∈l∧¬(e.fr=n∧e.id∈bans):=by
 unfold gg
 rw[List.mem_filter,Bool.not_eq_true',Bool.and_eq_false_iff,decide_eq_false_iff_not,decide_eq_false_iff_not]
 constructor
 ·rintro⟨h1,h2⟩
  exact⟨h1,fun h=>h2.elim (fun h3=>h3 h.1) (fun h3=>h3 h.2)⟩
 ·rintro⟨h1,h2⟩
  refine⟨h1,?_⟩
  by_cases h3:e.fr=n
  ·exact .inr (fun h4=>h2 ⟨h3,h4⟩)
  ·exact .inl h3
theorem xh {l:List Eg} (h:RL l) (bans:List Int) (n:Int):RL (gg l bans n):=⟨fun e he=>h.1 e (jA.1 he).1,h.2.filter _⟩
def xU (fr:Int) (es:List Eg):Int:=((ay fr es)[(ay fr es).length - 1]?).getD fr
def ce (l:List Eg) (root bans:List Int) (fr to now sz by':Int):Option (List Eg×Int):=
 if db l root fr now sz=none then none else match bf l root fr with
  |none=>none
  |some es=>if(ay fr es).Nodup then(cR (gg l bans (xU fr es)) (xU fr es) to (dX now (aw sz es now)) sz by' (ay fr es)).map (fun p=>(es++p.1,p.2))else none
structure SpurIn (l:List Eg) (root bans:List Int) (fr to now sz by':Int) (es:List Eg) (u:Int):Prop where
 route:IsRoute l fr to now sz es u
 le:u≤by'
 pre:∃r,es.map Eg.id=root++r
 ban:∀k,(es.map Eg.id)[root.length]?=some k→k∉bans
variable {l:List Eg} {root bans:List Int} {fr to now sz by':Int}
theorem nh (n:Int) (a b:List Eg):ay n (a++b)=ay n a++b.map Eg.to:=by simp[ay]
theorem vR {n t m u:Int} {a:List Eg} (h:Way sz l n t a m u) (b:List Eg):aw sz (a++b) t=aw sz a t++aw sz b u:=by
 induction h with
 |nil=>rfl
 |cons he hf hp h ih=>
  rename_i n t m u e es
  show _::aw sz (es++b) _=_::(aw sz es _++_)
  rw[ih]
theorem wl {n t m u:Int} {es:List Eg} (h:Way sz l n t es m u):∀e∈es,e.fr∈ay n es:=by
 induction h with
 |nil=>intro e he;cases he
 |cons he hf hp h ih=>
  rename_i n t m u e es
  intro e' he'
  rcases List.mem_cons.1 he' with rfl|he'
  ·rw[hf];exact List.mem_cons_self
  ·exact List.mem_cons_of_mem _ (ih e' he')
theorem yM (ha:br l fr now sz) {es:List Eg} {m u:Int} (h:Way sz l fr now es m u):br l m u sz:=by
 have hr:=h.reach (shut:=[]) (by simp) (.here (fr:=fr) (now:=now))
 have h0:=h.ge
 exact⟨ii ha.1 hr,ha.2.1,⟨by have:=ha.2.2.1.1;omega,oy ha.2.2.1.2 hr⟩,ha.2.2.2⟩
theorem xf {es:List Eg} {m u:Int} (h:Way sz l fr now es m u):xU fr es=m:=by
 unfold xU
 rw[ej h.chain]
 rfl
theorem ni {es:List Eg} {a:Int} (h:ce l root bans fr to now sz by'=some (es,a)):∃es0 m u es1,es=es0++es1∧es0.map Eg.id=root∧br l fr now sz∧bf l root fr=some es0∧Way sz l fr now es0 m u∧(ay fr es0).Nodup∧cR (gg l bans m) m to u sz by' (ay fr es0)=some (es1,a):=by
 unfold ce at h
 split at h
 ·cases h
 ·rename_i hw
  obtain⟨hs,hw⟩:∃x,db l root fr now sz=some x:=by
   cases hx:db l root fr now sz with
   |none=>exact absurd hx hw
   |some x=>exact⟨x,rfl⟩
  obtain⟨ha,es0,m,u,h1,h2,h3,rfl⟩:=gM.1 hw
  rw[h1]at h
  simp only at h
  split at h
  ·rename_i hnd
   obtain⟨⟨es1,a1⟩,h4,h5⟩:=Option.map_eq_some_iff.1 h
   cases h5
   rw[xf h3,h3.hops.2]at h4
   exact⟨es0,m,u,es1,rfl,h2,ha,h1,h3,hnd,h4⟩
  ·cases h
theorem ot {es0:List Eg} {m u:Int} (hid:es0.map Eg.id=root) (ha:br l fr now sz) (hw:Way sz l fr now es0 m u) (hnd:(ay fr es0).Nodup):ce l root bans fr to now sz by'=(cR (gg l bans m) m to u sz by' (ay fr es0)).map (fun p=>(es0++p.1,p.2)):=by
 have hs:bf l root fr=some es0:=by rw[←hid];exact cX ha.2.2.2 hw.chain
 have hwk:db l root fr now sz=some (aw sz es0 now):=gM.2 ⟨ha,es0,m,u,hs,hid,hw,rfl⟩
 unfold ce
 rw[hwk,if_neg (by simp),hs]
 simp only
 rw[if_pos hnd,xf hw,hw.hops.2]
theorem cq {es:List Eg} {a:Int} (h:ce l root bans fr to now sz by'=some (es,a)):SpurIn l root bans fr to now sz by' es a:=by
 obtain⟨es0,m,u,es1,rfl,hid,ha,hs,hw,hnd,hb⟩:=ni h
 have hB:=jy hb
 have hw1:Way sz l m u es1 to a:=hB.way.sub (fun e he=>(jA.1 (hB.way.mem e he)).1)
 refine⟨⟨ha,hw.trans hw1,?_⟩,hB.le,⟨es1.map Eg.id,by rw[List.map_append,hid]⟩,fun k hk=>?_⟩
 ·rw[nh,List.nodup_append]
  refine⟨hnd,(List.nodup_cons.1 hB.nd).2,fun x hx y hy e=>?_⟩
  subst e
  obtain⟨e,he,rfl⟩:=List.mem_map.1 hy
  exact hB.op e he hx
 ·have hl:root.length=es0.length:=by rw[←hid,List.length_map]
  rw[List.map_append,List.getElem?_append_right (by rw[List.length_map];omega),List.length_map,hl,Nat.sub_self]at hk
  cases es1 with
  |nil=>cases hk
  |cons x r=>
   have hk:some x.id=some k:=hk
   cases hk
   cases hB.way with
   |cons he hf hp h=>exact fun hb=>(jA.1 he).2 ⟨hf,hb⟩
theorem mL {es:List Eg} {u:Int} (h:SpurIn l root bans fr to now sz by' es u):∃es0 m v es1,es=es0++es1∧es0.map Eg.id=root∧Way sz l fr now es0 m v∧(ay fr es0).Nodup∧Way sz (gg l bans m) m v es1 to u∧(ay m es1).Nodup∧(∀e∈es1,e.to∉ay fr es0):=by
 obtain⟨r,hr⟩:=h.pre
 have hl:root.length≤es.length:=by
  have:=congrArg List.length hr
  rw[List.length_map,List.length_append]at this
  omega
 have hsp:es=es.take root.length++es.drop root.length:=(List.take_append_drop _ _).symm
 have hid:(es.take root.length).map Eg.id=root:=by
  rw[List.map_take,hr,List.take_left']
  rfl
 have hbn:=h.ban
 have hnd:=h.route.nd
 have hwy:=h.route.way
 generalize hA:es.take root.length=es0 at*
 generalize hB:es.drop root.length=es1 at*
 rw[hsp]at hbn hnd hwy
 obtain⟨m,v,hw0,hw1⟩:=hwy.split
 rw[nh,List.nodup_append]at hnd
 obtain⟨n1,n2,n3⟩:=hnd
 have hm:m∈ay fr es0:=tZ hw0
 have hop:∀e∈es1,e.to∉ay fr es0:=fun e he hin=>n3 _ hin _ (List.mem_map.2 ⟨e,he,rfl⟩) rfl
 have hnd1:(ay m es1).Nodup:=List.nodup_cons.2 ⟨fun hin=>by
  obtain⟨e,he,h2⟩:=List.mem_map.1 hin
  exact hop e he (by rw[h2];exact hm),n2⟩
 refine⟨es0,m,v,es1,hsp,hid,hw0,n1,hw1.sub (fun e he=>?_),hnd1,hop⟩
 refine jA.2 ⟨hw1.mem e he,fun⟨hf,hb⟩=>?_⟩
 have hl0:root.length=es0.length:=by rw[←hid,List.length_map]
 cases es1 with
 |nil=>cases he
 |cons x r'=>
  rcases List.mem_cons.1 he with rfl|he
  ·refine hbn e.id ?_ hb
   rw[List.map_append,List.getElem?_append_right (by rw[List.length_map];omega),List.length_map,hl0,Nat.sub_self]
   rfl
  ·cases hw1 with
   |cons he' hf' hp' h'=>
    have:=wl h' e he
    rw[hf]at this
    exact(List.nodup_cons.1 hnd1).1 this
theorem uy {es:List Eg} {u:Int} (h:SpurIn l root bans fr to now sz by' es u):∃es' a,ce l root bans fr to now sz by'=some (es',a):=by
 obtain⟨es0,m,v,es1,rfl,hid,hw0,n1,hw1,n2,hop⟩:=mL h
 have ha:=h.route.ask
 have hm:=yM ha hw0
 have hm':br (gg l bans m) m v sz:=⟨hm.1,hm.2.1,hm.2.2.1,xh hm.2.2.2 _ _⟩
 obtain⟨es',a,hb⟩:=pX hm' hw1 hop h.le
 rw[ot hid ha hw0 n1,hb]
 exact⟨_,_,rfl⟩
theorem ju {es:List Eg} {a:Int} (h:ce l root bans fr to now sz by'=some (es,a)) {es':List Eg} {u':Int} (h':SpurIn l root bans fr to now sz by' es' u'):im (aw sz es now) a (aw sz es' now) u'= -1∨(im (aw sz es now) a (aw sz es' now) u'=0∧es=es'∧a=u'):=by
 obtain⟨es0,m,u,es1,rfl,hid,ha,hs,hw,hnd,hb⟩:=ni h
 obtain⟨es0',m',v,es1',rfl,hid',hw0,n1,hw1,n2,hop⟩:=mL h'
 have e0:es0'=es0:=by
  have h1:=cX ha.2.2.2 hw0.chain
  rw[hid',hs]at h1
  cases h1
  rfl
 subst e0
 obtain⟨rfl,rfl⟩:=hw.inj hw0
 have hB:=jy hb
 have hlen:∀x:List Eg,(aw sz (es0'++x) now).length=es0'.length+x.length:=fun x=>by rw[bu,List.length_append]
 rcases hB.best es1' u' hw1 n2 hop with h1|⟨rfl,h1|⟨h1,h2|h2⟩⟩
 ·exact .inl (xb h1)
 ·exact .inl (vZ (by rw[hlen,hlen];omega))
 ·subst h2
  exact .inr ⟨by rw[pO rfl,lc],rfl,rfl⟩
 ·refine .inl ?_
  rw[pO (by rw[hlen,hlen];omega),ep,ep,List.map_append,List.map_append,i8]
  exact h2
end Go.Lea
/-
  The best way on, as the code finds it: its loops.
-/
namespace Go.Lea
open Go.Ev
set_option maxHeartbeats 4000000 in
theorem ug (l:List Eg) (hll:l.length≤1073741824) (ids:List Int) (hil:ids.length≤1073741824) (fr now sz:Int) (h:List Hp) (hw:db l ids fr now sz=some h) (t:Tok) (s:Nat) (hs:s=8∨l=[]) (t':Tok) (s':Nat) (hs':s'=1∨ids=[]):
  EvX Γ 48 [.slice t s (l.map Eg.e),.slice t' s' (ids.map (D.int .i64)),.int .i64 fr,.int .i64 now,.int .i64 sz] (Ah Hp.e 3 h [.bool true]):=by
 refine cn rfl rfl ?_
 unfold db at hw
 split at hw
 ·rename_i ha
  obtain⟨m,hm,hh⟩:=Option.bind_eq_some_iff.mp hw
  have hml:=gO l ids fr m hm
  have hS:=fun t t'=>kO l hll ids hil fr m hm t s hs t' s' hs'
  have hA:=fun t=>iT l hll fr now sz t s hs
  rw[decide_eq_true ha]at hA
  repeat' (first
 |(refine ai ?_;first
 |refine lN ?_
 |refine mI ?_
 |refine mB ?_
 |refine mS ?_
 |refine mT ?_
 |refine cA rfl (hA _) ?_
 |(refine fw rfl rfl rfl (hS _ _) rfl ?_;intro tm sm hsm tk2 nt2)
 |refine pB ?_
 |refine eB ?_
 |refine eS ?_
 |refine nT ?_
 |refine WS_nil ?_)
 |refine WC_seq ?_
 |refine WC_opsS ?_
 |refine WC_skip ?_
 |refine af rfl ?_
 |refine WC_block ?_)
  refine tz sz m (by omega) tm sm hsm m [] rfl _ _ now [] .isnil 0 (Nat.le_refl _) (Nat.le_refl _) (Nat.zero_le _) (.inl ⟨.inl rfl,.inr ⟨rfl,rfl⟩⟩) ?_ ?_ ?_ ?_ ?_ ?_ _ (fun h' hh' ρ' st' tk so hO h14=>?_) (fun hh'=>by rw[hh]at hh';cases hh')
  all_goals first|rfl|skip
  rw[hh]at hh'
  cases hh'
  rw[List.nil_append]at hO h14
  rw[←aa h14]
  repeat' (first
 |(refine ai ?_;first
 |refine mB ?_
 |refine mS ?_
 |refine WS_nil ?_)
 |refine WC_seq ?_
 |refine WC_opsS ?_
 |refine al ?_)
  exact yF (us:=[.bool true]) (.inr rfl) rfl rfl hO rfl rfl
 ·cases hw
set_option maxHeartbeats 8000000 in
theorem wo (ns:List Int) (hnl:ns.length≤1000000) (t:Tok) (s:Nat) (hs:s=1∨ns=[]) (p q0:Nat) (v0 v4 v5 v6 v7 v10 v18 v20:D):∀(post pre:List Int),ns=pre++post→pre.Nodup→∀(kv:List (Int×D)),KVC kv (jU pre)→∀(ρ:Nat→D) (st:Store) (z:List D),st.lim≤0→p≠q0→st.boxes p=some (.map kv)→st.boxes q0=some (.cells z)→z.length=2→
  ρ 0=v0→ρ 4=v4→ρ 5=v5→ρ 6=v6→ρ 7=v7→ρ 10=v10→ρ 18=v18→ρ 20=v20→ρ 16=.ptr q0 0→ρ 22=.map p→ρ 50=.slice t s (ns.map (D.int .i64))→ρ 51=.int .i64 ns.length→ρ 52=.int .i64 pre.length→∀(Q:X→(Nat→D)→Store→Prop),
  (ns.Nodup→∀ρ' st',st'.lim=st.lim→st'.next=st.next→st'.tlim=st.tlim→st'.toks=st.toks→st'.ntok=st.ntok→(∀q,q≠p→st'.boxes q=st.boxes q)→ρ' 0=v0→ρ' 4=v4→ρ' 5=v5→ρ' 6=v6→ρ' 7=v7→ρ' 10=v10→ρ' 18=v18→ρ' 20=v20→ρ' 16=.ptr q0 0→Q (.exit 0) ρ' st')→(¬ns.Nodup→∀ρ' st',st'.lim=st.lim→st'.boxes q0=some (.cells [.slice .isnil 0 [],.int .i64 0])→ρ' 16=.ptr q0 0→ρ' 17=.bool false→Q .ret ρ' st')→WC Γ2 (.loop eR) ρ st Q:=by
 intro post
 induction post with
 |nil=>
  intro pre hpp hpn kv hk ρ st z hlim hpq hb hb0 hz2 h0 h4 h5 h6 h7 h10 h18 h20 h16 h22 h50 h51 h52 Q hQ hQ2
  rw[List.append_nil]at hpp
  subst hpp
  rw[←aa h0,←aa h4,←aa h5,←aa h6,←aa h7,←aa h10,←aa h18,←aa h20,←aa h16,←aa h22,←aa h50,←aa h51,←aa h52]
  refine WC_loop ?_
  repeat' (first
 |(refine ai ?_;first
 |refine lF ?_
 |refine WS_nil ?_)
 |refine WC_seq ?_
 |refine WC_opsS ?_
 |refine af rfl ?_
 |refine WC_exit ?_)
  exact hQ hpn _ _ rfl rfl rfl rfl rfl (fun _ _=>rfl) rfl rfl rfl rfl rfl rfl rfl rfl rfl
 |cons x post ih=>
  intro pre hpp hpn kv hk ρ st z hlim hpq hb hb0 hz2 h0 h4 h5 h6 h7 h10 h18 h20 h16 h22 h50 h51 h52 Q hQ hQ2
  have hv:=nD hpp
  have hlen:ns.length=pre.length+(post.length+1):=by rw[hpp];simp
  have hz:s=1:=hs.resolve_right (by rintro rfl;simp at hlen)
  subst hz
  have hpl:pre.length<(ns.map (D.int .i64)).length:=by simp;omega
  have hltl:(pre.length:Int)<ns.length:=by omega
  have hl0:st.lim≤q0:=by omega
  have hlp:st.lim≤p:=by omega
  obtain⟨z0,z1,rfl⟩:∃a b,z=[a,b]:=by
   match z,hz2 with
   |[a,b],_=>exact⟨a,b,rfl⟩
  by_cases hx:x∈pre
  ·have hg:(aL x kv).getD (.bool false)=.bool true:=by rw[hk x];simp[jU,hx]
   have hbad:¬ns.Nodup:=fun h=>by
    rw[hpp]at h
    exact(List.nodup_append.1 h).2.2 x hx x List.mem_cons_self rfl
   have hQ2:=hQ2 hbad
   clear ih hQ hpp hbad
   rw[←aa h0,←aa h4,←aa h5,←aa h6,←aa h7,←aa h10,←aa h18,←aa h20,←aa h16,←aa h22,←aa h50,←aa h51,←aa h52]
   refine WC_loop ?_
   repeat' (first
 |(refine ai ?_;first
 |refine iA (pre.length) hpl ?_
 |refine gW rfl rfl rfl hb hg rfl ?_
 |refine an (cs':=[_,_]) rfl rfl hb0 rfl hl0 rfl rfl rfl ?_
 |refine mI ?_
 |refine mB ?_
 |refine mM ?_
 |refine lT ?_
 |refine lE (d:=.int _ _) hv ?_
 |refine bi (cs:=[_,_]) rfl rfl rfl ?_
 |refine WS_nil ?_)
 |refine WC_seq ?_
 |refine WC_opsS ?_
 |refine WC_skip ?_
 |refine ah rfl ?_
 |refine WC_block ?_
 |refine al ?_)
   refine hQ2 _ _ ?_ ?_ ?_ ?_
   ·rfl
   ·exact ae _ _ _
   all_goals rfl
  ·have hg:(aL x kv).getD (.bool false)=.bool false:=by rw[hk x];simp[jU,hx]
   have hpn2:(pre++[x]).Nodup:=by
    rw[List.nodup_append]
    exact⟨hpn,by simp,fun a ha b hb e=>hx (by rw[List.mem_singleton.1 hb]at e;rw[←e];exact ha)⟩
   have hnext:∀(ρ':Nat→D) (st':Store),st'.lim=st.lim→st'.next=st.next→st'.tlim=st.tlim→st'.toks=st.toks→st'.ntok=st.ntok→(∀q,q≠p→st'.boxes q=st.boxes q)→st'.boxes p=some (.map (bM x (.bool true) kv))→ρ' 0=v0→ρ' 4=v4→ρ' 5=v5→ρ' 6=v6→ρ' 7=v7→ρ' 10=v10→ρ' 18=v18→ρ' 20=v20→ρ' 16=.ptr q0 0→ρ' 22=.map p→ρ' 50=.slice t 1 (ns.map (D.int .i64))→ρ' 51=.int .i64 ns.length→ρ' 52=.int .i64 ((pre.length:Int)+1)→WC Γ2 (.loop eR) ρ' st' Q:=fun ρ' st' e1 e2 e3 e4 e5 e7 e6 k0 k4 k5 k6 k7 k10 k18 k20 k16 k22 k50 k51 k52=>
    ih (pre++[x]) (by simp[hpp]) hpn2 _ (hk.set x) ρ' st' [z0,z1] (by omega) hpq e6 ((e7 q0 (Ne.symm hpq)).trans hb0) rfl k0 k4 k5 k6 k7 k10 k18 k20 k16 k22 k50 k51 (by rw[List.length_append];exact k52) Q
     (fun h ρ'' st'' f1 f2 f3 f4 f5 f6=>hQ h ρ'' st'' (f1.trans e1) (f2.trans e2) (f3.trans e3) (f4.trans e4) (f5.trans e5) (fun q hq=>(f6 q hq).trans (e7 q hq))) (fun h ρ'' st'' f1=>hQ2 h ρ'' st'' (f1.trans e1))
   clear ih hQ hQ2 hpp
   rw[←aa h0,←aa h4,←aa h5,←aa h6,←aa h7,←aa h10,←aa h18,←aa h20,←aa h16,←aa h22,←aa h50,←aa h51,←aa h52]
   refine WC_loop ?_
   repeat' (first
 |(refine ai ?_;first
 |refine iA (pre.length) hpl ?_
 |refine gW rfl rfl rfl hb hg rfl ?_
 |refine dk (v:=.bool true) rfl rfl rfl hb hlp rfl rfl ?_
 |refine mI ?_
 |refine mM ?_
 |refine lT ?_
 |refine aD ?_
 |refine lE (d:=.int _ _) hv ?_
 |refine WS_nil ?_)
 |refine WC_seq ?_
 |refine WC_opsS ?_
 |refine WC_skip ?_
 |refine ah rfl ?_
 |refine af rfl ?_
 |refine WC_block ?_)
   refine hnext _ _ rfl rfl rfl rfl rfl (fun q hq=>ab _ _ hq) (ae _ _ _) ?_ ?_ ?_ ?_ ?_ ?_ ?_ ?_ ?_ ?_ ?_ ?_ ?_<;>rfl
set_option maxHeartbeats 8000000 in
theorem zT (hs:List Hp) (hll:hs.length≤1000000) (now:Int) (t:Tok) (s:Nat) (hsz:s=3∨hs=[]) (v0 v4 v6 v7 v10 v16 v18 v20 v25:D):∀(post pre:List Hp),hs=pre++post→∀(ρ:Nat→D) (st:Store),st.lim≤0→
  ρ 0=v0→ρ 4=v4→ρ 6=v6→ρ 7=v7→ρ 10=v10→ρ 16=v16→ρ 18=v18→ρ 20=v20→ρ 25=v25→ρ 5=.int .i64 (dX now pre)→ρ 69=.slice t s (hs.map Hp.e)→ρ 70=.int .i64 hs.length→ρ 71=.int .i64 pre.length→∀(Q:X→(Nat→D)→Store→Prop),
  (∀ρ' st',st'.lim=st.lim→st.next≤st'.next→st'.tlim=st.tlim→st'.toks=st.toks→st'.ntok=st.ntok→(∀q,q<st.next→st'.boxes q=st.boxes q)→ρ' 0=v0→ρ' 4=v4→ρ' 6=v6→ρ' 7=v7→ρ' 10=v10→ρ' 16=v16→ρ' 18=v18→ρ' 20=v20→ρ' 25=v25→ρ' 5=.int .i64 (dX now hs)→Q (.exit 2) ρ' st')→WC Γ2 (.loop eN) ρ st Q:=by
 intro post
 induction post with
 |nil=>
  intro pre hpp ρ st hlim h0 h4 h6 h7 h10 h16 h18 h20 h25 h5 h69 h70 h71 Q hQ
  rw[List.append_nil]at hpp
  subst hpp
  rw[←aa h0,←aa h4,←aa h6,←aa h7,←aa h10,←aa h16,←aa h18,←aa h20,←aa h25,←aa h5,←aa h69,←aa h70,←aa h71]
  refine WC_loop ?_
  repeat' (first
 |(refine ai ?_;first
 |refine lF ?_
 |refine WS_nil ?_)
 |refine WC_seq ?_
 |refine WC_opsS ?_
 |refine af rfl ?_
 |refine WC_exit ?_)
  refine hQ _ _ rfl (Nat.le_refl _) rfl rfl rfl (fun _ _=>rfl) ?_ ?_ ?_ ?_ ?_ ?_ ?_ ?_ ?_ ?_<;>rfl
 |cons x post ih=>
  intro pre hpp ρ st hlim h0 h4 h6 h7 h10 h16 h18 h20 h25 h5 h69 h70 h71 Q hQ
  have hv:=sr hpp
  have hlen:hs.length=pre.length+(post.length+1):=by rw[hpp];simp
  have hz:s=3:=hsz.resolve_right (by rintro rfl;simp at hlen)
  subst hz
  have hpl:pre.length<(hs.map Hp.e).length:=by simp;omega
  have hltl:(pre.length:Int)<hs.length:=by omega
  have hlim2:st.lim≤st.next:=by omega
  have hla:dX now (pre++[x])=x.ar:=by simp[dX]
  have hnext:∀(ρ':Nat→D) (st':Store),st'.lim=st.lim→st.next≤st'.next→st'.tlim=st.tlim→st'.toks=st.toks→st'.ntok=st.ntok→(∀q,q<st.next→st'.boxes q=st.boxes q)→ρ' 0=v0→ρ' 4=v4→ρ' 6=v6→ρ' 7=v7→ρ' 10=v10→ρ' 16=v16→ρ' 18=v18→ρ' 20=v20→ρ' 25=v25→ρ' 5=.int .i64 x.ar→ρ' 69=.slice t 3 (hs.map Hp.e)→ρ' 70=.int .i64 hs.length→ρ' 71=.int .i64 ((pre.length:Int)+1)→WC Γ2 (.loop eN) ρ' st' Q:=fun ρ' st' e1 e2 e3 e4 e5 e6 k0 k4 k6 k7 k10 k16 k18 k20 k25 k5 k69 k70 k71=>
   ih (pre++[x]) (by simp[hpp]) ρ' st' (by omega) k0 k4 k6 k7 k10 k16 k18 k20 k25 (by rw[hla];exact k5) k69 k70 (by rw[List.length_append];exact k71) Q
    (fun ρ'' st'' f1 f2 f3 f4 f5 f6=>hQ ρ'' st'' (f1.trans e1) (Nat.le_trans e2 f2) (f3.trans e3) (f4.trans e4) (f5.trans e5) (fun q hq=>(f6 q (Nat.lt_of_lt_of_le hq e2)).trans (e6 q hq)))
  clear ih hQ hpp
  rw[←aa h0,←aa h4,←aa h6,←aa h7,←aa h10,←aa h16,←aa h18,←aa h20,←aa h25,←aa h5,←aa h69,←aa h70,←aa h71]
  refine WC_loop ?_
  repeat' (first
 |(refine ai ?_;first
 |refine iA (pre.length) hpl ?_
 |refine an (cs':=[_,_,_]) rfl rfl (ae _ _ _) rfl hlim2 rfl rfl rfl ?_
 |refine mI ?_
 |refine lT ?_
 |refine aD ?_
 |refine lE (d:=.agg [_,_,_]) hv ?_
 |refine am (agg:=false) (d:=.int _ _) rfl rfl rfl (dV rfl) hlim2 rfl ?_
 |refine fD ?_
 |refine aq rfl rfl ?_
 |refine WS_nil ?_)
 |refine WC_seq ?_
 |refine WC_opsS ?_
 |refine WC_skip ?_
 |refine ah rfl ?_
 |refine WC_block ?_)
  refine hnext _ _ rfl (Nat.le_succ _) rfl rfl rfl (fun q hq=>(ab _ _ (Nat.ne_of_lt hq)).trans (ab _ _ (Nat.ne_of_lt hq))) ?_ ?_ ?_ ?_ ?_ ?_ ?_ ?_ ?_ ?_ ?_ ?_ ?_<;>rfl
theorem pJ (st:Store) (qa qb:Nat) (t:Tok) (s:Nat):EvRO Γ2 78 [.slice t s [],.func 52 [.ptr qa 0,.ptr qb 0]] st (.int .i64 (-1)):=by
 have hz0:([]:List D).length=0:=rfl
 refine b9 rfl rfl rfl ?_
 repeat' (first
 |(refine ai ?_;first
 |refine mI ?_
 |refine mS ?_
 |refine lF ?_
 |refine mb rfl rfl rfl ?_
 |refine WS_nil ?_)
 |refine WC_loop ?_
 |refine WC_seq ?_
 |refine WC_opsS ?_
 |refine af rfl ?_
 |refine WC_block ?_
 |refine WC_exit ?_
 |refine al ?_)
 exact⟨.inr rfl,rfl⟩
theorem n8 (st:Store) (qa qb:Nat):EvRWX Γ2 54 [.slice .no 8 [],.func 52 [.ptr qa 0,.ptr qb 0]] st (fun r _=>gZ r=true∧r=.slice .no 8 []):=by
 refine bY rfl rfl ?_
 repeat' (first
 |(refine ai ?_;first
 |refine mI ?_
 |refine mS ?_
 |refine bL (v:=.func _ _) rfl rfl rfl ?_
 |refine fK rfl rfl rfl rfl (by omega) ?_
 |refine cB rfl rfl rfl (pJ _ _ _ _ _) rfl rfl ?_
 |refine WS_nil ?_)
 |refine WC_seq ?_
 |refine WC_opsS ?_
 |refine ah rfl ?_
 |refine al ?_)
 exact⟨.inr rfl,_,rfl,rfl,rfl⟩
end Go.Lea
/-
  The best way on, as the code finds it.
-/
namespace Go.Lea
open Go.Ev
set_option maxHeartbeats 16000000 in
theorem tS (l:List Eg) (hll:l.length≤900) (root bans:List Int) (hrl:root.length≤1000) (hbl:bans.length≤1000000) (fr to now sz by':Int) (es0:List Eg) (m u:Int) (ha:br l fr now sz) (hid:es0.map Eg.id=root) (hw:Way sz l fr now es0 m u) (hnd:(ay fr es0).Nodup) (hs1:List Hp) (hl1:hs1.length≤1000) (a:Int) (ok:Bool)
  (hB:∀t s t' s',(s=8∨gg l bans m=[])→s'=1→EvX Γ2 13 [.slice t s ((gg l bans m).map Eg.e),.int .i64 m,.int .i64 to,.int .i64 u,.int .i64 sz,.int .i64 by',.slice t' s' ((ay fr es0).map (D.int .i64))] (fun r=>∃t5 s5,(s5=3∨hs1=[])∧r=.tuple [.agg [.slice t5 s5 (hs1.map Hp.e),.int .i64 a],.bool ok]))
  (t t' tb:Tok) (s s' sb:Nat) (hs:s=8∨l=[]) (hs':s'=1∨root=[]) (hsb:sb=1∨bans=[]):
  EvX Γ2 25 [.slice t s (l.map Eg.e),.slice t' s' (root.map (D.int .i64)),.slice tb sb (bans.map (D.int .i64)),.int .i64 fr,.int .i64 to,.int .i64 now,.int .i64 sz,.int .i64 by'] (fun r=>if ok=true then uM Hp.e 3 (aw sz es0 now++hs1) [.int .i64 a] [.bool true] r else r=.tuple [.agg [.slice .isnil 0 [],.int .i64 0],.bool false]):=by
 have hst:bf l root fr=some es0:=by rw[←hid];exact cX ha.2.2.2 hw.chain
 have hW:=fun t t'=>(ug l (by omega) root (by omega) fr now sz (aw sz es0 now) (gM.2 ⟨ha,es0,m,u,hst,hid,hw,rfl⟩) t s hs t' s' hs').grow kz
 have ha0:br l fr 0 0:=⟨ha.1,by omega,by omega,ha.2.2.2⟩
 have hE:=fun t t'=>(mg l (by omega) root (by omega) fr ha0 es0 hst t s hs t' s' hs').grow kz
 have hend:=ej hw.chain
 have hla:dX now (aw sz es0 now)=u:=hw.hops.2
 have hhl:=bu sz es0 now
 have hel:es0.length=root.length:=by rw[←hid];simp
 have hnn:ay fr es0=fr::es0.map Eg.to:=rfl
 rw[←hnn]at hE
 have hnl2:(ay fr es0).length=es0.length+1:=by simp[ay]
 have hne:ay fr es0≠[]:=by simp[ay]
 refine cn rfl rfl ?_
 clear hnn
 generalize ay fr es0=ns at*
 generalize aw sz es0 now=hs0 at*
 have hj:ns.length - 1<(ns.map (D.int .i64)).length:=by rw[List.length_map];exact uj hne
 have hsub:IntKind.i64.wrap ((ns.length:Int) - 1)=((ns.length - 1:Nat):Int):=by rw[rV (by omega)];omega
 clear hst hid ha0 hw ha
 repeat' (first
 |(refine ai ?_;first
 |refine mI ?_
 |refine mB ?_
 |refine mS ?_
 |refine mT ?_
 |(refine qr rfl rfl rfl (hW _ _) (Nat.le_refl _) rfl ?_;intro tm sm st1 c1 c2 c3 c4 c5 c6 hO)
 |refine eB ?_
 |refine eS ?_
 |refine ph (v:=.slice _ _ _) rfl rfl rfl rfl rfl ?_
 |refine aq rfl rfl ?_
 |refine WS_nil ?_)
 |refine WC_seq ?_
 |refine WC_opsS ?_)
 repeat' (first
 |(refine ai ?_;first
 |refine mI ?_
 |refine mB ?_
 |refine mS ?_
 |refine mT ?_
 |refine mM ?_
 |(refine nR rfl rfl rfl (hE _ _) rfl ?_;intro tn sn st2 hsn d1 d2 d3 d4 d5 d6)
 |refine eB ?_
 |refine eS ?_
 |refine nT ?_
 |refine lN ?_
 |refine eu rfl rfl ?_
 |refine WS_nil ?_)
 |refine WC_seq ?_
 |refine WC_opsS ?_
 |refine WC_skip ?_
 |refine af rfl ?_
 |refine WC_block ?_)
 have hO2:=hO.of d6 d5 d4
 have b0:st2.boxes 0=some (.cells [.slice tb sb (bans.map (D.int .i64))]):=by rw[d1,c1];rfl
 have b1:st2.boxes 1=some (.cells [.slice .isnil 0 [],.int .i64 0]):=by rw[d1,c1];rfl
 have n2:st2.next=2:=d2.trans c2
 have l2:st2.lim=0:=d3.trans c3
 have tl2:st2.tlim≤st2.ntok:=Nat.le_trans (by rw[d4,c4];exact Nat.zero_le _) (Nat.le_refl _)
 clear hO c1 c2 c3 c4 c5 c6 d1 d2 d3 d4 d5 d6 hW hE
 have hsn1:sn=1:=qz hsn (by omega)
 subst hsn1
 have hhad:=fun ρ st=>wo ns (by omega) tn 1 (.inl rfl) st2.next 1 (.slice t s (l.map Eg.e)) (.int .i64 to) (.int .i64 now) (.int .i64 sz) (.int .i64 by') (.ptr 0 0) (.slice tm sm (hs0.map Hp.e)) (.slice tn 1 (ns.map (D.int .i64))) ns [] rfl List.nodup_nil [] (fun n=>rfl) ρ st [.slice .isnil 0 [],.int .i64 0]
 skip
 refine hhad _ _ ?_ (by omega) (ae _ _ _) ((ab _ _ (by omega)).trans b1) rfl rfl rfl rfl rfl rfl rfl rfl rfl rfl rfl rfl rfl rfl _ (fun _ ρ3 st3 e1 e2 e3 e4 e5 e6 k0 k4 k5 k6 k7 k10 k18 k20 k16=>?_) (fun h=>absurd hnd h)
 ·show st2.lim≤0
  omega
 have b30:st3.boxes 0=some (.cells [.slice tb sb (bans.map (D.int .i64))]):=(e6 0 (by omega)).trans ((ab _ _ (by omega)).trans b0)
 have b31:st3.boxes 1=some (.cells [.slice .isnil 0 [],.int .i64 0]):=(e6 1 (by omega)).trans ((ab _ _ (by omega)).trans b1)
 have n3:st3.next=3:=e2.trans (by show st2.next+1=3;omega)
 have l3:st3.lim=0:=e1.trans l2
 have e3':st3.tlim=st2.tlim:=e3
 have e4':st3.toks=st2.toks:=e4
 have e5':st3.ntok=st2.ntok:=e5
 have hO3:AppK st3 3 tm sm (hs0.map Hp.e):=hO2.of (fun k _=>by rw[e4']) (by rw[e5'];exact Nat.le_refl _) e3'
 have tl3:st3.tlim≤st3.ntok:=by rw[e3',e5'];exact tl2
 have hll3:st3.lim≤st3.next:=by omega
 clear e1 e2 e3 e4 e5 e6 e3' e4' e5' b0 b1 hO2 n2 l2 tl2 hhad
 rw[←aa k0,←aa k4,←aa k5,←aa k6,←aa k7,←aa k10,←aa k18,←aa k20,←aa k16]
 repeat' (first
 |(refine ai ?_;first
 |refine lN ?_
 |refine aS (s:=((ns.length - 1:Nat):Int)) (hs:=hsub) ?_
 |refine iA (ns.length - 1) hj ?_
 |refine an (cs':=[_]) rfl rfl (ae _ _ _) rfl hll3 rfl rfl rfl ?_
 |refine mI ?_
 |refine mS ?_
 |refine lE (d:=.int _ _) hend ?_
 |refine aq rfl rfl ?_
 |refine WS_nil ?_)
 |refine WC_seq ?_
 |refine WC_opsS ?_
 |refine WC_block ?_)
 refine zT hs0 (by omega) now tm sm hO3.sz (.slice t s (l.map Eg.e)) (.int .i64 to) (.int .i64 sz) (.int .i64 by') (.ptr 0 0) (.ptr 1 0) (.slice tm sm (hs0.map Hp.e)) (.slice tn 1 (ns.map (D.int .i64))) (.ptr st3.next 0) hs0 [] rfl _ _ (by show st3.lim≤0;omega) rfl rfl rfl rfl rfl rfl rfl rfl rfl rfl rfl rfl rfl _ (fun ρ4 st4 e1 e2 e3 e4 e5 e6 k0 k4 k6 k7 k10 k16 k18 k20 k25 k5=>?_)
 have e2':st3.next+1≤st4.next:=e2
 have b4a:st4.boxes st3.next=some (.cells [.int .i64 m]):=(e6 _ (Nat.lt_succ_self _)).trans (ae _ _ _)
 have b40:st4.boxes 0=some (.cells [.slice tb sb (bans.map (D.int .i64))]):=(e6 0 (Nat.succ_pos _)).trans ((ab _ _ (by omega)).trans ((ab _ _ (by omega)).trans b30))
 have b41:st4.boxes 1=some (.cells [.slice .isnil 0 [],.int .i64 0]):=(e6 1 (by show 1<st3.next+1;omega)).trans ((ab _ _ (by omega)).trans ((ab _ _ (by omega)).trans b31))
 have l4:st4.lim=0:=e1.trans l3
 have e3':st4.tlim=st3.tlim:=e3
 have e4':st4.toks=st3.toks:=e4
 have e5':st4.ntok=st3.ntok:=e5
 have hO4:AppK st4 3 tm sm (hs0.map Hp.e):=hO3.of (fun k _=>by rw[e4']) (by rw[e5'];exact Nat.le_refl _) e3'
 have tl4:st4.tlim≤st4.ntok:=by rw[e3',e5'];exact tl3
 rw[hla]at k5
 have n4:4≤st4.next:=by omega
 rw[n3]at b4a k25
 clear e1 e2 e3 e4 e5 e6 e2' e3' e4' e5' b30 b31 hO3 n3 l3 tl3 hll3 hj hend hsub
 rw[←aa k0,←aa k4,←aa k5,←aa k6,←aa k7,←aa k10,←aa k16,←aa k18,←aa k20,←aa k25]
 repeat' (first
 |(refine ai ?_;first
 |refine bL (v:=.func 52 [.ptr 3 0,.ptr 0 0]) rfl rfl rfl ?_
 |refine wB rfl rfl rfl ?_
 |refine WS_nil ?_)
 |refine WC_seq ?_
 |refine WC_opsS ?_)
 have hB1:=fun t s h=>hB t s tn.strip 1 h rfl
 refine yx (Q':=fun x ρ' st'=>x=.normal∧∃t5 s5 q9,(s5=3∨hs1=[])∧q9≠1∧ρ' 16=.ptr 1 0∧ρ' 18=.slice tm sm (hs0.map Hp.e)∧ρ' 29=.ptr q9 0∧ρ' 19=.bool ok∧st'.boxes 1=some (.cells [.slice .isnil 0 [],.int .i64 0])∧st'.boxes q9=some (.cells [.slice t5 s5 (hs1.map Hp.e),.int .i64 a])∧st'.lim=0∧AppK st' 3 tm sm (hs0.map Hp.e)∧st'.tlim≤st'.ntok) ?_ ?_
 ·refine lh ?_
  simp only[o3,o4,o5,m3,eW,eP,Store.ahead,gj,jg,Nat.add_assoc,Nat.reduceAdd,List.length_cons,List.length_nil]
  generalize hN:st4.next=N at*
  have hlimN:st4.lim≤N+17:=by omega
  have hlim0:st4.lim≤3:=by omega
  have hlim14:st4.lim≤N+14:=by omega
  have hN4:4≤N:=n4
  have c3:∀{x:Option Box},ap st4.boxes (N+14) x 3=some (.cells [.int .i64 m]):=fun{x}=>(ab _ _ (by omega)).trans b4a
  have c0:∀{x:Option Box},ap st4.boxes (N+14) x 0=some (.cells [.slice tb sb (bans.map (D.int .i64))]):=fun{x}=>(ab _ _ (by omega)).trans b40
  have c1:∀{x:Option Box},ap st4.boxes (N+14) x 1=some (.cells [.slice .isnil 0 [],.int .i64 0]):=fun{x}=>(ab _ _ (by omega)).trans b41
  have c3b:∀{x:Option Box},(ap st4.boxes (N+14) x 3).bind Box.cs=some [.int .i64 m]:=fun{x}=>by rw[c3];rfl
  have f1:(N+17==3)=false:=by simp
  have f2:(3==N+17)=false:=by simp
  have f3:(N+14==3)=false:=by simp
  have f4:(3==N+14)=false:=by simp
  have f5:(0==N+14)=false:=by simp
  have f6:(N+14==0)=false:=by simp
  have f7:(decide (3<N))=true:=by simp;omega
  have f8:(decide (0<N))=true:=by simp;omega
  by_cases hl0:l=[]
  ·subst hl0
   have hcl:∀t,EvP Γ2 55 [.slice t s []] (.slice .no 8 []):=fun t=>kA (F:=iV 8 64) rfl rfl
   have hD:=n8 (lZ {st4 with boxes:=ap st4.boxes (N+14) (some (.cells [.slice .isnil 0 [],.int .i64 0])),next:=N+17} 0 [3,0]) 3 0
   have hB6:EvX Γ2 13 [.slice .no 8 [],.int .i64 m,.int .i64 to,.int .i64 u,.int .i64 sz,.int .i64 by',.slice tn.strip 1 (ns.map (D.int .i64))] (fun r=>(r.free=true∧cS r=false)∧(fun r=>∃t5 s5,(s5=3∨hs1=[])∧r=.tuple [.agg [.slice t5 s5 (hs1.map Hp.e),.int .i64 a],.bool ok]) (if av r then r.strip else r)):=(hB1 .no 8 (.inl rfl)).mono (fun r h=>by
    obtain⟨t5,s5,h5,rfl⟩:=h
    refine⟨⟨rfl,rfl⟩,?_⟩
    split
    ·exact⟨t5.strip,s5,h5,rfl⟩
    ·exact⟨t5,s5,h5,rfl⟩)
   repeat' (first
 |(refine ai ?_;first
 |refine an (cs':=[_,_]) rfl rfl (ae _ _ _) rfl hlim14 rfl rfl rfl ?_
 |refine mI ?_
 |refine mB ?_
 |refine mS ?_
 |refine mP ?_
 |refine bL (v:=.func _ _) rfl rfl rfl ?_
 |refine mT ?_
 |refine am (agg:=false) (d:=.int _ _) rfl rfl rfl (c3b (x:=some (.cells [.slice .isnil 0 [],.int .i64 0]))) hlim0 rfl ?_
 |refine u8 rfl rfl rfl (hcl _) rfl rfl rfl ?_
 |(refine wm (p:=0) (ps:=[3,0]) rfl rfl rfl rfl rfl rfl hD ?_<;>intro r6 hp6<;>subst hp6)
 |(refine wY (P:=fun r=>∃t5 s5,(s5=3∨hs1=[])∧r=.tuple [.agg [.slice t5 s5 (hs1.map Hp.e),.int .i64 a],.bool ok]) rfl rfl rfl rfl hB6 ?_<;>intro r7 hp7<;>obtain⟨t5,s5,hs5,rfl⟩:=hp7)
 |refine eB ?_
 |refine eA ?_
 |refine WS_nil ?_))
   have hq9:N+14≠1:=by clear hB hB1 hB6;omega
   refine⟨?_,by first|trivial|rfl,t5,s5,N+14,hs5,hq9,?_,?_,?_,?_,?_,?_,l4,hO4,tl4⟩
   rotate_left
   ·rfl
   ·rfl
   ·rfl
   ·rfl
   ·have e:∀x y:Option Box,ap (ap st4.boxes (N+14) x) (N+14) y 1=some (.cells [.slice .isnil 0 [],.int .i64 0]):=fun x y=>by rw[ab _ _ (Ne.symm hq9),ab _ _ (Ne.symm hq9)];exact b41
    exact e (some (.cells [.slice .isnil 0 [],.int .i64 0])) (some (.cells [.slice t5 s5 (hs1.map Hp.e),.int .i64 a]))
   ·exact ae _ _ _
   rw[Bool.and_eq_true]
   constructor
   ·simp[bC,List.range,List.range.loop,Fl.clash,f3,f4,f5,f6]
   ·simp[iF,pF,List.range,List.range.loop,f7,f8]
  ·have hs8:s=8:=hs.resolve_right hl0
   have hel:∀a:Eg,gL 8 a.e∧(match a.e.cells with|[c]=>(match a.e with| .agg _=>false|_=>true)|_=>(match a.e with| .agg _=>true|_=>false))=true:=fun a=>⟨⟨rfl,rfl⟩,rfl⟩
   have hel1:∀a:Eg,gL 8 a.e:=fun a=>(hel a).1
   have hmk:∀a:Eg,a.e.cells.length=8∧qC a.e.cells=a.e:=fun a=>⟨rfl,rfl⟩
   have hcl:∀t,EvX Γ2 55 [.slice t s (l.map Eg.e)] (fun r=>r=.slice .row 8 (l.map Eg.e)):=fun t=>(yo (Γ:=Γ2) (f:=55) (bytes:=64) rfl l (.inl hs8) (by omega) hel).mono (fun r h=>by
    rcases h with⟨h,_⟩|h
    ·exact absurd h hl0
    ·exact h)
   repeat' (first
 |(refine ai ?_;first
 |refine mS ?_
 |refine bL (v:=.func _ _) rfl rfl rfl ?_
 |(refine wV rfl rfl rfl (hcl _) rfl hel1 hlimN ?_<;>intro st5 p1 p2 p3 p4 hR5 p5 p6)))
   have l5:st5.lim=0:=p1.trans l4
   have n5:st5.next=N+17+1:=p6
   have b53:st5.boxes 3=some (.cells [.int .i64 m]):=(p5 3 (by show 3≠N+17;omega)).trans (c3 (x:=some (.cells [.slice .isnil 0 [],.int .i64 0])))
   have b50:st5.boxes 0=some (.cells [.slice tb sb (bans.map (D.int .i64))]):=(p5 0 (by show 0≠N+17;omega)).trans (c0 (x:=some (.cells [.slice .isnil 0 [],.int .i64 0])))
   have b51:st5.boxes 1=some (.cells [.slice .isnil 0 [],.int .i64 0]):=(p5 1 (by show 1≠N+17;omega)).trans (c1 (x:=some (.cells [.slice .isnil 0 [],.int .i64 0])))
   have b59:st5.boxes (N+14)=some (.cells [.slice .isnil 0 [],.int .i64 0]):=(p5 (N+14) (by show N+14≠N+17;omega)).trans (ae _ _ _)
   have hR5:RowIs st5 (N+17) 8 (l.map Eg.e):=hR5
   have hO5:AppK st5 3 tm sm (hs0.map Hp.e):=hO4.of (fun k _=>by rw[p3]) (by rw[p4];exact Nat.le_refl _) p2
   have tl5:st5.tlim≤st5.ntok:=by rw[p2,p4];exact tl4
   clear p1 p2 p3 p4 p5 p6 hcl hO4 tl4
   obtain⟨cs5,hb5⟩:∃cs5,st5.boxes (N+17)=some (.row cs5):=by
    obtain⟨_,_,cs,h,_⟩:=hR5
    exact⟨cs,h⟩
   have hok:fN st5 (N+17) [3,0]=true:=w4 (cs:=cs5) (by omega) (by omega) hb5 (fun p hp=>by
    simp only[List.mem_cons,List.not_mem_nil,or_false]at hp
    rcases hp with rfl|rfl
    ·exact⟨by omega,_,b53⟩
    ·exact⟨by omega,_,b50⟩)
   have hRc:RowIs (jd st5 (N+17) [3,0]) (N+17) 8 (l.map Eg.e):=by
    obtain⟨h1,h2,cs,h3,h4⟩:=hR5
    exact⟨Nat.le_refl _,h2,cs,(kX (.inl rfl)).trans h3,h4⟩
   have hBan:BanB (jd st5 (N+17) [3,0]) 3 0 m tb sb bans:=⟨by rw[kX (.inr (by simp)),b53];rfl,by rw[kX (.inr (by simp)),b50];rfl⟩
   have hD:=(pq m bans (by omega) 3 0 tb sb hsb l (by omega) (jd st5 (N+17) [3,0]) (N+17) ⟨by omega,by omega⟩ hBan ⟨by show 3<st5.next;omega,by show 0<st5.next;omega⟩ hRc).mono (P':=fun r C1=>kN r (N+17)=true∧(r=.rs (N+17) 0 8 (bA m bans l).length l.length∧RowIs C1 (N+17) 8 ((bA m bans l).map Eg.e))) (fun r s h=>⟨by rw[h.1];simp[kN],h.1,h.2.1⟩)
   clear hRc hBan
   repeat' (first
 |(refine ai ?_;first
 |(refine uX (p:=N+17) (ps:=[3,0]) rfl rfl rfl rfl rfl rfl hok hD ?_<;>intro r6 C1 hp6)))
   obtain⟨rfl,hRC⟩:=hp6
   have hR6:RowIs {st5 with boxes:=ap st5.boxes (N+17) (gRow (C1.boxes (N+17)))} (N+17) 8 ((bA m bans l).map Eg.e):=hRC.gRow (fun d hd=>by
    obtain⟨e,_,rfl⟩:=List.mem_map.1 hd
    refine⟨rfl,fun c hc=>?_⟩
    simp only[Eg.e,D.cells,List.mem_cons,List.not_mem_nil,or_false]at hc
    rcases hc with rfl|rfl|rfl|rfl|rfl|rfl|rfl|rfl<;>rfl) (ae _ _ _) (by show st5.lim≤N+17;omega) (by show N+17<st5.next;omega)
   have b63:(ap st5.boxes (N+17) (gRow (C1.boxes (N+17))) 3).bind Box.cs=some [.int .i64 m]:=by rw[ab _ _ (by omega),b53];rfl
   have b69:ap (ap st5.boxes (N+17) (gRow (C1.boxes (N+17)))) (N+17) none (N+14)=some (.cells [.slice .isnil 0 [],.int .i64 0]):=(ab _ _ (by omega)).trans ((ab _ _ (by omega)).trans b59)
   have b61:∀z:Option Box,ap (ap (ap st5.boxes (N+17) (gRow (C1.boxes (N+17)))) (N+17) none) (N+14) z 1=some (.cells [.slice .isnil 0 [],.int .i64 0]):=fun z=>(ab _ _ (by omega)).trans ((ab _ _ (by omega)).trans ((ab _ _ (by omega)).trans b51))
   have l53:st5.lim≤3:=by omega
   have l514:st5.lim≤N+14:=by omega
   have hB6:EvX Γ2 13 [.slice .no 8 ((bA m bans l).map Eg.e),.int .i64 m,.int .i64 to,.int .i64 u,.int .i64 sz,.int .i64 by',.slice tn.strip 1 (ns.map (D.int .i64))] (fun r=>(r.free=true∧cS r=false)∧(fun r=>∃t5 s5,(s5=3∨hs1=[])∧r=.tuple [.agg [.slice t5 s5 (hs1.map Hp.e),.int .i64 a],.bool ok]) r.strip):=(hB1 .no 8 (.inl rfl)).mono (fun r h=>by
    obtain⟨t5,s5,h5,rfl⟩:=h
    exact⟨⟨rfl,rfl⟩,t5.strip,s5,h5,rfl⟩)
   repeat' (first
 |(refine ai ?_;first
 |refine an (cs':=[_,_]) rfl rfl b69 rfl l514 rfl rfl rfl ?_
 |refine mI ?_
 |refine mB ?_
 |refine mS ?_
 |refine mP ?_
 |refine mT ?_
 |refine am (agg:=false) (d:=.int _ _) rfl rfl rfl b63 l53 rfl ?_
 |(refine ws (P:=fun r=>∃t5 s5,(s5=3∨hs1=[])∧r=.tuple [.agg [.slice t5 s5 (hs1.map Hp.e),.int .i64 a],.bool ok]) (xs:=bA m bans l) (e:=Eg.e) rfl rfl rfl hR6 rfl (by decide) hmk rfl rfl rfl rfl rfl rfl hB6 ?_<;>intro r7 hp7<;>obtain⟨t5,s5,hs5,rfl⟩:=hp7)
 |refine eB ?_
 |refine eA ?_
 |refine WS_nil ?_))
   have hq9:N+14≠1:=by clear hB hB1 hB6;omega
   refine⟨?_,by first|trivial|rfl,t5,s5,N+14,hs5,hq9,rfl,rfl,rfl,rfl,b61 (some (.cells [.slice t5 s5 (hs1.map Hp.e),.int .i64 a])),ae _ _ _,l5,hO5,tl5⟩
   rw[Bool.and_eq_true]
   constructor
   ·simp[bC,List.range,List.range.loop,Fl.clash,f1,f2,f3,f4,f5,f6]
   ·simp[iF,pF,List.range,List.range.loop,f7,f8]
 ·rintro x ρ5 st5 ⟨rfl,t5,s5,q9,hs5,hq9,k16,k18,k29,k19,b51,b59,l5,hO5,tl5⟩
  have hbd:((hs0.map Hp.e).length+(hs1.map Hp.e).length)*24≤140737488355328:=by rw[List.length_map,List.length_map];omega
  have hs5':s5=3∨hs1.map Hp.e=[]:=hs5.imp id (fun h=>by rw[h];rfl)
  have hmap:hs0.map Hp.e++hs1.map Hp.e=(hs0++hs1).map Hp.e:=List.map_append.symm
  have l50:st5.lim≤1:=by omega
  have l59:st5.lim≤q9:=by omega
  have b59c:(st5.boxes q9).bind Box.cs=some [.slice t5 s5 (hs1.map Hp.e),.int .i64 a]:=by rw[b59];rfl
  rw[←aa k16,←aa k18,←aa k29,←aa k19]
  cases ok with
  |false=>
   repeat' (first
 |(refine ai ?_;first
 |refine an (cs':=[_,_]) rfl rfl b51 rfl l50 rfl rfl rfl ?_
 |refine mB ?_
 |refine bi (cs:=[_,_]) rfl rfl rfl ?_
 |refine nT ?_
 |refine WS_nil ?_)
 |refine WC_seq ?_
 |refine WC_opsS ?_
 |refine ah rfl ?_
 |refine al ?_)
   refine⟨.inr rfl,_,(sX (i:=16) (j:=17) (q:=1) ?_ ?_ ?_ ?_).2,rfl⟩
   ·rfl
   ·rfl
   ·exact l50
   ·rfl
  |true=>
   repeat' (first
 |(refine ai ?_;first
 |(refine iS rfl rfl rfl hO5.ok hs5' hbd tl5 rfl ?_<;>intro k6 st6 g1 g2 g3 g4 g5 g6 g7<;>rw[hmap])
 |refine mB ?_
 |refine mS ?_
 |refine am (agg:=false) (d:=.slice _ _ _) rfl rfl rfl b59c l59 rfl ?_
 |refine nT ?_
 |refine fD ?_
 |refine WS_nil ?_)
 |refine WC_seq ?_
 |refine WC_opsS ?_
 |refine bq ?_
 |refine WC_skip ?_
 |refine af rfl ?_)
   have b69c:(st6.boxes q9).bind Box.cs=some [.slice t5 s5 (hs1.map Hp.e),.int .i64 a]:=by rw[g1];exact b59c
   have b61:st6.boxes 1=some (.cells [.slice .isnil 0 [],.int .i64 0]):=by rw[g1];exact b51
   have l69:st6.lim≤q9:=by rw[g3];exact l59
   have l61:st6.lim≤1:=by rw[g3];exact l50
   repeat' (first
 |(refine ai ?_;first
 |refine an (cs':=[_,_]) rfl rfl b61 rfl l61 rfl rfl rfl ?_
 |refine mB ?_
 |refine am (agg:=false) (d:=.int _ _) rfl rfl rfl b69c l69 rfl ?_
 |refine bi (cs:=[_,_]) rfl rfl rfl ?_
 |refine WS_nil ?_)
 |refine al ?_
 |refine a8 rfl ?_)
   have hfin:=fun ρ st h=>sC (ρ:=ρ) (st:=st) (e:=Hp.e) (sz:=3) (xs:=hs0++hs1) (t:=.own k6) (s:=3) (cs:=[.int .i64 a]) (vs:=[.bool true]) (rs:=[.cell 16 true 2,.tmp 17]) (.inr rfl:X.ret=.normal∨X.ret=.ret) h rfl rfl (.inl rfl) rfl rfl rfl
   refine⟨.inr rfl,?_⟩
   refine(hfin _ _ ?_).2
   refine ua (q:=1) ?_ ?_ ?_ ?_
   ·rfl
   ·rfl
   ·exact l61
   ·rfl
end Go.Lea
/-
  The best way on: what the code finds.
-/
namespace Go.Lea
open Go.Ev
def xg:D:=.tuple [.agg [.slice .isnil 0 [],.int .i64 0],.bool false]
set_option maxHeartbeats 16000000 in
theorem yG (l:List Eg) (hll:l.length≤900) (root bans:List Int) (hrl:root.length≤1000) (fr to now sz by':Int) (es0:List Eg) (m u:Int) (ha:br l fr now sz) (hid:es0.map Eg.id=root) (hw:Way sz l fr now es0 m u) (hnd:¬(ay fr es0).Nodup)
  (t t' tb:Tok) (s s' sb:Nat) (hs:s=8∨l=[]) (hs':s'=1∨root=[]) (hsb:sb=1∨bans=[]):
  EvX Γ2 25 [.slice t s (l.map Eg.e),.slice t' s' (root.map (D.int .i64)),.slice tb sb (bans.map (D.int .i64)),.int .i64 fr,.int .i64 to,.int .i64 now,.int .i64 sz,.int .i64 by'] (fun r=>r=xg):=by
 have hst:bf l root fr=some es0:=by rw[←hid];exact cX ha.2.2.2 hw.chain
 have hW:=fun t t'=>(ug l (by omega) root (by omega) fr now sz (aw sz es0 now) (gM.2 ⟨ha,es0,m,u,hst,hid,hw,rfl⟩) t s hs t' s' hs').grow kz
 have ha0:br l fr 0 0:=⟨ha.1,by omega,by omega,ha.2.2.2⟩
 have hE:=fun t t'=>(mg l (by omega) root (by omega) fr ha0 es0 hst t s hs t' s' hs').grow kz
 have hend:=ej hw.chain
 have hla:dX now (aw sz es0 now)=u:=hw.hops.2
 have hhl:=bu sz es0 now
 have hel:es0.length=root.length:=by rw[←hid];simp
 have hnn:ay fr es0=fr::es0.map Eg.to:=rfl
 rw[←hnn]at hE
 have hnl2:(ay fr es0).length=es0.length+1:=by simp[ay]
 have hne:ay fr es0≠[]:=by simp[ay]
 refine cn rfl rfl ?_
 clear hnn
 generalize ay fr es0=ns at*
 generalize aw sz es0 now=hs0 at*
 clear hst hid ha0 hw ha
 repeat' (first
 |(refine ai ?_;first
 |refine mI ?_
 |refine mB ?_
 |refine mS ?_
 |refine mT ?_
 |(refine qr rfl rfl rfl (hW _ _) (Nat.le_refl _) rfl ?_;intro tm sm st1 c1 c2 c3 c4 c5 c6 hO)
 |refine eB ?_
 |refine eS ?_
 |refine ph (v:=.slice _ _ _) rfl rfl rfl rfl rfl ?_
 |refine aq rfl rfl ?_
 |refine WS_nil ?_)
 |refine WC_seq ?_
 |refine WC_opsS ?_)
 repeat' (first
 |(refine ai ?_;first
 |refine mI ?_
 |refine mB ?_
 |refine mS ?_
 |refine mT ?_
 |refine mM ?_
 |(refine nR rfl rfl rfl (hE _ _) rfl ?_;intro tn sn st2 hsn d1 d2 d3 d4 d5 d6)
 |refine eB ?_
 |refine eS ?_
 |refine nT ?_
 |refine lN ?_
 |refine eu rfl rfl ?_
 |refine WS_nil ?_)
 |refine WC_seq ?_
 |refine WC_opsS ?_
 |refine WC_skip ?_
 |refine af rfl ?_
 |refine WC_block ?_)
 have hO2:=hO.of d6 d5 d4
 have b0:st2.boxes 0=some (.cells [.slice tb sb (bans.map (D.int .i64))]):=by rw[d1,c1];rfl
 have b1:st2.boxes 1=some (.cells [.slice .isnil 0 [],.int .i64 0]):=by rw[d1,c1];rfl
 have n2:st2.next=2:=d2.trans c2
 have l2:st2.lim=0:=d3.trans c3
 have tl2:st2.tlim≤st2.ntok:=Nat.le_trans (by rw[d4,c4];exact Nat.zero_le _) (Nat.le_refl _)
 clear hO c1 c2 c3 c4 c5 c6 d1 d2 d3 d4 d5 d6 hW hE
 have hsn1:sn=1:=qz hsn (by omega)
 subst hsn1
 have hhad:=fun ρ st=>wo ns (by omega) tn 1 (.inl rfl) st2.next 1 (.slice t s (l.map Eg.e)) (.int .i64 to) (.int .i64 now) (.int .i64 sz) (.int .i64 by') (.ptr 0 0) (.slice tm sm (hs0.map Hp.e)) (.slice tn 1 (ns.map (D.int .i64))) ns [] rfl List.nodup_nil [] (fun n=>rfl) ρ st [.slice .isnil 0 [],.int .i64 0]
 skip
 refine hhad _ _ ?_ (by omega) (ae _ _ _) ((ab _ _ (by omega)).trans b1) rfl rfl rfl rfl rfl rfl rfl rfl rfl rfl rfl rfl rfl rfl _ (fun h=>absurd h hnd) (fun _ ρ3 st3 e1 e2 k16 k17=>?_)
 ·show st2.lim≤0
  omega
 have l3:st3.lim≤1:=by rw[e1];show st2.lim≤1;omega
 exact⟨.inr rfl,_,(sX (i:=16) (j:=17) (q:=1) k16 e2 l3 k17).2,rfl⟩
set_option maxHeartbeats 16000000 in
theorem yt (l:List Eg) (hll:l.length≤900) (root bans:List Int) (hrl:root.length≤1000) (fr to now sz by':Int) (hw:db l root fr now sz=none)
  (t t' tb:Tok) (s s' sb:Nat) (hs:s=8∨l=[]) (hs':s'=1∨root=[]) (hsb:sb=1∨bans=[]):
  EvX Γ2 25 [.slice t s (l.map Eg.e),.slice t' s' (root.map (D.int .i64)),.slice tb sb (bans.map (D.int .i64)),.int .i64 fr,.int .i64 to,.int .i64 now,.int .i64 sz,.int .i64 by'] (fun r=>r=xg):=by
 refine cn rfl rfl ?_
 have hW:=fun t t'=>(pg l (by omega) root (by omega) fr now sz hw t s hs t' s' hs').grow kz
 by_cases hE:br l fr 0 0∧∃es,bf l root fr=some es
 ·obtain⟨ha0,es,hes⟩:=hE
  have hE:=fun t t'=>(mg l (by omega) root (by omega) fr ha0 es hes t s hs t' s' hs').grow kz
  repeat' (first
 |(refine ai ?_;first
 |refine mI ?_
 |refine mB ?_
 |refine mS ?_
 |refine mT ?_
 |refine cA rfl (hW _ _) ?_
 |(refine nR rfl rfl rfl (hE _ _) rfl ?_;intro tn sn st2 hsn d1 d2 d3 d4 d5 d6)
 |refine eB ?_
 |refine eS ?_
 |refine bi (cs:=[_,_]) rfl rfl rfl ?_
 |refine ph (v:=.slice _ _ _) rfl rfl rfl rfl rfl ?_
 |refine nT ?_
 |refine aq rfl rfl ?_
 |refine WS_nil ?_)
 |refine WC_seq ?_
 |refine WC_opsS ?_
 |refine ah rfl ?_)
  have b1:st2.boxes 1=some (.cells [.slice .isnil 0 [],.int .i64 0]):=by rw[d1];rfl
  have l2:st2.lim≤1:=by rw[d3];exact Nat.zero_le _
  repeat' (first
 |(refine ai ?_;first
 |refine an (cs':=[_,_]) rfl rfl b1 rfl l2 rfl rfl rfl ?_
 |refine mB ?_
 |refine WS_nil ?_)
 |refine al ?_)
  refine⟨.inr rfl,_,(sX (i:=16) (j:=17) (q:=1) ?_ ?_ ?_ ?_).2,rfl⟩
  ·rfl
  ·rfl
  ·exact l2
  ·rfl
 ·have hE0:¬br l fr 0 0∨bf l root fr=none:=by
   by_cases h:br l fr 0 0
   ·right
    cases h':bf l root fr with
    |none=>rfl
    |some es=>exact absurd ⟨h,es,h'⟩ hE
   ·exact .inl h
  have hE:=fun t t'=>(xN l (by omega) root (by omega) fr hE0 t s hs t' s' hs').grow kz
  repeat' (first
 |(refine ai ?_;first
 |refine mI ?_
 |refine mB ?_
 |refine mS ?_
 |refine mT ?_
 |refine cA rfl (hW _ _) ?_
 |refine cA rfl (hE _ _) ?_
 |refine eB ?_
 |refine eS ?_
 |refine bi (cs:=[_,_]) rfl rfl rfl ?_
 |refine ph (v:=.slice _ _ _) rfl rfl rfl rfl rfl ?_
 |refine an (cs':=[_,_]) rfl rfl rfl rfl (by first|exact Nat.zero_le _|omega) rfl rfl rfl ?_
 |refine nT ?_
 |refine aq rfl rfl ?_
 |refine WS_nil ?_)
 |refine WC_seq ?_
 |refine WC_opsS ?_
 |refine ah rfl ?_
 |refine al ?_)
  exact⟨.inr rfl,_,rfl,rfl⟩
def SpurD (sz now:Int) (o:Option (List Eg×Int)) (r:D):Prop:=match o with
 |some (es,a)=>uM Hp.e 3 (aw sz es now) [.int .i64 a] [.bool true] r
 |none=>r=xg
theorem iR (l:List Eg) (hll:l.length≤900) (root bans:List Int) (hrl:root.length≤1000) (hbl:bans.length≤1000000) (fr to now sz by':Int) (t t' tb:Tok) (s s' sb:Nat) (hs:s=8∨l=[]) (hs':s'=1∨root=[]) (hsb:sb=1∨bans=[]):
  EvX Γ2 25 [.slice t s (l.map Eg.e),.slice t' s' (root.map (D.int .i64)),.slice tb sb (bans.map (D.int .i64)),.int .i64 fr,.int .i64 to,.int .i64 now,.int .i64 sz,.int .i64 by'] (SpurD sz now (ce l root bans fr to now sz by')):=by
 cases hw:db l root fr now sz with
 |none=>
  have e:ce l root bans fr to now sz by'=none:=by unfold ce;rw[if_pos hw]
  rw[e]
  exact yt l hll root bans hrl fr to now sz by' hw t t' tb s s' sb hs hs' hsb
 |some h=>
  obtain⟨ha,es0,m,u,h1,hid,hwy,rfl⟩:=gM.1 hw
  by_cases hnd:(ay fr es0).Nodup
  ·rw[ot hid ha hwy hnd]
   have hel:es0.length=root.length:=by rw[←hid];simp
   have hnl:(ay fr es0).length≤1000000:=by simp[ay];omega
   have hsl:(gg l bans m).length≤l.length:=List.length_filter_le _ _
   cases hb:cR (gg l bans m) m to u sz by' (ay fr es0)with
   |none=>
    have hB:=fun t s t' s' h1 h2=>uA (gg l bans m) (by omega) m to u sz by' (ay fr es0) hnl t t' s s' h1 h2 hb
    exact(tS l hll root bans hrl hbl fr to now sz by' es0 m u ha hid hwy hnd [] (by simp) 0 false (fun t s t' s' h1 h2=>⟨_,⟨.isnil,0,.inr rfl,rfl⟩,hB t s t' s' h1 (.inl h2)⟩) t t' tb s s' sb hs hs' hsb).mono (fun r h=>h)
   |some p=>
    obtain⟨es1,a⟩:=p
    have hB:=fun t s t' s' h1 h2=>wU (gg l bans m) (by omega) m to u sz by' (ay fr es0) hnl t t' s s' h1 h2 es1 a hb
    have hl1:(aw sz es1 u).length≤1000:=by
     rw[bu]
     have:=(jy hb).few
     have:=tW this
     omega
    refine(tS l hll root bans hrl hbl fr to now sz by' es0 m u ha hid hwy hnd (aw sz es1 u) hl1 a true (fun t s t' s' h1 h2=>?_) t t' tb s s' sb hs hs' hsb).mono (fun r h=>?_)
    ·exact(hB t s t' s' h1 (.inl h2)).mono (fun r ⟨t5,s5,e,h⟩=>⟨t5,s5,h,e⟩)
    ·show uM Hp.e 3 (aw sz (es0++es1) now) [.int .i64 a] [.bool true] r
     rw[vR hwy]
     exact h
  ·have e:ce l root bans fr to now sz by'=none:=by
    unfold ce
    rw[if_neg (by rw[hw];simp),h1]
    simp only
    rw[if_neg hnd]
   rw[e]
   exact yG l hll root bans hrl fr to now sz by' es0 m u ha hid hwy hnd t t' tb s s' sb hs hs' hsb
end Go.Lea
/-
  SpurBeats, as the evaluator runs it.
-/
namespace Go.Lea
open Go.Ev
set_option maxRecDepth 100000 in
theorem rP:Bo (az Γ2 400 24 [])=true:=by decide+kernel
theorem jz:EvP Γ2 24 [] (.bool true):=nr (zU rP)
end Go.Lea
/-
  SpurBans, as the evaluator runs it.
-/
namespace Go.Lea
open Go.Ev
theorem AA (x y:Int):pN [x,y]=if x=0 then y else x:=by
 simp only[pN]
 split
 ·split
  ·rename_i h;exact h.symm
  ·rfl
 ·rfl
theorem uD (a b:Int):gJ a b=if a<b then -1 else if b<a then 1 else 0:=rfl
theorem tM (h:List Hp) (a:Int) (h':List Hp) (a':Int):im h a h' a'=if a<a' then -1 else if a'<a then 1 else if h.length<h'.length then -1 else if h'.length<h.length then 1 else ea (h.map Hp.id) (h'.map Hp.id):=by
 unfold im
 rw[AA,AA,uD,uD]
 by_cases h1:a<a'
 ·simp[h1]
 ·by_cases h2:a'<a
  ·simp[h1,h2]
  ·by_cases h3:h.length<h'.length
   ·simp[h1,h2,h3]
   ·by_cases h4:h'.length<h.length
    ·simp[h1,h2,h3,h4]
    ·simp[h1,h2,h3,h4]
theorem vH (h:List Hp) (a:Int) (h':List Hp) (a':Int):im h a h' a'= - im h' a' h a:=by
 rw[tM,tM]
 have:=lk (h.map Hp.id) (h'.map Hp.id)
 repeat' split
 all_goals omega
def qj (sz now:Int):Option (List Eg×Int)→List Hp
 |some (es,_)=>aw sz es now
 |none=>[]
def aO:Option (List Eg×Int)→Int
 |some (_,a)=>a
 |none=>0
theorem SpurD.isA {sz now:Int} {o:Option (List Eg×Int)} {r:D} (h:SpurD sz now o r):uM Hp.e 3 (qj sz now o) [.int .i64 (aO o)] [.bool o.isSome] r:=by
 cases o with
 |none=>exact⟨.isnil,0,h,.inr rfl⟩
 |some p=>exact h
variable {l:List Eg} {root bans more:List Int} {fr to now sz by':Int}
theorem SpurIn.less {es:List Eg} {u:Int} (h:SpurIn l root (bans++more) fr to now sz by' es u):SpurIn l root bans fr to now sz by' es u:=
 ⟨h.route,h.le,h.pre,fun k hk hb=>h.ban k hk (List.mem_append_left _ hb)⟩
theorem vP {es es':List Eg} {a a':Int} (h:ce l root bans fr to now sz by'=some (es,a)) (h':ce l root (bans++more) fr to now sz by'=some (es',a')) (hm:∃m∈more,(es.map Eg.id)[root.length]?=some m):im (aw sz es now) a (aw sz es' now) a'<0:=by
 have hin:=cq h'
 rcases ju h hin.less with h1|⟨_,rfl,_⟩
 ·rw[h1];decide
 ·obtain⟨m,hm1,hm2⟩:=hm
  exact absurd (List.mem_append_right _ hm1) (hin.ban m hm2)
end Go.Lea
/-
  SpurParts: plain laws; two rows of IDs are the same.
-/
namespace Go.Lea
open Go.Ev
variable {l:List Eg} {root bans:List Int} {fr to now sz by':Int}
theorem kI {h h':List Hp} {a a':Int} (h1:im h a h' a'≤0) (h2:im h' a' h a= -1):False:=by
 have:=vH h a h' a'
 omega
theorem ec:ce l [] [] fr to now sz by'=cR l fr to now sz by' []:=by
 cases hb:cR l fr to now sz by' []with
 |none=>
  cases hs:ce l [] [] fr to now sz by' with
  |none=>rfl
  |some p=>
   obtain⟨es,a⟩:=p
   have hin:=cq hs
   obtain⟨es',a',h2⟩:=pX (shut:=[]) hin.route.ask hin.route.way (by simp) hin.le
   rw[hb]at h2
   cases h2
 |some p=>
  obtain⟨es,a⟩:=p
  have hB:=jy hb
  have hin:SpurIn l [] [] fr to now sz by' es a:=⟨hB.route,hB.le,⟨es.map Eg.id,rfl⟩,fun k hk=>List.not_mem_nil⟩
  obtain⟨es',a',hs⟩:=uy hin
  rw[hs]
  rcases ju hs hin with h1|⟨_,rfl,rfl⟩
  ·rcases hB.cmp (cq hs).route (by simp)with h2|⟨h2,_,_⟩
   ·exact(kI (by rw[h1];decide) h2).elim
   ·exact(kI (by rw[h2];decide) h1).elim
  ·rfl
theorem sI {es:List Eg} {a k:Int} (h:ce l root bans fr to now sz by'=some (es,a)) (hk:(es.map Eg.id)[root.length]?=some k):ce l (root++[k]) [] fr to now sz by'=some (es,a):=by
 have hin:=cq h
 obtain⟨r,hr⟩:=hin.pre
 have hr0:∃r',r=k::r':=by
  rw[hr,List.getElem?_append_right (Nat.le_refl _),Nat.sub_self]at hk
  cases r with
  |nil=>cases hk
  |cons x r'=>cases hk;exact⟨r',rfl⟩
 obtain⟨r',rfl⟩:=hr0
 have hin':SpurIn l (root++[k]) [] fr to now sz by' es a:=⟨hin.route,hin.le,⟨r',by rw[hr];simp⟩,fun _ _=>List.not_mem_nil⟩
 obtain⟨es',a',hs⟩:=uy hin'
 have hin2:=cq hs
 obtain⟨q,hq⟩:=hin2.pre
 have hin3:SpurIn l root bans fr to now sz by' es' a':=⟨hin2.route,hin2.le,⟨k::q,by rw[hq];simp⟩,fun c hc=>by
  have:c=k:=by
   rw[hq,List.append_assoc,List.getElem?_append_right (Nat.le_refl _),Nat.sub_self]at hc
   cases hc
   rfl
  rw[this]
  exact hin.ban k hk⟩
 rw[hs]
 rcases ju hs hin' with h1|⟨_,rfl,rfl⟩
 ·rcases ju h hin3 with h2|⟨h2,_,_⟩
  ·exact(kI (by rw[h1];decide) h2).elim
  ·exact(kI (by rw[h2];decide) h1).elim
 ·rfl
theorem mN {es:List Eg} {a:Int} (h:ce l root bans fr to now sz by'=some (es,a)):root.length≤(es.map Eg.id).length∧(es.map Eg.id).take root.length=root:=by
 obtain⟨r,hr⟩:=(cq h).pre
 rw[hr]
 exact⟨by rw[List.length_append];omega,List.take_left' rfl⟩
theorem lJ {es:List Eg} {a:Int} (h:ce l root bans fr to now sz by'=some (es,a)):routeM l (es.map Eg.id) fr to now sz=some es∧dX now (aw sz es now)=a∧a≤by':=
 ⟨jZ.2 ⟨rfl,a,(cq h).route⟩,(cq h).route.last,(cq h).le⟩
theorem zP (a b:List Int) (hl:a.length≤1000000) (hab:a.length=b.length) (t t':Tok) (sa sb:Nat) (ha:sa=1∨a=[]) (hb:sb=1∨b=[]):∀(m i:Nat),a.length - i=m→i≤a.length→a.take i=b.take i→
  ∀(ρ:Nat→D) (st:Store) (h0:ρ 0=.slice t sa (a.map (D.int .i64))) (h1:ρ 1=.slice t' sb (b.map (D.int .i64))) (h5:ρ 5=.int .i64 i) (Q:X→(Nat→D)→Store→Prop),
  (a=b→∀ρ',Q (.exit 0) ρ' st)→(a≠b→∀ρ',ρ' 4=.bool false→Q .ret ρ' st)→WC Γ2 (.loop dQ) ρ st Q:=by
 intro m
 induction m with
 |zero=>
  intro i hm hi he ρ st h0 h1 h5 Q hQ hQ2
  have hge:((a.length:Nat):Int)≤(i:Int):=by omega
  rw[←aa h0,←aa h1,←aa h5]
  refine WC_loop ?_
  repeat' (first
 |(refine ai ?_;first
 |refine lN ?_
 |refine lF (p:=hge) ?_
 |refine mI ?_
 |refine mS ?_
 |refine WS_nil ?_)
 |refine WC_seq ?_
 |refine WC_opsS ?_
 |refine af rfl ?_
 |refine WC_exit ?_)
  refine hQ ?_ _
  rw[List.take_of_length_le (by omega),List.take_of_length_le (by omega)]at he
  exact he
 |succ m ih=>
  intro i hm hi he ρ st h0 h1 h5 Q hQ hQ2
  obtain⟨x,hx⟩:∃v,a[i]?=some v:=⟨_,List.getElem?_eq_getElem (by omega)⟩
  obtain⟨y,hy⟩:∃v,b[i]?=some v:=⟨_,List.getElem?_eq_getElem (by omega)⟩
  have hz:sa=1:=ha.resolve_right (by rintro rfl;simp at hx)
  have hz2:sb=1:=hb.resolve_right (by rintro rfl;simp at hy)
  subst hz hz2
  have hpa:i<(a.map (D.int .i64)).length:=by simp;omega
  have hpb:i<(b.map (D.int .i64)).length:=by simp;omega
  have hltl:(i:Int)<((a.length:Nat):Int):=by omega
  have hadd:IntKind.i64.wrap ((i:Int)+1)=((i+1:Nat):Int):=by rw[rV (by omega)];omega
  rw[←aa h0,←aa h1,←aa h5]
  refine WC_loop ?_
  by_cases hxy:x=y
  ·have hnx:=ih (i+1) (by omega) (by omega) (by rw[List.take_add_one,List.take_add_one,he,hx,hy,hxy])
   clear ih
   repeat' (first
 |(refine ai ?_;first
 |refine lN ?_
 |refine lT (p:=hltl) ?_
 |refine aD (s:=((i+1:Nat):Int)) (hs:=hadd) ?_
 |refine iA i hpa ?_
 |refine iA i hpb ?_
 |refine mI ?_
 |refine mS ?_
 |refine fC rfl rfl rfl rfl (by omega) ?_
 |refine lE (d:=.int _ _) hx ?_
 |refine lE (d:=.int _ _) hy ?_
 |refine WS_nil ?_)
 |refine a8 (dj rfl) ?_
 |refine WC_seq ?_
 |refine WC_opsS ?_
 |refine bq ?_
 |refine WC_skip ?_
 |refine ah rfl ?_
 |refine af rfl ?_
 |refine WC_block ?_)
   all_goals first|(exfalso;omega)|(refine hnx _ _ ?_ ?_ ?_ Q hQ hQ2<;>rfl)
  ·have hne:a≠b:=fun h=>hxy (by
    subst h
    rw[hx]at hy
    cases hy
    rfl)
   clear ih
   repeat' (first
 |(refine ai ?_;first
 |refine lN ?_
 |refine lT (p:=hltl) ?_
 |refine iA i hpa ?_
 |refine iA i hpb ?_
 |refine mI ?_
 |refine mB ?_
 |refine mS ?_
 |refine hG rfl rfl rfl rfl (by omega) ?_
 |refine lE (d:=.int _ _) hx ?_
 |refine lE (d:=.int _ _) hy ?_
 |refine WS_nil ?_)
 |refine a8 (dj rfl) ?_
 |refine WC_seq ?_
 |refine WC_opsS ?_
 |refine bq ?_
 |refine WC_skip ?_
 |refine ah rfl ?_
 |refine WC_block ?_
 |refine al ?_)
   all_goals first|(exfalso;omega)|(exact hQ2 hne _ rfl)
theorem wH (a b:List Int) (hl:a.length≤1000000) (t t':Tok) (sa sb:Nat) (ha:sa=1∨a=[]) (hb:sb=1∨b=[]):EvP Γ2 28 [.slice t sa (a.map (D.int .i64)),.slice t' sb (b.map (D.int .i64))] (.bool (decide (a=b))):=by
 refine aA rfl rfl ?_
 by_cases hab:a.length=b.length
 ·have hab':(a.length:Int)=b.length:=by omega
  have hlo:=zP a b hl hab t t' sa sb ha hb a.length 0 (by omega) (by omega) rfl
  repeat' (first
 |(refine ai ?_;first
 |refine lN ?_
 |refine mI ?_
 |refine mB ?_
 |refine mS ?_
 |refine fC rfl rfl rfl rfl (by omega) ?_
 |refine WS_nil ?_)
 |refine WC_seq ?_
 |refine WC_opsS ?_
 |refine WC_skip ?_
 |refine af rfl ?_
 |refine WC_block ?_)
  all_goals first|(exfalso;omega)|skip
  refine hlo _ _ rfl rfl rfl _ (fun h ρ=>?_) (fun h ρ h4=>?_)
  ·rw[decide_eq_true h]
   repeat' (first
 |(refine ai ?_;first
 |refine mB ?_
 |refine WS_nil ?_)
 |refine WC_seq ?_
 |refine WC_opsS ?_
 |refine al ?_)
   exact aK (.inr rfl) rfl rfl
  ·rw[decide_eq_false h,←aa h4]
   exact aK (.inr rfl) rfl rfl
 ·have hab':(a.length:Int)≠b.length:=by omega
  rw[decide_eq_false (fun h=>hab (by rw[h]))]
  repeat' (first
 |(refine ai ?_;first
 |refine lN ?_
 |refine mB ?_
 |refine mS ?_
 |refine hG rfl rfl rfl rfl (by omega) ?_
 |refine WS_nil ?_)
 |refine WC_seq ?_
 |refine WC_opsS ?_
 |refine ah rfl ?_
 |refine al ?_)
  all_goals first|(exfalso;omega)|exact aK (.inr rfl) rfl rfl
theorem AI (bans:List Int) (hbl:bans.length≤1000000) (k:Int) (hk:k∉bans) (v0 v1 v3 v4 v5 v6 v7 v17 v22 v24:D):∀(T A0:List Int),bans=A0++T→∀(ρ:Nat→D) (st:Store),ρ 0=v0→ρ 1=v1→ρ 3=v3→ρ 4=v4→ρ 5=v5→ρ 6=v6→ρ 7=v7→ρ 17=v17→ρ 22=v22→ρ 24=v24→ρ 2=.slice .no 1 (bans.map (D.int .i64))→ρ 27=.int .i64 k→ρ 28=.int .i64 A0.length→∀(Q:X→(Nat→D)→Store→Prop),
  (∀ρ',ρ' 0=v0→ρ' 1=v1→ρ' 3=v3→ρ' 4=v4→ρ' 5=v5→ρ' 6=v6→ρ' 7=v7→ρ' 17=v17→ρ' 22=v22→ρ' 24=v24→ρ' 2=.slice .no 1 (bans.map (D.int .i64))→ρ' 27=.int .i64 k→Q (.exit 0) ρ' st)→WC Γ2 (.loop cN) ρ st Q:=by
 intro T
 induction T with
 |nil=>
  intro A0 hL ρ st h0 h1 h3 h4 h5 h6 h7 h17 h22 h24 h2 h27 h28 Q hQ
  rw[List.append_nil]at hL
  subst hL
  rw[←aa h0,←aa h1,←aa h3,←aa h4,←aa h5,←aa h6,←aa h7,←aa h17,←aa h22,←aa h24,←aa h2,←aa h27,←aa h28]
  refine WC_loop ?_
  repeat' (first
 |(refine ai ?_;first
 |refine lN ?_
 |refine mI ?_
 |refine mS ?_
 |refine lF ?_
 |refine WS_nil ?_)
 |refine WC_seq ?_
 |refine WC_opsS ?_
 |refine af rfl ?_
 |refine WC_exit ?_)
  all_goals first|(exfalso;omega)|(refine hQ _ ?_ ?_ ?_ ?_ ?_ ?_ ?_ ?_ ?_ ?_ ?_ ?_<;>rfl)
 |cons b T ih=>
  intro A0 hL ρ st h0 h1 h3 h4 h5 h6 h7 h17 h22 h24 h2 h27 h28 Q hQ
  have hi:A0.length<bans.length:=by rw[hL];simp
  have hlt:(A0.length:Int)<((bans.length:Nat):Int):=by omega
  have hb:bans[A0.length]?=some b:=by rw[hL];simp
  have hl0:A0.length<(bans.map (D.int .i64)).length:=by rw[List.length_map];omega
  have hadd:IntKind.i64.wrap ((A0.length:Int)+1)=((A0++[b]).length:Nat):=by rw[rV (by omega)];simp
  have hbk:¬b=k:=fun e=>hk (by rw[←e,hL];simp)
  have hnx:=ih (A0++[b]) (by rw[hL];simp)
  clear ih
  rw[←aa h0,←aa h1,←aa h3,←aa h4,←aa h5,←aa h6,←aa h7,←aa h17,←aa h22,←aa h24,←aa h2,←aa h27,←aa h28]
  refine WC_loop ?_
  repeat' (first
 |(refine ai ?_;first
 |refine lN ?_
 |refine lT (p:=hlt) ?_
 |refine dz rfl rfl rfl rfl hbk ?_
 |refine aD (s:=(((A0++[b]).length:Nat):Int)) (hs:=hadd) ?_
 |refine iA (A0.length) hl0 ?_
 |refine mI ?_
 |refine mS ?_
 |refine lE (d:=.int _ _) hb ?_
 |refine WS_nil ?_)
 |refine WC_seq ?_
 |refine WC_opsS ?_
 |refine WC_skip ?_
 |refine ah rfl ?_
 |refine af rfl ?_
 |refine WC_block ?_)
  all_goals first|(exfalso;omega)|(refine hnx _ _ ?_ ?_ ?_ ?_ ?_ ?_ ?_ ?_ ?_ ?_ ?_ ?_ ?_ Q hQ<;>rfl)
end Go.Lea
/-
  SpurParts: its last part: the next ID, by the root with it and by the bans with it.
-/
namespace Go.Lea
open Go.Ev
def fv:C:=(.seq (.ops .false [⟨(.some 161),.none,.false,(.mov (.tmp 0))⟩,⟨(.some 162),.none,.false,(.bslice 1 [])⟩,⟨(.some 163),.none,.false,(.mov (.tmp 1))⟩,⟨(.some 164),.none,.false,(.append 1 8 (.tmp 162) (.tmp 163))⟩,⟨(.some 165),.none,.false,(.mov (.tmp 27))⟩,⟨(.some 166),.none,.false,(.bslice 1 [(.tmp 165)])⟩,⟨(.some 167),.none,.false,(.append 1 8 (.tmp 164) (.tmp 166))⟩,⟨(.some 168),.none,.false,(.mov (.tmp 3))⟩,⟨(.some 169),.none,.false,(.mov (.tmp 4))⟩,⟨(.some 170),.none,.false,(.mov (.tmp 5))⟩,⟨(.some 171),.none,.false,(.mov (.tmp 6))⟩,⟨(.some 172),.none,.false,(.mov (.tmp 7))⟩,⟨(.some 173),.none,.false,(.call (.lit (.func 25 [])) [(.tmp 161),(.tmp 167),(.lit (.slice .isnil 0 [])),(.tmp 168),(.tmp 169),(.tmp 170),(.tmp 171),(.tmp 172)])⟩,⟨(.some 160),.none,.false,(.mov (.tmp 173))⟩,⟨(.some 174),.none,.false,(.extract (.tmp 160) 0)⟩,⟨(.some 175),.none,.false,(.extract (.tmp 160) 1)⟩,⟨(.some 29),.none,.false,(.alloc [(.slice .isnil 0 []),(.int .i64 0)])⟩,⟨.none,.none,.false,(.store 2 (.tmp 29) (.tmp 174))⟩,⟨(.some 30),.none,.false,(.mov (.tmp 175))⟩]) (.seq (.ops .false [⟨(.some 177),.none,.false,(.mov (.tmp 0))⟩,⟨(.some 178),.none,.false,(.mov (.tmp 1))⟩,⟨(.some 179),.none,.false,(.bslice 1 [])⟩,⟨(.some 180),.none,.false,(.mov (.tmp 2))⟩,⟨(.some 181),.none,.false,(.append 1 8 (.tmp 179) (.tmp 180))⟩,⟨(.some 182),.none,.false,(.mov (.tmp 27))⟩,⟨(.some 183),.none,.false,(.bslice 1 [(.tmp 182)])⟩,⟨(.some 184),.none,.false,(.append 1 8 (.tmp 181) (.tmp 183))⟩,⟨(.some 185),.none,.false,(.mov (.tmp 3))⟩,⟨(.some 186),.none,.false,(.mov (.tmp 4))⟩,⟨(.some 187),.none,.false,(.mov (.tmp 5))⟩,⟨(.some 188),.none,.false,(.mov (.tmp 6))⟩,⟨(.some 189),.none,.false,(.mov (.tmp 7))⟩,⟨(.some 190),.none,.false,(.call (.lit (.func 25 [])) [(.tmp 177),(.tmp 178),(.tmp 184),(.tmp 185),(.tmp 186),(.tmp 187),(.tmp 188),(.tmp 189)])⟩,⟨(.some 176),.none,.false,(.mov (.tmp 190))⟩,⟨(.some 191),.none,.false,(.extract (.tmp 176) 0)⟩,⟨(.some 192),.none,.false,(.extract (.tmp 176) 1)⟩,⟨(.some 31),.none,.false,(.alloc [(.slice .isnil 0 []),(.int .i64 0)])⟩,⟨.none,.none,.false,(.store 2 (.tmp 31) (.tmp 191))⟩,⟨(.some 32),.none,.false,(.mov (.tmp 192))⟩]) (.seq (.ops .false [⟨(.some 193),.none,.false,(.mov (.tmp 17))⟩,⟨(.some 194),.none,.false,(.mov (.tmp 193))⟩,⟨(.some 195),(.some (194,.true)),.false,(.mov (.tmp 30))⟩,⟨(.some 196),.none,.false,(.pick (.tmp 194) (.tmp 195) (.lit (.bool .false)))⟩,⟨(.some 197),.none,.false,(.mov (.tmp 196))⟩,⟨(.some 198),(.some (197,.true)),.false,(.load .true 2 (.tmp 29))⟩,⟨(.some 199),(.some (197,.true)),.false,(.load .true 2 (.tmp 22))⟩,⟨(.some 200),(.some (197,.true)),.false,(.call (.lit (.func 18 [])) [(.tmp 198),(.tmp 199)])⟩,⟨(.some 201),.none,.false,(.pick (.tmp 197) (.tmp 200) (.lit (.bool .false)))⟩,⟨(.some 202),.none,.false,(.mov (.tmp 201))⟩,⟨(.some 203),(.some (202,.true)),.false,(.mov (.tmp 32))⟩,⟨(.some 204),(.some (202,.true)),.false,(.not (.tmp 203))⟩,⟨(.some 205),(.some (202,.true)),.false,(.mov (.tmp 204))⟩,⟨(.some 206),(.some (205,.false)),.false,(.load .true 2 (.tmp 22))⟩,⟨(.some 207),(.some (205,.false)),.false,(.load .true 2 (.tmp 31))⟩,⟨(.some 208),(.some (205,.false)),.false,(.call (.lit (.func 19 [])) [(.tmp 206),(.tmp 207)])⟩,⟨(.some 209),(.some (205,.false)),.false,(.bin .lss (.tmp 208) (.lit (.int .i64 0)))⟩,⟨(.some 210),(.some (202,.true)),.false,(.pick (.tmp 205) (.lit (.bool .true)) (.tmp 209))⟩,⟨(.some 211),.none,.false,(.pick (.tmp 202) (.tmp 210) (.lit (.bool .false)))⟩,⟨(.some 16),.none,.false,(.mov (.tmp 211))⟩]) .ret)))
set_option maxHeartbeats 16000000 in
theorem tq (l:List Eg) (root bans:List Int) (fr to now sz by':Int) (f1:l.length≤20) (f2:root.length≤20) (f3:bans.length≤20) (es:List Eg) (a k:Int) (hoX:ce l root bans fr to now sz by'=some (es,a)) (hk:(es.map Eg.id)[root.length]?=some k) (tc:Tok) (sc:Nat) (hsc:sc=3∨aw sz es now=[])
  (ρ:Nat→D) (st:Store) (hl0:st.lim=0) (ht0:st.tlim=0) (hn2:2<st.next) (hb2:st.boxes 2=some (.cells [.slice tc sc ((aw sz es now).map Hp.e),.int .i64 a]))
  (h0:ρ 0=.slice .no 8 (l.map Eg.e)) (h1:ρ 1=.slice .no 1 (root.map (D.int .i64))) (h2:ρ 2=.slice .no 1 (bans.map (D.int .i64))) (h3:ρ 3=.int .i64 fr) (h4:ρ 4=.int .i64 to) (h5:ρ 5=.int .i64 now) (h6:ρ 6=.int .i64 sz) (h7:ρ 7=.int .i64 by') (h17:ρ 17=.bool true) (h22:ρ 22=.ptr 2 0) (h27:ρ 27=.int .i64 k)
  (Q:X→(Nat→D)→Store→Prop) (hQ:∀ρ' st',ρ' 16=.bool true→Q .ret ρ' st'):WC Γ2 fv ρ st Q:=by
 have hX:=(iR l (by omega) (root++[k]) [] (by simp;omega) (by simp) fr to now sz by' .no .no .isnil 8 1 0 (.inl rfl) (.inl rfl) (.inr rfl)).mono (fun r h=>h.isA)
 have hY:=(iR l (by omega) root (bans++[k]) (by omega) (by simp;omega) fr to now sz by' .no .no .no 8 1 1 (.inl rfl) (.inl rfl) (.inl rfl)).mono (fun r h=>h.isA)
 rw[sI hoX hk]at hX
 have hnX:=lG (cq hoX).route
 have hhX:=bu sz es now
 have hlt:=fun es' a' h=>vP (more:=[k]) (es':=es') (a':=a') hoX h ⟨k,List.mem_singleton_self _,hk⟩
 have hin:=fun es' a'=>cq (l:=l) (root:=root) (bans:=bans++[k]) (fr:=fr) (to:=to) (now:=now) (sz:=sz) (by':=by') (es:=es') (a:=a')
 have hS:=fun t t' s s' h1 h2=>(ic (aw sz es now) (aw sz es now) a a (by omega) t t' s s' h1 h2).grow kz
 rw[decide_eq_true (⟨rfl,rfl⟩:a=a∧aw sz es now=aw sz es now)]at hS
 have hb1:(([]:List D).length+(root.map (D.int .i64)).length)*8≤140737488355328:=by simp;omega
 have hb3:(([]++root.map (D.int .i64)).length+([.int .i64 k]:List D).length)*8≤140737488355328:=by simp;omega
 have hb4:(([]:List D).length+(bans.map (D.int .i64)).length)*8≤140737488355328:=by simp;omega
 have hb5:(([]++bans.map (D.int .i64)).length+([.int .i64 k]:List D).length)*8≤140737488355328:=by simp;omega
 have hm1:[]++root.map (D.int .i64)++[.int .i64 k]=(root++[k]).map (D.int .i64):=by simp
 have hm2:[]++bans.map (D.int .i64)++[.int .i64 k]=(bans++[k]).map (D.int .i64):=by simp
 have hhl:(aw sz es now).length≤1000000:=by omega
 clear hoX hk hnX hhX
 replace hX:EvX Γ2 25 [.slice .no 8 (l.map Eg.e),.slice .no 1 ((root++[k]).map (D.int .i64)),.slice .isnil 0 [],.int .i64 fr,.int .i64 to,.int .i64 now,.int .i64 sz,.int .i64 by'] (uM Hp.e 3 (aw sz es now) [.int .i64 a] [.bool true]):=hX
 generalize aw sz es now=hp at*
 rw[←aa h0,←aa h1,←aa h2,←aa h3,←aa h4,←aa h5,←aa h6,←aa h7,←aa h17,←aa h22,←aa h27]
 clear h0 h1 h2 h3 h4 h5 h6 h7 h17 h22 h27
 repeat' (first
 |(refine ai ?_;first
 |(refine iS (xs:=[]) rfl rfl rfl (.inl ⟨.inr rfl,.inl rfl⟩) (.inl rfl) hb1 (Nat.le_trans (Nat.le_of_eq ht0) (Nat.zero_le _)) rfl ?_<;>intro k1 st1 c1 c2 c3 c4 c5 c6 c7)
 |refine mI ?_
 |refine mS ?_
 |refine bh (ys:=[]) rfl rfl rfl (by decide) rfl ?_
 |refine bh (ys:=[_]) rfl rfl rfl (by decide) rfl ?_)
 |refine WC_seq ?_
 |refine WC_opsS ?_)
 repeat' (first
 |(refine ai ?_;first
 |(refine iS (ys:=[.int .i64 k]) rfl rfl rfl (.inr ⟨k1,rfl,c6,c7,rfl⟩) (.inl rfl) hb3 c5 rfl ?_<;>intro k2 st2 d1 d2 d3 d4 d5 d6 d7<;>rw[hm1])
 |refine mI ?_))
 have b22:st2.boxes 2=some (.cells [.slice tc sc (hp.map Hp.e),.int .i64 a]):=by rw[d1,c1];exact hb2
 have n2:2<st2.next:=by rw[d2,c2];exact hn2
 have l2:st2.lim=0:=d3.trans (c3.trans hl0)
 have t2:st2.tlim=0:=d4.trans (c4.trans ht0)
 have hln:st2.lim≤st2.next:=by omega
 clear c1 c2 c3 c4 c5 c6 c7 d1 d2 d3 d4 d5 d6 d7 hb1 hb3 hn2 hl0 ht0 hb2 hm1
 repeat' (first
 |(refine ai ?_;first
 |refine an (cs':=[_,_]) rfl rfl (ae _ _ _) rfl hln rfl rfl rfl ?_
 |(refine iS (xs:=[]) rfl rfl rfl (.inl ⟨.inr rfl,.inl rfl⟩) (.inl rfl) hb4 (Nat.le_trans (Nat.le_of_eq t2) (Nat.zero_le _)) rfl ?_<;>intro k3 st3 e1 e2 e3 e4 e5 e6 e7)
 |refine mI ?_
 |refine mB ?_
 |refine mS ?_
 |refine mT ?_
 |(refine cH rfl rfl rfl hX rfl ?_;intro tx sx hsx tk1 nt1)
 |refine eB ?_
 |refine eA ?_
 |refine aq rfl rfl ?_
 |refine bh (ys:=[]) rfl rfl rfl (by decide) rfl ?_
 |refine bh (ys:=[_]) rfl rfl rfl (by decide) rfl ?_
 |refine WS_nil ?_)
 |refine WC_seq ?_
 |refine WC_opsS ?_)
 repeat' (first
 |(refine ai ?_;first
 |(refine iS (ys:=[.int .i64 k]) rfl rfl rfl (.inr ⟨k3,rfl,e6,e7,rfl⟩) (.inl rfl) hb5 e5 rfl ?_<;>intro k4 st4 g1 g2 g3 g4 g5 g6 g7<;>rw[hm2])
 |refine mI ?_))
 have hn42:(2:Nat)≠st2.next:=Nat.ne_of_lt n2
 have e2':st3.next=st2.next+1:=e2
 have e3':st3.lim=st2.lim:=e3
 have b42:st4.boxes 2=some (.cells [.slice tc sc (hp.map Hp.e),.int .i64 a]):=by rw[g1,e1];exact((ab _ _ hn42).trans (ab _ _ hn42)).trans b22
 have b4p:st4.boxes st2.next=some (.cells [.slice tx sx (hp.map Hp.e),.int .i64 a]):=by rw[g1,e1];exact ae _ _ _
 have n4:st4.next=st2.next+1:=g2.trans e2'
 have l4:st4.lim=0:=by rw[g3,e3'];exact l2
 clear b22 l2 t2 hln e2' e3' e1 e2 e3 e4 e5 e6 e7 g1 g2 g3 g4 g5 g6 g7 hb4 hb5 hm2 hX
 have hln:st4.lim≤st4.next:=by omega
 have hl2:st4.lim≤2:=by omega
 have hlp:st4.lim≤st2.next:=by omega
 have h2n:(2:Nat)≠st4.next:=by rw[n4];omega
 have hpn:st2.next≠st4.next:=by rw[n4];omega
 have b2u:∀{x y:Option Box},((ap (ap st4.boxes st4.next x) st4.next y) 2).bind Box.cs=some [.slice tc sc (hp.map Hp.e),.int .i64 a]:=fun{x y}=>by rw[ab _ _ h2n,ab _ _ h2n,b42];rfl
 have bpu:∀{x y:Option Box},((ap (ap st4.boxes st4.next x) st4.next y) st2.next).bind Box.cs=some [.slice tx sx (hp.map Hp.e),.int .i64 a]:=fun{x y}=>by rw[ab _ _ hpn,ab _ _ hpn,b4p];rfl
 have bnu:∀{x:Option Box} {c:List D},((ap (ap st4.boxes st4.next x) st4.next (some (.cells c))) st4.next).bind Box.cs=some c:=fun{x c}=>by rw[ae];rfl
 cases hoY:ce l root (bans++[k]) fr to now sz by' with
 |none=>
  replace hY:EvX Γ2 25 [.slice .no 8 (l.map Eg.e),.slice .no 1 (root.map (D.int .i64)),.slice .no 1 ((bans++[k]).map (D.int .i64)),.int .i64 fr,.int .i64 to,.int .i64 now,.int .i64 sz,.int .i64 by'] (uM Hp.e 3 [] [.int .i64 0] [.bool false]):=by rw[hoY]at hY;exact hY
  clear hlt hin hoY
  repeat' (first
 |(refine ai ?_;first
 |refine an (cs':=[_,_]) rfl rfl (ae _ _ _) rfl hln rfl rfl rfl ?_
 |refine mB ?_
 |refine mT ?_
 |refine aj rfl ?_
 |refine aj rfl ?_
 |refine am (agg:=true) (d:=.agg [_,_]) rfl rfl rfl b2u hl2 rfl ?_
 |refine am (agg:=true) (d:=.agg [_,_]) rfl rfl rfl bpu hlp rfl ?_
 |refine aj rfl ?_
 |(refine cH rfl rfl rfl hY rfl ?_;intro ty sy hsy tk2 nt2)
 |refine cA rfl (hS _ _ _ _ hsx hsc) ?_
 |refine pB ?_
 |refine eB ?_
 |refine eA ?_
 |refine nT ?_
 |refine aq rfl rfl ?_
 |refine WS_nil ?_)
 |refine WC_seq ?_
 |refine WC_opsS ?_
 |refine al ?_)
  all_goals first|exact hQ _ _ rfl|(exfalso;omega)
 |some q=>
  obtain⟨es',a'⟩:=q
  have hnY:=lG (hin es' a' hoY).route
  have hhY:=bu sz es' now
  have hC:=fun t t' s s' h1 h2=>(sw hp a (aw sz es' now) a' hhl (by omega) t t' s s' h1 h2).grow kz
  have hcl:=hlt es' a' hoY
  replace hY:EvX Γ2 25 [.slice .no 8 (l.map Eg.e),.slice .no 1 (root.map (D.int .i64)),.slice .no 1 ((bans++[k]).map (D.int .i64)),.int .i64 fr,.int .i64 to,.int .i64 now,.int .i64 sz,.int .i64 by'] (uM Hp.e 3 (aw sz es' now) [.int .i64 a'] [.bool true]):=by rw[hoY]at hY;exact hY
  clear hlt hin hoY hnY hhY
  generalize aw sz es' now=hq at*
  repeat' (first
 |(refine ai ?_;first
 |refine an (cs':=[_,_]) rfl rfl (ae _ _ _) rfl hln rfl rfl rfl ?_
 |refine lT (p:=hcl) ?_
 |refine mB ?_
 |refine mT ?_
 |refine am (agg:=true) (d:=.agg [_,_]) rfl rfl rfl b2u hl2 rfl ?_
 |refine am (agg:=true) (d:=.agg [_,_]) rfl rfl rfl bpu hlp rfl ?_
 |refine am (agg:=true) (d:=.agg [_,_]) rfl rfl rfl bnu hln rfl ?_
 |(refine cH rfl rfl rfl hY rfl ?_;intro ty sy hsy tk2 nt2)
 |refine cA rfl (hC _ _ _ _ hsc hsy) ?_
 |refine cA rfl (hS _ _ _ _ hsx hsc) ?_
 |refine pB ?_
 |refine eB ?_
 |refine eA ?_
 |refine nT ?_
 |refine aq rfl rfl ?_
 |refine WS_nil ?_)
 |refine WC_seq ?_
 |refine WC_opsS ?_
 |refine al ?_)
  all_goals first|exact hQ _ _ rfl|(exfalso;omega)
end Go.Lea
/-
  SpurParts: what its runs go by.
-/
namespace Go.Lea
open Go.Ev
section
variable {Γ:Nat→Option FD} {ρ:Nat→D} {st:Store} {dr:Bool} {R:(Nat→D)→Store→List Fl→Prop} {l:List Op1} {g:Option (Nat×Bool)} {mv:Bool} {k:Nat} {x y:A}
theorem lA {t:Bool} (hg:ak ρ g=some true) (hm:mv=false) (hx:x.ev ρ=.bool t) (hy:y.ev ρ=.bool t) (h:WS Γ dr l (ap ρ k (.bool false)) st (nx .n R)):WS Γ dr (⟨some k,g,mv,.eqlB true x y⟩::l) ρ st R:=by
 have e:(t !=t)=false:=by cases t<;>rfl
 exact zC (hg:=hg) (hm:=hm) hx hy (by rw[e];exact h)
end
theorem wr {Γ:Nat→Option FD} {ρ:Nat→D} {st:Store} {dr:Bool} {R:(Nat→D)→Store→List Fl→Prop} {l:List Op1} {k:Nat} (H:∀bx tk nt,WS Γ dr l ρ ⟨bx,k,tk,nt,0,0⟩ R) (h1:st.next=k) (h2:st.lim=0) (h3:st.tlim=0):WS Γ dr l ρ st R:=by
 obtain⟨bx,nx,tk,nt,li,tl⟩:=st
 simp only at h1 h2 h3
 subst h1 h2 h3
 exact H bx tk nt
theorem pj (l:List Eg) (hll:l.length≤900) (fr to now sz by':Int) (t t':Tok) (s s':Nat) (hs:s=8∨l=[]):EvX Γ2 13 [.slice t s (l.map Eg.e),.int .i64 fr,.int .i64 to,.int .i64 now,.int .i64 sz,.int .i64 by',.slice t' s' []] (uM Hp.e 3 (qj sz now (cR l fr to now sz by' [])) [.int .i64 (aO (cR l fr to now sz by' []))] [.bool (cR l fr to now sz by' []).isSome]):=by
 cases hb:cR l fr to now sz by' []with
 |none=>exact⟨_,⟨.isnil,0,rfl,.inr rfl⟩,uA l hll fr to now sz by' [] (by simp) t t' s s' hs (.inr rfl) hb⟩
 |some p=>
  obtain⟨es,a⟩:=p
  exact wU l hll fr to now sz by' [] (by simp) t t' s s' hs (.inr rfl) es a hb
theorem pm {l:List Eg} {root bans:List Int} {fr to now sz by':Int} (hl:l.length≤20) {o:Option (List Eg×Int)} (h:ce l root bans fr to now sz by'=o):(qj sz now o).length≤20:=by
 cases o with
 |none=>exact Nat.zero_le _
 |some p=>
  obtain⟨es,a⟩:=p
  have:=lG (cq h).route
  show (aw sz es now).length≤20
  rw[bu]
  omega
end Go.Lea
/-
  SpurParts, as the evaluator runs it: there is no way on.
-/
namespace Go.Lea
open Go.Ev
set_option maxHeartbeats 16000000 in
theorem sS (l:List Eg) (root bans:List Int) (fr to now sz by':Int) (f1:l.length≤20) (f2:root.length≤20) (f3:bans.length≤20) (hoX:ce l root bans fr to now sz by'=none):EvP Γ2 11 [.slice .no 8 (l.map Eg.e),.slice .no 1 (root.map (D.int .i64)),.slice .no 1 (bans.map (D.int .i64)),.int .i64 fr,.int .i64 to,.int .i64 now,.int .i64 sz,.int .i64 by'] (.bool true):=by
 refine aA rfl rfl ?_
 have hA:=pj l (by omega) fr to now sz by' .no .isnil 8 0 (.inl rfl)
 have hB:=(iR l (by omega) [] [] (by simp) (by simp) fr to now sz by' .no .isnil .isnil 8 0 0 (.inl rfl) (.inr rfl) (.inr rfl)).mono (fun r h=>h.isA)
 have hl0:=pm f1 (ec (l:=l) (fr:=fr) (to:=to) (now:=now) (sz:=sz) (by':=by'))
 rw[ec]at hB
 have hX:=(iR l (by omega) root bans (by omega) (by omega) fr to now sz by' .no .no .no 8 1 1 (.inl rfl) (.inl rfl) (.inl rfl)).mono (fun r h=>h.isA)
 generalize cR l fr to now sz by' []=o0 at*
 have hS0:=fun t t' s s' h1 h2=>(ic (qj sz now o0) (qj sz now o0) (aO o0) (aO o0) (by omega) t t' s s' h1 h2).grow kz
 rw[decide_eq_true (⟨rfl,rfl⟩:aO o0=aO o0∧qj sz now o0=qj sz now o0)]at hS0
 generalize qj sz now o0=h0 at*
 generalize aO o0=a0 at*
 generalize o0.isSome=k0 at*
 rw[hoX]at hX
 have hS1:=fun t t' s s' h1 h2=>(ic [] [] 0 0 (by simp) t t' s s' h1 h2).grow kz
 rw[decide_eq_true (⟨rfl,rfl⟩:(0:Int)=0∧([]:List Hp)=[])]at hS1
 repeat' (first
 |(refine ai ?_;first
 |refine lN ?_
 |refine an (cs':=[_,_]) rfl rfl rfl rfl (Nat.zero_le _) rfl rfl rfl ?_
 |refine lA rfl rfl rfl rfl ?_
 |refine mI ?_
 |refine mB ?_
 |refine mS ?_
 |refine mT ?_
 |refine gF ?_
 |refine lO (d:=.agg [_,_]) ?_
 |refine cA rfl jz ?_
 |(refine cH rfl rfl rfl hA rfl ?_;intro ta sa hsa tk1 nt1)
 |(refine cH rfl rfl rfl hB rfl ?_;intro tb sb hsb tk2 nt2)
 |(refine cH rfl rfl rfl hX rfl ?_;intro tc sc hsc tk3 nt3)
 |refine cA rfl (hS0 _ _ _ _ hsa hsb) ?_
 |refine cA rfl (hS1 _ _ _ _ hsc (.inr rfl)) ?_
 |refine pB ?_
 |refine eB ?_
 |refine eA ?_
 |refine bi (cs:=[_,_]) rfl rfl rfl ?_
 |refine nT ?_
 |refine aq rfl rfl ?_
 |refine WS_nil ?_)
 |refine WC_seq ?_
 |refine WC_opsS ?_
 |refine WC_skip ?_
 |refine ah rfl ?_
 |refine af rfl ?_
 |refine al ?_)
 all_goals first|exact aK (.inr rfl) rfl rfl|(exfalso;omega)
end Go.Lea
/-
  SpurParts, as the evaluator runs it: the root is all of the way.
-/
namespace Go.Lea
open Go.Ev
set_option maxHeartbeats 16000000 in
theorem xH (l:List Eg) (root bans:List Int) (fr to now sz by':Int) (f1:l.length≤20) (f2:root.length≤20) (f3:bans.length≤20) (es:List Eg) (a:Int) (hoX:ce l root bans fr to now sz by'=some (es,a)) (hel:(es.map Eg.id).length=root.length):EvP Γ2 11 [.slice .no 8 (l.map Eg.e),.slice .no 1 (root.map (D.int .i64)),.slice .no 1 (bans.map (D.int .i64)),.int .i64 fr,.int .i64 to,.int .i64 now,.int .i64 sz,.int .i64 by'] (.bool true):=by
 refine aA rfl rfl ?_
 have hA:=pj l (by omega) fr to now sz by' .no .isnil 8 0 (.inl rfl)
 have hB:=(iR l (by omega) [] [] (by simp) (by simp) fr to now sz by' .no .isnil .isnil 8 0 0 (.inl rfl) (.inr rfl) (.inr rfl)).mono (fun r h=>h.isA)
 have hl0:=pm f1 (ec (l:=l) (fr:=fr) (to:=to) (now:=now) (sz:=sz) (by':=by'))
 rw[ec]at hB
 have hX:=(iR l (by omega) root bans (by omega) (by omega) fr to now sz by' .no .no .no 8 1 1 (.inl rfl) (.inl rfl) (.inl rfl)).mono (fun r h=>h.isA)
 generalize cR l fr to now sz by' []=o0 at*
 have hS0:=fun t t' s s' h1 h2=>(ic (qj sz now o0) (qj sz now o0) (aO o0) (aO o0) (by omega) t t' s s' h1 h2).grow kz
 rw[decide_eq_true (⟨rfl,rfl⟩:aO o0=aO o0∧qj sz now o0=qj sz now o0)]at hS0
 generalize qj sz now o0=h0 at*
 generalize aO o0=a0 at*
 generalize o0.isSome=k0 at*
 rw[hoX]at hX
 have hnX:=lG (cq hoX).route
 have hidX:=ep sz es now
 have hhX:=bu sz es now
 have hI:=fun t s h=>(ul (aw sz es now) (by omega) a t s h).grow kz
 rw[hidX]at hI
 obtain⟨hr1,hr2⟩:=mN hoX
 obtain⟨hrt,hla,hle⟩:=lJ hoX
 have hxl:(es.map Eg.id).length≤20:=by rw[List.length_map];omega
 have hIn:=fun t t' s s' h1 h2=>wH root root (by omega) t t' s s' h1 h2
 rw[decide_eq_true (rfl:root=root)]at hIn
 have hR:=fun t s h=>(qP l (by omega) (es.map Eg.id) (by omega) fr to now sz es hrt .no t 8 s (.inl rfl) h).grow kz
 rw[hla]at hR
 have hSx:=fun t t' s s' h1 h2=>(ic (aw sz es now) (aw sz es now) a a (by omega) t t' s s' h1 h2).grow kz
 rw[decide_eq_true (⟨rfl,rfl⟩:a=a∧aw sz es now=aw sz es now)]at hSx
 have hlen':((root.length:Nat):Int)≤(((es.map Eg.id).length:Nat):Int):=by omega
 have hkn:bE (.int .i64 ((root.length:Nat):Int))=some root.length:=by simp[bE]
 have hel':(((es.map Eg.id).length:Nat):Int)=((root.length:Nat):Int):=by omega
 clear hoX hrt hla hhX hidX hnX
 replace hX:EvX Γ2 25 [.slice .no 8 (l.map Eg.e),.slice .no 1 (root.map (D.int .i64)),.slice .no 1 (bans.map (D.int .i64)),.int .i64 fr,.int .i64 to,.int .i64 now,.int .i64 sz,.int .i64 by'] (uM Hp.e 3 (aw sz es now) [.int .i64 a] [.bool true]):=hX
 generalize aw sz es now=hp at*
 repeat' (first
 |(refine ai ?_;first
 |refine lN ?_
 |refine an (cs':=[_,_]) rfl rfl rfl rfl (Nat.zero_le _) rfl rfl rfl ?_
 |refine lA rfl rfl rfl rfl ?_
 |refine mI ?_
 |refine mB ?_
 |refine mS ?_
 |refine mT ?_
 |refine gF ?_
 |refine lO (d:=.agg [_,_]) ?_
 |refine fF (fn:=24) rfl rfl rfl jz rfl rfl ?_
 |(refine cH (fn:=13) rfl rfl rfl hA rfl ?_;intro ta sa hsa tk1 nt1)
 |(refine cH (fn:=25) rfl rfl rfl hB rfl ?_;intro tb sb hsb tk2 nt2)
 |refine fF (fn:=18) rfl rfl rfl (hS0 _ _ _ _ hsa hsb) rfl rfl ?_
 |refine pB ?_
 |refine eB ?_
 |refine eA ?_
 |refine nT ?_
 |refine aq rfl rfl ?_
 |refine WS_nil ?_)
 |refine WC_seq ?_
 |refine WC_opsS ?_
 |refine WC_skip ?_
 |refine af rfl ?_)
 all_goals first|(exfalso;omega)|skip
 refine wr (k:=2) ?_ rfl rfl rfl
 intro bx tk nt
 clear hA hB hS0
 repeat' (first
 |(refine ai ?_;first
 |refine lN ?_
 |refine an (cs':=[_,_]) rfl rfl rfl rfl (Nat.zero_le _) rfl rfl rfl ?_
 |refine lF (p:=hlen') ?_
 |refine gF (p:=hle) ?_
 |(refine oZ (j:=root.length) rfl rfl hsd hkn hr1 rfl ?_<;>intro t6<;>rw[hr2])
 |refine fK rfl rfl rfl rfl hel' ?_
 |refine mI ?_
 |refine mB ?_
 |refine mS ?_
 |refine mT ?_
 |refine lO (d:=.agg [_,_]) ?_
 |refine lO (d:=.int _ _) ?_
 |(refine cH (fn:=25) rfl rfl rfl hX rfl ?_;intro tc sc hsc tk3 nt3)
 |(refine cH (fn:=22) rfl rfl rfl (hR _ _ hsd) rfl ?_;intro te se hse tk4 nt4)
 |(refine fY (fn:=17) rfl rfl rfl (hI _ _ hsc) rfl ?_;intro td sd hsd htd)
 |refine fF (fn:=28) rfl rfl rfl (hIn _ _ 1 1 (.inl rfl) (.inl rfl)) rfl rfl ?_
 |refine fF (fn:=18) rfl rfl rfl (hSx _ _ _ _ hsc hse) rfl rfl ?_
 |refine pB ?_
 |refine eB ?_
 |refine eA ?_
 |refine nT ?_
 |refine fD ?_
 |refine aq rfl rfl ?_
 |refine WS_nil ?_)
 |refine WC_seq ?_
 |refine WC_opsS ?_
 |refine WC_skip ?_
 |refine ah rfl ?_
 |refine af rfl ?_
 |refine al ?_)
 all_goals first|exact aK (.inr rfl) rfl rfl|(exfalso;omega)
end Go.Lea
/-
  SpurParts, as the evaluator runs it: the way goes on from the root.
-/
namespace Go.Lea
open Go.Ev
set_option maxHeartbeats 16000000 in
theorem wy (l:List Eg) (root bans:List Int) (fr to now sz by':Int) (f1:l.length≤20) (f2:root.length≤20) (f3:bans.length≤20) (es:List Eg) (a:Int) (hoX:ce l root bans fr to now sz by'=some (es,a)) (hel:¬(es.map Eg.id).length=root.length):EvP Γ2 11 [.slice .no 8 (l.map Eg.e),.slice .no 1 (root.map (D.int .i64)),.slice .no 1 (bans.map (D.int .i64)),.int .i64 fr,.int .i64 to,.int .i64 now,.int .i64 sz,.int .i64 by'] (.bool true):=by
 refine aA rfl rfl ?_
 have hA:=pj l (by omega) fr to now sz by' .no .isnil 8 0 (.inl rfl)
 have hB:=(iR l (by omega) [] [] (by simp) (by simp) fr to now sz by' .no .isnil .isnil 8 0 0 (.inl rfl) (.inr rfl) (.inr rfl)).mono (fun r h=>h.isA)
 have hl0:=pm f1 (ec (l:=l) (fr:=fr) (to:=to) (now:=now) (sz:=sz) (by':=by'))
 rw[ec]at hB
 have hX:=(iR l (by omega) root bans (by omega) (by omega) fr to now sz by' .no .no .no 8 1 1 (.inl rfl) (.inl rfl) (.inl rfl)).mono (fun r h=>h.isA)
 generalize cR l fr to now sz by' []=o0 at*
 have hS0:=fun t t' s s' h1 h2=>(ic (qj sz now o0) (qj sz now o0) (aO o0) (aO o0) (by omega) t t' s s' h1 h2).grow kz
 rw[decide_eq_true (⟨rfl,rfl⟩:aO o0=aO o0∧qj sz now o0=qj sz now o0)]at hS0
 generalize qj sz now o0=h0 at*
 generalize aO o0=a0 at*
 generalize o0.isSome=k0 at*
 rw[hoX]at hX
 have hnX:=lG (cq hoX).route
 have hidX:=ep sz es now
 have hhX:=bu sz es now
 have hI:=fun t s h=>(ul (aw sz es now) (by omega) a t s h).grow kz
 rw[hidX]at hI
 obtain⟨hr1,hr2⟩:=mN hoX
 obtain⟨hrt,hla,hle⟩:=lJ hoX
 have hxl:(es.map Eg.id).length≤20:=by rw[List.length_map];omega
 have hIn:=fun t t' s s' h1 h2=>wH root root (by omega) t t' s s' h1 h2
 rw[decide_eq_true (rfl:root=root)]at hIn
 have hR:=fun t s h=>(qP l (by omega) (es.map Eg.id) (by omega) fr to now sz es hrt .no t 8 s (.inl rfl) h).grow kz
 rw[hla]at hR
 have hSx:=fun t t' s s' h1 h2=>(ic (aw sz es now) (aw sz es now) a a (by omega) t t' s s' h1 h2).grow kz
 rw[decide_eq_true (⟨rfl,rfl⟩:a=a∧aw sz es now=aw sz es now)]at hSx
 have hlen':((root.length:Nat):Int)≤(((es.map Eg.id).length:Nat):Int):=by omega
 have hkn:bE (.int .i64 ((root.length:Nat):Int))=some root.length:=by simp[bE]
 have hgt:root.length<(es.map Eg.id).length:=by omega
 obtain⟨k,hk⟩:∃v,(es.map Eg.id)[root.length]?=some v:=⟨_,List.getElem?_eq_getElem hgt⟩
 have hel':¬(((es.map Eg.id).length:Nat):Int)=((root.length:Nat):Int):=by omega
 have hban:k∉bans:=(cq hoX).ban k hk
 have hrest:=fun tc sc h=>tq l root bans fr to now sz by' f1 f2 f3 es a k hoX hk tc sc h
 have hpk:root.length<((es.map Eg.id).map (D.int .i64)).length:=by rw[List.length_map];exact hgt
 have hz:∀s,(s=1∨es.map Eg.id=[])→s=1:=fun s h=>h.resolve_right (by intro e;rw[e]at hgt;simp at hgt)
 have hlk:=fun v0 v1 v3 v4 v5 v6 v7 v17 v22 v24=>AI bans (by omega) k hban v0 v1 v3 v4 v5 v6 v7 v17 v22 v24 bans [] rfl
 clear hoX hrt hla hhX hidX hnX
 replace hX:EvX Γ2 25 [.slice .no 8 (l.map Eg.e),.slice .no 1 (root.map (D.int .i64)),.slice .no 1 (bans.map (D.int .i64)),.int .i64 fr,.int .i64 to,.int .i64 now,.int .i64 sz,.int .i64 by'] (uM Hp.e 3 (aw sz es now) [.int .i64 a] [.bool true]):=hX
 generalize aw sz es now=hp at*
 repeat' (first
 |(refine ai ?_;first
 |refine lN ?_
 |refine an (cs':=[_,_]) rfl rfl rfl rfl (Nat.zero_le _) rfl rfl rfl ?_
 |refine lA rfl rfl rfl rfl ?_
 |refine mI ?_
 |refine mB ?_
 |refine mS ?_
 |refine mT ?_
 |refine gF ?_
 |refine lO (d:=.agg [_,_]) ?_
 |refine fF (fn:=24) rfl rfl rfl jz rfl rfl ?_
 |(refine cH (fn:=13) rfl rfl rfl hA rfl ?_;intro ta sa hsa tk1 nt1)
 |(refine cH (fn:=25) rfl rfl rfl hB rfl ?_;intro tb sb hsb tk2 nt2)
 |refine fF (fn:=18) rfl rfl rfl (hS0 _ _ _ _ hsa hsb) rfl rfl ?_
 |refine pB ?_
 |refine eB ?_
 |refine eA ?_
 |refine nT ?_
 |refine aq rfl rfl ?_
 |refine WS_nil ?_)
 |refine WC_seq ?_
 |refine WC_opsS ?_
 |refine WC_skip ?_
 |refine af rfl ?_)
 all_goals first|(exfalso;omega)|skip
 refine wr (k:=2) ?_ rfl rfl rfl
 intro bx tk nt
 clear hA hB hS0
 repeat' (first
 |(refine ai ?_;first
 |refine lN ?_
 |refine an (cs':=[_,_]) rfl rfl rfl rfl (Nat.zero_le _) rfl rfl rfl ?_
 |refine lF (p:=hlen') ?_
 |refine gF (p:=hle) ?_
 |(refine oZ (j:=root.length) rfl rfl hsd hkn hr1 rfl ?_<;>intro t6<;>rw[hr2])
 |refine dz rfl rfl rfl rfl hel' ?_
 |refine kD (j:=root.length) rfl rfl rfl rfl (hz _ hsd) hpk ?_
 |refine mI ?_
 |refine mB ?_
 |refine mS ?_
 |refine mT ?_
 |refine lO (d:=.agg [_,_]) ?_
 |refine lO (d:=.int _ _) ?_
 |refine lE (d:=.int _ _) hk ?_
 |(refine cH (fn:=25) rfl rfl rfl hX rfl ?_;intro tc sc hsc tk3 nt3)
 |(refine cH (fn:=22) rfl rfl rfl (hR _ _ hsd) rfl ?_;intro te se hse tk4 nt4)
 |(refine fY (fn:=17) rfl rfl rfl (hI _ _ hsc) rfl ?_;intro td sd hsd htd)
 |refine fF (fn:=28) rfl rfl rfl (hIn _ _ 1 1 (.inl rfl) (.inl rfl)) rfl rfl ?_
 |refine fF (fn:=18) rfl rfl rfl (hSx _ _ _ _ hsc hse) rfl rfl ?_
 |refine pB ?_
 |refine eB ?_
 |refine eA ?_
 |refine nT ?_
 |refine fD ?_
 |refine aq rfl rfl ?_
 |refine WS_nil ?_)
 |refine WC_seq ?_
 |refine WC_opsS ?_
 |refine WC_skip ?_
 |refine af rfl ?_
 |refine WC_block ?_)
 all_goals first|(exfalso;omega)|skip
 refine hlk _ _ _ _ _ _ _ _ _ _ _ _ rfl rfl rfl rfl rfl rfl rfl rfl rfl rfl rfl rfl rfl _ (fun ρ2 m0 m1 m3 m4 m5 m6 m7 m17 m22 m24 m2 m27=>?_)
 refine hrest tc sc hsc ρ2 _ ?_ ?_ ?_ ?_ m0 m1 m2 m3 m4 m5 m6 m7 m17 m22 m27 _ ?_
 ·exact rfl
 ·exact rfl
 ·exact Nat.lt_succ_of_lt (Nat.lt_succ_self _)
 ·exact rfl
 ·intro ρ' st' h16
  rw[←aa h16]
  exact aK (.inr rfl) rfl rfl
end Go.Lea
/-
  SpurParts, as the evaluator runs it.
-/
namespace Go.Lea
open Go.Ev
set_option maxHeartbeats 4000000 in
theorem sF (l:List Eg) (root bans:List Int) (fr to now sz by':Int):EvP Γ2 11 [.slice .no 8 (l.map Eg.e),.slice .no 1 (root.map (D.int .i64)),.slice .no 1 (bans.map (D.int .i64)),.int .i64 fr,.int .i64 to,.int .i64 now,.int .i64 sz,.int .i64 by'] (.bool true):=by
 by_cases hf:l.length≤20∧root.length≤20∧bans.length≤20
 ·obtain⟨f1,f2,f3⟩:=hf
  cases hoX:ce l root bans fr to now sz by' with
  |none=>exact sS l root bans fr to now sz by' f1 f2 f3 hoX
  |some p=>
   obtain⟨es,a⟩:=p
   by_cases hel:(es.map Eg.id).length=root.length
   ·exact xH l root bans fr to now sz by' f1 f2 f3 es a hoX hel
   ·exact wy l root bans fr to now sz by' f1 f2 f3 es a hoX hel
 ·refine aA rfl rfl ?_
  repeat' (first
 |(refine ai ?_;first
 |refine lN ?_
 |refine aj rfl ?_
 |refine mB ?_
 |refine mS ?_
 |refine aj rfl ?_
 |refine gT ?_
 |(refine oU rfl rfl rfl rfl ?_ ?_<;>intro _)
 |refine cA rfl jz ?_
 |refine pB ?_
 |refine aj rfl ?_
 |refine WS_nil ?_)
 |refine WC_seq ?_
 |refine WC_opsS ?_
 |refine ah rfl ?_
 |refine al ?_)
  all_goals first|exact aK (.inr rfl) rfl rfl|(exfalso;omega)
end Go.Lea
