/-
  One hop more, and times by nodes: what goes over a map, as functions that are known to hold.
-/
import Derived.Test.YtcejefmekkiboaaBesEarX
import Derived.Test.YtcejefmekkiboaaEvEvN
import Derived.Test.YtcejefmekkiboaaEvSmR
import Derived.Test.YtcejefmekkiboaaBesEarL
set_option linter.unusedVariables false
set_option linter.unusedSimpArgs false
set_option linter.unnecessarySimpa false
namespace Go.Bes
open Go.Ev
/-! ### Plain -/
def bQ (M:List Rd):List (Int×D):=M.map fun r=>(r.node,.int .i64 r.at')
def nG (n v:Int):List Rd→List Rd
 |[]=>[⟨n,v⟩]
 |r::M=>if r.node=n then⟨n,v⟩::M else r::nG n v M
def gi (n v:Int) (M:List Rd):List Rd:=match cK n M with
 |some had=>if had<v then nG n v M else M
 |none=>nG n v M
def cZ (to sz:Int) (shut:List Int) (M N:List Rd) (e:Eg):List Rd:=match cK e.to M with
 |none=>N
 |some by'=>if e.fr=to∨(e.to≠to∧e.to∈shut)then N else match nc e by' sz with
  |none=>N
  |some x=>gi e.fr x N
def gb (to sz:Int) (shut:List Int) (l:List Eg) (M:List Rd):List Rd:=l.foldl (cZ to sz shut M) M
theorem jk (n:Int):∀M:List Rd,aZ n (bQ M)=(cK n M).map (D.int .i64)
 |[]=>rfl
 |r::M=>by
  simp only[bQ,List.map_cons,aZ,cK]
  split
  ·rfl
  ·exact jk n M
theorem pW (n v:Int):∀M:List Rd,cJ n (.int .i64 v) (bQ M)=bQ (nG n v M)
 |[]=>rfl
 |r::M=>by
  simp only[bQ,List.map_cons,cJ,nG]
  split
  ·rfl
  ·have:=pW n v M
   unfold bQ at this
   rw[this];rfl
theorem iN (M:List Rd):(bQ M).map (·.1)=M.map Rd.node:=by simp[bQ]
theorem xD {n v:Int} {M:List Rd} (h:(M.map Rd.node).Nodup):((nG n v M).map Rd.node).Nodup:=by
 rw[←iN,←pW]
 exact nJ n _ (by rw[iN];exact h)
theorem H0 {n v:Int} {M:List Rd} (h:(M.map Rd.node).Nodup):((gi n v M).map Rd.node).Nodup:=by
 unfold gi
 repeat' split
 all_goals first|exact h|exact xD h
theorem pa {to sz:Int} {shut:List Int} {M N:List Rd} {e:Eg} (h:(N.map Rd.node).Nodup):((cZ to sz shut M N e).map Rd.node).Nodup:=by
 unfold cZ
 repeat' split
 all_goals first|exact h|exact H0 h
theorem qf {to sz:Int} {shut:List Int} {M:List Rd}:∀(l:List Eg) (N:List Rd),(N.map Rd.node).Nodup→((l.foldl (cZ to sz shut M) N).map Rd.node).Nodup
 |[],N,h=>h
 |e::l,N,h=>qf l _ (pa h)
theorem wX {to sz:Int} {shut:List Int} {M:List Rd} (l:List Eg) (h:(M.map Rd.node).Nodup):((gb to sz shut l M).map Rd.node).Nodup:=qf l M h
/-! ### .. as the evaluator knows it -/
def Eo:Int×D→Option Rd
 |(k,.int .i64 v)=>some ⟨k,v⟩
 |_=>none
def pR:List (Int×D)→Option (List Rd)
 |[]=>some []
 |p::r=>match Eo p,pR r with
  |some x,some xs=>some (x::xs)
  |_,_=>none
def EK:D→Option Eg
 | .agg [.int .i64 a,.int .i64 b,.int .i64 c,.int .i64 d,.int .i64 e,.int .i64 f,.int .i64 g,.int .i64 h]=>some ⟨a,b,c,d,e,f,g,h⟩
 |_=>none
def sq:List D→Option (List Eg)
 |[]=>some []
 |p::r=>match EK p,sq r with
  |some x,some xs=>some (x::xs)
  |_,_=>none
theorem qQ:∀M:List Rd,pR (bQ M)=some M
 |[]=>rfl
 |r::M=>by
  have:=qQ M
  unfold bQ at this ⊢
  simp only[List.map_cons,pR,Eo,this]
theorem oI:∀{kv:List (Int×D)} {M:List Rd},pR kv=some M→kv=bQ M
 |[],M,h=>by cases h;rfl
 |p::r,M,h=>by
  simp only[pR]at h
  split at h<;>try contradiction
  rename_i x xs h1 h2
  cases h
  have:=oI h2
  obtain⟨k,d⟩:=p
  unfold Eo at h1
  split at h1<;>try contradiction
  rename_i k' v heq
  cases heq
  cases h1
  rw[this];rfl
theorem sK:∀l:List Eg,sq (l.map Eg.e)=some l
 |[]=>rfl
 |e::l=>by
  simp only[List.map_cons,sq,sK l]
  rfl
theorem AL {d:D} {x:Eg} (h:EK d=some x):d=x.e:=by
 unfold EK at h
 split at h<;>cases h
 rfl
theorem rS:∀{xs:List D} {l:List Eg},sq xs=some l→xs=l.map Eg.e
 |[],l,h=>by cases h;rfl
 |p::r,l,h=>by
  simp only[sq]at h
  split at h<;>try contradiction
  rename_i x xs h1 h2
  cases h
  rw[rS h2,AL h1];rfl
theorem ql:∀{xs:List D} {l:List Int},fR xs=some l→xs=l.map (D.int .i64)
 |[],l,h=>by cases h;rfl
 |d::xs,l,h=>by
  cases d with
  |int k n=>
   cases k<;>simp only[fR]at h<;>try contradiction
   split at h<;>cases h
   rename_i l' hl
   rw[ql hl];rfl
  |_=>simp[fR]at h
def qV (ds:List D) (st:Store):Option (D×Store):=
 match ds with
 |[.map p,.slice _ s xs,.int .i64 to,.int .i64 sz,.slice _ s' ys]=>match st.boxes p with
  |some (.map kv)=>match pR kv,sq xs,fR ys with
   |some M,some l,some shut=>if(s=8∨l.isEmpty)∧(s'=1∨shut.isEmpty)∧l.length≤1000000∧shut.length≤1000000∧st.lim≤p∧p<st.next then
     some (.map st.next,{st with boxes:=ap st.boxes st.next (some (.map (bQ (gb to sz shut l M)))),next:=st.next+2+l.length})else none
   |_,_,_=>none
  |_=>none
 |_=>none
def ya (ds:List D) (st:Store):Option (D×Store):=
 match ds with
 |[.map p]=>match st.boxes p with
  |some (.map kv)=>match pR kv with
   |some M=>if 0<M.length∧M.length≤1000000∧st.lim≤p∧p<st.next then
     some (.rs (st.next+M.length) 0 2 M.length M.length,{st with boxes:=ap st.boxes (st.next+M.length) (some (.row (((fX Rd.node M).map Rd.e).flatMap D.cells))),next:=st.next+M.length+1})else none
   |_=>none
  |_=>none
 |_=>none
/-! ### later -/
def xx (st:Store) (q:Nat) (kv:List (Int×D)):Store:={st with boxes:=ap st.boxes q (some (.map kv))}
theorem w7 {st:Store} {q:Nat} {kv:List (Int×D)} (h:st.boxes q=some (.map kv)):xx st q kv=st:=by
 have e:ap st.boxes q (some (.map kv))=st.boxes:=by
  funext i
  by_cases hi:i=q
  ·subst hi;rw[ae,h]
  ·rw[ab _ _ hi]
 unfold xx
 rw[e]
set_option maxHeartbeats 1000000 in
theorem Da (n v:Int) (st:Store) (q:Nat) (N:List Rd) (kv1:List (Int×D)) (hp:kv1.Perm (bQ N)) (hn:(N.map Rd.node).Nodup) (hb:st.boxes q=some (.map kv1)) (hl:st.lim≤q):
  ∃kv2,kv2.Perm (bQ (gi n v N))∧EvRW Γ 67 [.map q,.int .i64 n,.int .i64 v] st (.tuple []) (xx st q kv2):=by
 have hnd:((bQ N).map (·.1)).Nodup:=by rw[iN];exact hn
 have hg:aZ n kv1=(cK n N).map (D.int .i64):=by rw[qI hp hnd,jk]
 have hset:(cJ n (.int .i64 v) kv1).Perm (bQ (nG n v N)):=by rw[←pW];exact qH n _ hp hnd
 cases ha:cK n N with
 |none=>
  have hL:gi n v N=nG n v N:=by unfold gi;rw[ha]
  rw[ha]at hg
  rw[hL]
  have hg1:(aZ n kv1).getD (.int .i64 0)=.int .i64 0:=by rw[hg];rfl
  have hg2:(aZ n kv1).isSome=false:=by rw[hg];rfl
  refine⟨_,hset,?_⟩
  refine j9 rfl rfl ?_
  repeat' (first
 |(refine al ?_;first
 |refine bo rfl rfl rfl hb hg1 hg2 rfl ?_
 |refine eM (v:=.int .i64 v) rfl rfl rfl hb hl rfl rfl ?_
 |refine ak rfl ?_
 |refine mI ?_
 |refine mB ?_
 |refine mT ?_
 |refine mM ?_
 |refine ak rfl ?_
 |refine pB ?_
 |refine eI ?_
 |refine eB ?_
 |refine nT ?_
 |refine Hd ?_)
 |refine He ?_
 |refine Ir ?_
 |refine aj rfl ?_)
  exact⟨.inl rfl,rfl⟩
 |some had=>
  rw[ha]at hg
  have hg1:(aZ n kv1).getD (.int .i64 0)=.int .i64 had:=by rw[hg];rfl
  have hg2:(aZ n kv1).isSome=true:=by rw[hg];rfl
  by_cases hv:had<v
  ·have hL:gi n v N=nG n v N:=by unfold gi;rw[ha];exact if_pos hv
   rw[hL]
   refine⟨_,hset,?_⟩
   refine j9 rfl rfl ?_
   repeat' (first
 |(refine al ?_;first
 |refine bo rfl rfl rfl hb hg1 hg2 rfl ?_
 |refine gT (p:=hv) ?_
 |refine eM (v:=.int .i64 v) rfl rfl rfl hb hl rfl rfl ?_
 |refine mI ?_
 |refine mB ?_
 |refine mT ?_
 |refine mM ?_
 |refine pB ?_
 |refine eI ?_
 |refine eB ?_
 |refine nT ?_
 |refine Hd ?_)
 |refine He ?_
 |refine Ir ?_
 |refine aj rfl ?_)
   exact⟨.inl rfl,rfl⟩
  ·have hL:gi n v N=N:=by unfold gi;rw[ha];exact if_neg hv
   rw[hL]
   have hv':v≤had:=by omega
   refine⟨_,hp,?_⟩
   rw[w7 hb]
   refine j9 rfl rfl ?_
   repeat' (first
 |(refine al ?_;first
 |refine bo rfl rfl rfl hb hg1 hg2 rfl ?_
 |refine gF (p:=hv') ?_
 |refine mI ?_
 |refine mB ?_
 |refine mT ?_
 |refine mM ?_
 |refine pB ?_
 |refine eI ?_
 |refine eB ?_
 |refine nT ?_
 |refine Hd ?_)
 |refine He ?_
 |refine Ir ?_
 |refine Hg ?_
 |refine ah rfl ?_)
   exact⟨.inl rfl,rfl⟩
/-! ### The edges, one by one -/
set_option maxHeartbeats 8000000 in
theorem Ez (l:List Eg) (hll:l.length≤1000000) (to sz:Int) (shut:List Int) (hsl:shut.length≤1000000) (t t':Tok) (s s':Nat) (hs:s=8∨l=[]) (hs':s'=1∨shut=[]) (M:List Rd) (p q:Nat) (hpq:p≠q):∀(post pre:List Eg),l=pre++post→∀(N:List Rd) (kv1:List (Int×D)),kv1.Perm (bQ N)→(N.map Rd.node).Nodup→
  ∀(ρ:Nat→D) (st:Store),st.lim≤p→st.lim≤q→p<st.next→q<st.next→st.boxes p=some (.map (bQ M))→st.boxes q=some (.map kv1)→
  ρ 0=.map p→ρ 2=.int .i64 to→ρ 3=.int .i64 sz→ρ 4=.slice t' s' (shut.map (D.int .i64))→ρ 11=.map q→ρ 31=.slice t s (l.map Eg.e)→ρ 32=.int .i64 l.length→ρ 33=.int .i64 pre.length→∀(Q:X→(Nat→D)→Store→Prop),
  (∀ρ' st' kv',kv'.Perm (bQ (post.foldl (cZ to sz shut M) N))→st'.next=st.next+post.length→st'.lim=st.lim→st'.tlim=st.tlim→st'.toks=st.toks→st'.ntok=st.ntok→st'.boxes q=some (.map kv')→(∀r,r<st.next→r≠q→st'.boxes r=st.boxes r)→ρ' 11=.map q→Q (.exit 2) ρ' st')→WC Γ (.loop eo) ρ st Q:=by
 intro post
 induction post with
 |nil=>
  intro pre hpp N kv1 hkv hN ρ st hl1 hl2 hp hq hbp hbq h0 h2 h3 h4 h11 h31 h32 h33 Q hQ
  rw[List.append_nil]at hpp
  subst hpp
  rw[←aa h0,←aa h2,←aa h3,←aa h4,←aa h11,←aa h31,←aa h32,←aa h33]
  refine Hh ?_
  repeat' (first
 |(refine al ?_;first
 |refine lF ?_
 |refine Hd ?_)
 |refine He ?_
 |refine Ir ?_
 |refine ah rfl ?_
 |refine Hi ?_)
  exact hQ _ _ kv1 hkv rfl rfl rfl rfl rfl hbq (fun _ _ _=>rfl) rfl
 |cons x post ih=>
  intro pre hpp N kv1 hkv hN ρ st hl1 hl2 hp hq hbp hbq h0 h2 h3 h4 h11 h31 h32 h33 Q hQ
  have hv:=lU hpp
  have hlen:l.length=pre.length+(post.length+1):=by rw[hpp];simp
  have hz:s=8:=hs.resolve_right (by rintro rfl;simp at hlen)
  subst hz
  have hpl:pre.length<(l.map Eg.e).length:=by simp;omega
  have hltl:(pre.length:Int)<l.length:=by omega
  have hnext:∀(N2:List Rd) (kv2:List (Int×D)),cZ to sz shut M N x=N2→kv2.Perm (bQ N2)→∀(ρ':Nat→D) (st':Store),st'.lim=st.lim→st'.tlim=st.tlim→st'.toks=st.toks→st'.ntok=st.ntok→st'.next=st.next+1→st'.boxes q=some (.map kv2)→(∀r,r<st.next→r≠q→st'.boxes r=st.boxes r)→ρ' 0=.map p→ρ' 2=.int .i64 to→ρ' 3=.int .i64 sz→ρ' 4=.slice t' s' (shut.map (D.int .i64))→ρ' 11=.map q→ρ' 31=.slice t 8 (l.map Eg.e)→ρ' 32=.int .i64 l.length→ρ' 33=.int .i64 ((pre.length:Int)+1)→WC Γ (.loop eo) ρ' st' Q:=fun N2 kv2 e1 e2 ρ' st' f1 f2 f3 f4 f5 f6 f7 k0 k2 k3 k4 k11 k31 k32 k33=>by
   subst e1
   refine ih (pre++[x]) (by simp[hpp]) _ kv2 e2 (pa hN) ρ' st' (by rw[f1];exact hl1) (by rw[f1];exact hl2) (by rw[f5];omega) (by rw[f5];omega) ((f7 p hp hpq).trans hbp) f6 k0 k2 k3 k4 k11 k31 k32 (by rw[List.length_append];exact k33) Q (fun ρ'' st'' kv' g1 g2 g3 g4 g5 g6 g7 g8 g9=>hQ ρ'' st'' kv' g1 (by rw[g2,f5,List.length_cons];omega) (g3.trans f1) (g4.trans f2) (g5.trans f3) (g6.trans f4) g7 (fun r hr hrq=>(g8 r (by rw[f5];omega) hrq).trans (f7 r hr hrq)) g9)
  clear ih hQ
  have hnp:p≠st.next:=Nat.ne_of_lt hp
  have hnq:q≠st.next:=Nat.ne_of_lt hq
  have hgp:aZ x.to (bQ M)=(cK x.to M).map (D.int .i64):=jk _ _
  have hll1:st.lim≤st.next:=by omega
  rw[←aa h0,←aa h2,←aa h3,←aa h4,←aa h11,←aa h31,←aa h32,←aa h33]
  refine Hh ?_
  clear h0 h2 h3 h4 h11 h31 h32 h33
  cases ha:cK x.to M with
  |none=>
   have hst:cZ to sz shut M N x=N:=by unfold cZ;rw[ha]
   rw[ha]at hgp
   have hg1:(aZ x.to (bQ M)).getD (.int .i64 0)=.int .i64 0:=by rw[hgp];rfl
   have hg2:(aZ x.to (bQ M)).isSome=false:=by rw[hgp];rfl
   repeat' (first
 |(refine al ?_;first
 |refine iA (pre.length) hpl ?_
 |refine am (cs':=[_,_,_,_,_,_,_,_]) rfl rfl (ae _ _ _) rfl hll1 rfl rfl rfl ?_
 |refine bo rfl rfl rfl ((ab _ _ hnp).trans ((ab _ _ hnp).trans hbp)) hg1 hg2 rfl ?_
 |refine ak rfl ?_
 |refine mI ?_
 |refine mB ?_
 |refine mT ?_
 |refine mM ?_
 |refine ak rfl ?_
 |refine lT ?_
 |refine aD ?_
 |refine ak rfl ?_
 |refine lE (d:=.agg [_,_,_,_,_,_,_,_]) hv ?_
 |refine lP (d:=.int _ _) ?_
 |refine ak rfl ?_
 |refine pB ?_
 |refine ak rfl ?_
 |refine eI ?_
 |refine eB ?_
 |refine nT ?_
 |refine fD ?_
 |refine av rfl rfl ?_
 |refine ak rfl ?_
 |refine Hd ?_)
 |refine He ?_
 |refine Ir ?_
 |refine Hg ?_
 |refine aj rfl ?_
 |refine Hf ?_
 |refine Hi ?_)
   refine hnext N kv1 hst hkv _ _ rfl rfl rfl rfl rfl ((ab _ _ hnq).trans ((ab _ _ hnq).trans hbq)) (fun r hr _=>(ab _ _ (Nat.ne_of_lt hr)).trans (ab _ _ (Nat.ne_of_lt hr))) ?_ ?_ ?_ ?_ ?_ ?_ ?_ ?_<;>rfl
  |some by'=>
   rw[ha]at hgp
   have hg1:(aZ x.to (bQ M)).getD (.int .i64 0)=.int .i64 by':=by rw[hgp];rfl
   have hg2:(aZ x.to (bQ M)).isSome=true:=by rw[hgp];rfl
   have hC:=fun t=>nf x.to shut (by omega) t s' hs'
   by_cases hf:x.fr=to
   ·have hst:cZ to sz shut M N x=N:=by unfold cZ;rw[ha];exact if_pos (.inl hf)
    clear hC hpp
    repeat' (first
 |(refine al ?_;first
 |refine iA (pre.length) hpl ?_
 |refine am (cs':=[_,_,_,_,_,_,_,_]) rfl rfl (ae _ _ _) rfl hll1 rfl rfl rfl ?_
 |refine bo rfl rfl rfl ((ab _ _ hnp).trans ((ab _ _ hnp).trans hbp)) hg1 hg2 rfl ?_
 |refine cb rfl rfl rfl rfl hf ?_
 |refine ak rfl ?_
 |refine mI ?_
 |refine mB ?_
 |refine mT ?_
 |refine mM ?_
 |refine ak rfl ?_
 |refine lT ?_
 |refine aD ?_
 |refine ak rfl ?_
 |refine lE (d:=.agg [_,_,_,_,_,_,_,_]) hv ?_
 |refine lP (d:=.int _ _) ?_
 |refine ak rfl ?_
 |refine pB ?_
 |refine ak rfl ?_
 |refine eI ?_
 |refine eB ?_
 |refine nT ?_
 |refine fD ?_
 |refine av rfl rfl ?_
 |refine ak rfl ?_
 |refine Hd ?_)
 |refine He ?_
 |refine Ir ?_
 |refine Hg ?_
 |refine aj rfl ?_
 |refine Hf ?_
 |refine Hi ?_)
    refine hnext N kv1 hst hkv _ _ rfl rfl rfl rfl rfl ((ab _ _ hnq).trans ((ab _ _ hnq).trans hbq)) (fun r hr _=>(ab _ _ (Nat.ne_of_lt hr)).trans (ab _ _ (Nat.ne_of_lt hr))) ?_ ?_ ?_ ?_ ?_ ?_ ?_ ?_<;>rfl
   ·by_cases hsh:x.to≠to∧x.to∈shut
    ·have hst:cZ to sz shut M N x=N:=by unfold cZ;rw[ha];exact if_pos (.inr hsh)
     have hne:=hsh.1
     rw[decide_eq_true hsh.2]at hC
     clear hpp
     repeat' (first
 |(refine al ?_;first
 |refine iA (pre.length) hpl ?_
 |refine am (cs':=[_,_,_,_,_,_,_,_]) rfl rfl (ae _ _ _) rfl hll1 rfl rfl rfl ?_
 |refine bo rfl rfl rfl ((ab _ _ hnp).trans ((ab _ _ hnp).trans hbp)) hg1 hg2 rfl ?_
 |refine b7 rfl rfl rfl rfl hf ?_
 |refine cu rfl rfl rfl rfl hne ?_
 |refine mI ?_
 |refine mB ?_
 |refine mS ?_
 |refine mT ?_
 |refine mM ?_
 |refine lT ?_
 |refine aD ?_
 |refine lE (d:=.agg [_,_,_,_,_,_,_,_]) hv ?_
 |refine lP (d:=.int _ _) ?_
 |refine cA rfl (hC _) ?_
 |refine pB ?_
 |refine eI ?_
 |refine eB ?_
 |refine nT ?_
 |refine fD ?_
 |refine av rfl rfl ?_
 |refine Hd ?_)
 |refine He ?_
 |refine Ir ?_
 |refine Hg ?_
 |refine aj rfl ?_
 |refine Hf ?_
 |refine Hi ?_)
     refine hnext N kv1 hst hkv _ _ rfl rfl rfl rfl rfl ((ab _ _ hnq).trans ((ab _ _ hnq).trans hbq)) (fun r hr _=>(ab _ _ (Nat.ne_of_lt hr)).trans (ab _ _ (Nat.ne_of_lt hr))) ?_ ?_ ?_ ?_ ?_ ?_ ?_ ?_<;>rfl
    ·have hL:=BO x by' sz
     have hst:cZ to sz shut M N x=match nc x by' sz with|none=>N|some y=>gi x.fr y N:=by unfold cZ;rw[ha];exact if_neg (by rintro (h|h);exact hf h;exact hsh h)
     unfold uK at hL
     have hq1:∀S:Store,S.boxes=ap (ap st.boxes st.next (some (.cells [.int .i64 0,.int .i64 0,.int .i64 0,.int .i64 0,.int .i64 0,.int .i64 0,.int .i64 0,.int .i64 0]))) st.next (some (.cells x.e.cells))→S.boxes q=some (.map kv1):=fun S e=>by rw[e];exact(ab _ _ hnq).trans ((ab _ _ hnq).trans hbq)
     cases ho:nc x by' sz with
     |none=>
      rw[ho]at hL hst
      by_cases hto:x.to=to
      ·clear hpp
       repeat' (first
 |(refine al ?_;first
 |refine iA (pre.length) hpl ?_
 |refine am (cs':=[_,_,_,_,_,_,_,_]) rfl rfl (ae _ _ _) rfl hll1 rfl rfl rfl ?_
 |refine bo rfl rfl rfl ((ab _ _ hnp).trans ((ab _ _ hnp).trans hbp)) hg1 hg2 rfl ?_
 |refine b7 rfl rfl rfl rfl hf ?_
 |refine ca rfl rfl rfl rfl hto ?_
 |refine ak rfl ?_
 |refine mI ?_
 |refine mB ?_
 |refine mT ?_
 |refine mM ?_
 |refine lT ?_
 |refine aD ?_
 |refine ak rfl ?_
 |refine lE (d:=.agg [_,_,_,_,_,_,_,_]) hv ?_
 |refine lP (d:=.int _ _) ?_
 |refine lP (d:=.agg [_,_,_,_,_,_,_,_]) ?_
 |refine ak rfl ?_
 |refine cA rfl hL ?_
 |refine pB ?_
 |refine eI ?_
 |refine eB ?_
 |refine nT ?_
 |refine fD ?_
 |refine av rfl rfl ?_
 |refine ak rfl ?_
 |refine Hd ?_)
 |refine He ?_
 |refine Ir ?_
 |refine Hg ?_
 |refine aj rfl ?_
 |refine ah rfl ?_
 |refine Hf ?_)
       refine hnext N kv1 hst hkv _ _ rfl rfl rfl rfl rfl ((ab _ _ hnq).trans ((ab _ _ hnq).trans hbq)) (fun r hr _=>(ab _ _ (Nat.ne_of_lt hr)).trans (ab _ _ (Nat.ne_of_lt hr))) ?_ ?_ ?_ ?_ ?_ ?_ ?_ ?_<;>rfl
      ·rw[decide_eq_false (fun h=>hsh ⟨hto,h⟩)]at hC
       clear hpp
       repeat' (first
 |(refine al ?_;first
 |refine iA (pre.length) hpl ?_
 |refine am (cs':=[_,_,_,_,_,_,_,_]) rfl rfl (ae _ _ _) rfl hll1 rfl rfl rfl ?_
 |refine bo rfl rfl rfl ((ab _ _ hnp).trans ((ab _ _ hnp).trans hbp)) hg1 hg2 rfl ?_
 |refine b7 rfl rfl rfl rfl hf ?_
 |refine cu rfl rfl rfl rfl hto ?_
 |refine mI ?_
 |refine mB ?_
 |refine mS ?_
 |refine mT ?_
 |refine mM ?_
 |refine lT ?_
 |refine aD ?_
 |refine lE (d:=.agg [_,_,_,_,_,_,_,_]) hv ?_
 |refine lP (d:=.int _ _) ?_
 |refine lP (d:=.agg [_,_,_,_,_,_,_,_]) ?_
 |refine cA rfl (hC _) ?_
 |refine cA rfl hL ?_
 |refine pB ?_
 |refine eI ?_
 |refine eB ?_
 |refine nT ?_
 |refine fD ?_
 |refine av rfl rfl ?_
 |refine Hd ?_)
 |refine He ?_
 |refine Ir ?_
 |refine Hg ?_
 |refine aj rfl ?_
 |refine ah rfl ?_
 |refine Hf ?_)
       refine hnext N kv1 hst hkv _ _ rfl rfl rfl rfl rfl ((ab _ _ hnq).trans ((ab _ _ hnq).trans hbq)) (fun r hr _=>(ab _ _ (Nat.ne_of_lt hr)).trans (ab _ _ (Nat.ne_of_lt hr))) ?_ ?_ ?_ ?_ ?_ ?_ ?_ ?_<;>rfl
     |some y=>
      rw[ho]at hL hst
      obtain⟨kv2,hkv2,hS⟩:=Da x.fr y {st with boxes:=ap (ap st.boxes st.next (some (.cells [.int .i64 0,.int .i64 0,.int .i64 0,.int .i64 0,.int .i64 0,.int .i64 0,.int .i64 0,.int .i64 0]))) st.next (some (.cells x.e.cells)),next:=st.next+1} q N kv1 hkv hN (hq1 _ rfl) hl2
      by_cases hto:x.to=to
      ·clear hpp
       repeat' (first
 |(refine al ?_;first
 |refine iA (pre.length) hpl ?_
 |refine am (cs':=[_,_,_,_,_,_,_,_]) rfl rfl (ae _ _ _) rfl hll1 rfl rfl rfl ?_
 |refine bo rfl rfl rfl ((ab _ _ hnp).trans ((ab _ _ hnp).trans hbp)) hg1 hg2 rfl ?_
 |refine b7 rfl rfl rfl rfl hf ?_
 |refine ca rfl rfl rfl rfl hto ?_
 |refine cp rfl rfl rfl hS ?_
 |refine ak rfl ?_
 |refine mI ?_
 |refine mB ?_
 |refine mT ?_
 |refine mM ?_
 |refine lT ?_
 |refine aD ?_
 |refine ak rfl ?_
 |refine lE (d:=.agg [_,_,_,_,_,_,_,_]) hv ?_
 |refine lP (d:=.int _ _) ?_
 |refine lP (d:=.agg [_,_,_,_,_,_,_,_]) ?_
 |refine ak rfl ?_
 |refine cA rfl hL ?_
 |refine pB ?_
 |refine eI ?_
 |refine eB ?_
 |refine nT ?_
 |refine fD ?_
 |refine av rfl rfl ?_
 |refine ak rfl ?_
 |refine Hd ?_)
 |refine He ?_
 |refine Ir ?_
 |refine Hg ?_
 |refine aj rfl ?_
 |refine ah rfl ?_
 |refine Hf ?_)
       refine hnext _ kv2 hst hkv2 _ _ rfl rfl rfl rfl rfl (ae _ _ _) (fun r hr hrq=>(ab _ _ hrq).trans ((ab _ _ (Nat.ne_of_lt hr)).trans (ab _ _ (Nat.ne_of_lt hr)))) ?_ ?_ ?_ ?_ ?_ ?_ ?_ ?_<;>rfl
      ·rw[decide_eq_false (fun h=>hsh ⟨hto,h⟩)]at hC
       clear hpp
       repeat' (first
 |(refine al ?_;first
 |refine iA (pre.length) hpl ?_
 |refine am (cs':=[_,_,_,_,_,_,_,_]) rfl rfl (ae _ _ _) rfl hll1 rfl rfl rfl ?_
 |refine bo rfl rfl rfl ((ab _ _ hnp).trans ((ab _ _ hnp).trans hbp)) hg1 hg2 rfl ?_
 |refine b7 rfl rfl rfl rfl hf ?_
 |refine cu rfl rfl rfl rfl hto ?_
 |refine cp rfl rfl rfl hS ?_
 |refine mI ?_
 |refine mB ?_
 |refine mS ?_
 |refine mT ?_
 |refine mM ?_
 |refine lT ?_
 |refine aD ?_
 |refine lE (d:=.agg [_,_,_,_,_,_,_,_]) hv ?_
 |refine lP (d:=.int _ _) ?_
 |refine lP (d:=.agg [_,_,_,_,_,_,_,_]) ?_
 |refine cA rfl (hC _) ?_
 |refine cA rfl hL ?_
 |refine pB ?_
 |refine eI ?_
 |refine eB ?_
 |refine nT ?_
 |refine fD ?_
 |refine av rfl rfl ?_
 |refine Hd ?_)
 |refine He ?_
 |refine Ir ?_
 |refine Hg ?_
 |refine aj rfl ?_
 |refine ah rfl ?_
 |refine Hf ?_)
       refine hnext _ kv2 hst hkv2 _ _ rfl rfl rfl rfl rfl (ae _ _ _) (fun r hr hrq=>(ab _ _ hrq).trans ((ab _ _ (Nat.ne_of_lt hr)).trans (ab _ _ (Nat.ne_of_lt hr)))) ?_ ?_ ?_ ?_ ?_ ?_ ?_ ?_<;>rfl
end Go.Bes
/-
  .. as functions that are known to hold.
-/
namespace Go.Bes
open Go.Ev
theorem pG {a b:List Int} (hn:a.Nodup) (h:∀x∈a,x∈b):a.length≤b.length:=yW hn h
theorem yr {a b:List (Int×D)} (ha:(a.map (·.1)).Nodup) (hb:(b.map (·.1)).Nodup) (h:∀k,aZ k a=aZ k b):a.Perm b:=by
 have nd:∀{c:List (Int×D)},(c.map (·.1)).Nodup→c.Nodup:=fun{c} hc=>(List.pairwise_map.1 hc).imp fun{x y} hxy e=>hxy (by rw[e])
 refine(List.perm_ext_iff_of_nodup (nd ha) (nd hb)).2 fun p=>?_
 obtain⟨k,d⟩:=p
 rw[←dN ha,←dN hb,h k]
theorem El (kv:List (Int×D)) (hkn:(kv.map (·.1)).Nodup) (hki:∀k d,(k,d)∈kv→∃v,d=.int .i64 v) (es:Array MapEntry) (cl:Nat) (p q it:Nat) (h1:p≠it) (h2:q≠it) (h3:p≠q) (v1 v2 v3 v4:D):∀(n:Nat) (ks:List Int),kv.length - ks.length≤n→ks.Nodup→(∀k∈ks,k∈kv.map (·.1))→∀(kv1:List (Int×D)),(kv1.map (·.1)).Nodup→(∀k,aZ k kv1=if k∈ks then aZ k kv else none)→
  ∀(ρ:Nat→D) (st:Store),st.lim≤q→st.lim≤it→st.boxes p=some (.mapE kv es cl)→st.boxes q=some (.map kv1)→st.boxes it=some (.iter p es cl ks)→ρ 0=.map p→ρ 1=v1→ρ 2=v2→ρ 3=v3→ρ 4=v4→ρ 11=.map q→ρ 22=.ptr it 0→∀(Q:X→(Nat→D)→Store→Prop),
  (∀ρ' st' kv',kv'.Perm kv→st'.next=st.next→st'.lim=st.lim→st'.tlim=st.tlim→st'.toks=st.toks→st'.ntok=st.ntok→st'.boxes p=some (.mapE kv es cl)→st'.boxes q=some (.map kv')→(∀r,r≠q→r≠it→st'.boxes r=st.boxes r)→ρ' 0=.map p→ρ' 1=v1→ρ' 2=v2→ρ' 3=v3→ρ' 4=v4→ρ' 11=.map q→Q (.exit 0) ρ' st')→Sm.WC Γ (.loop gS) ρ st Q:=by
 intro n
 induction n with
 |zero=>
  intro ks hn hks hsub kv1 hnd hg ρ st hl1 hl2 hbp hbq hbi k0 k1 k2 k3 k4 k11 k22 Q hQ
  have hall:∀k d,(k,d)∈kv→k∈ks:=fun k d hkd=>by
   refine Classical.byContradiction fun hk=>?_
   have hnn:(k::ks).Nodup:=List.nodup_cons.2 ⟨hk,hks⟩
   have:=pG hnn (b:=kv.map (·.1)) (fun x hx=>by
    rcases List.mem_cons.1 hx with rfl|hx
    ·exact List.mem_map_of_mem (f:=(·.1)) hkd
    ·exact hsub x hx)
   simp at this
   omega
  rw[←aa k0,←aa k1,←aa k2,←aa k3,←aa k4,←aa k11,←aa k22]
  refine Sm.Hh (Sm.He (Sm.Ir ?_))
  refine Sm.HL (f0:=.f) rfl rfl rfl hbi hbp hl2 (fun _=>?_) (fun k d hkd hk=>absurd (hall k d hkd) hk)
  refine Sm.Hl (d:=.bool false) rfl rfl rfl ?_
  refine Sm.Hd ?_
  refine Sm.He (Sm.Hu (t:=false) rfl ?_)
  refine Sm.Hi ?_
  refine hQ _ st kv1 (yr hnd hkn fun k=>?_) rfl rfl rfl rfl rfl hbp hbq (fun _ _ _=>rfl) rfl rfl rfl rfl rfl rfl
  rw[hg k]
  split
  ·rfl
  ·rename_i hk
   cases hgk:aZ k kv with
   |none=>rfl
   |some d=>exact absurd (hall k d ((dN hkn).1 hgk)) hk
 |succ n ih=>
  intro ks hn hks hsub kv1 hnd hg ρ st hl1 hl2 hbp hbq hbi k0 k1 k2 k3 k4 k11 k22 Q hQ
  rw[←aa k0,←aa k1,←aa k2,←aa k3,←aa k4,←aa k11,←aa k22]
  refine Sm.Hh (Sm.He (Sm.Ir ?_))
  refine Sm.HL (f0:=.f) rfl rfl rfl hbi hbp hl2 (fun hall=>?_) (fun k d hkd hk=>?_)
  ·refine Sm.Hl (d:=.bool false) rfl rfl rfl ?_
   refine Sm.Hd ?_
   refine Sm.He (Sm.Hu (t:=false) rfl ?_)
   refine Sm.Hi ?_
   refine hQ _ st kv1 (yr hnd hkn fun k=>?_) rfl rfl rfl rfl rfl hbp hbq (fun _ _ _=>rfl) rfl rfl rfl rfl rfl rfl
   rw[hg k]
   split
   ·rfl
   ·rename_i hk
    cases hgk:aZ k kv with
    |none=>rfl
    |some d=>exact absurd (hall k d ((dN hkn).1 hgk)) hk
  ·obtain⟨v,rfl⟩:=hki k d hkd
   refine Sm.Hl (d:=.bool true) rfl rfl rfl ?_
   refine Sm.Hd ?_
   refine Sm.He (Sm.Hu (t:=true) rfl ?_)
   refine Sm.Hg ?_
   refine Sm.Hf ?_
   refine Sm.He (Sm.Ir ?_)
   refine Sm.HZ (f0:=.f) rfl rfl rfl (ae _ _ _) ((ab _ _ h1).trans hbp) hkd ?_
   refine Sm.Ie ?_
   repeat' (first
 |(refine al ?_;first
 |refine mI ?_
 |refine eI ?_
 |refine Hd ?_))
   refine Sm.HQ rfl ?_
   repeat' (first
 |(refine al ?_;first
 |refine eM (v:=.int .i64 v) rfl rfl rfl ((ab _ _ h2).trans hbq) hl1 rfl rfl ?_
 |refine mI ?_
 |refine mM ?_
 |refine Hd ?_)
 |refine Ir ?_)
   have hkk:k∈kv.map (·.1):=List.mem_map_of_mem (f:=(·.1)) hkd
   have hl:=pG (List.nodup_cons.2 ⟨hk,hks⟩) (b:=kv.map (·.1)) (fun x hx=>by
    rcases List.mem_cons.1 hx with rfl|hx
    ·exact hkk
    ·exact hsub x hx)
   simp only[List.length_cons,List.length_map]at hl
   refine ih (k::ks) (by simp only[List.length_cons];omega) (List.nodup_cons.2 ⟨hk,hks⟩) (fun x hx=>by
    rcases List.mem_cons.1 hx with rfl|hx
    ·exact hkk
    ·exact hsub x hx) (cJ k (.int .i64 v) kv1) (nJ _ _ hnd) (fun m=>?_) _ _ ?_ ?_ ?_ ?_ ?_ ?_ ?_ ?_ ?_ ?_ ?_ ?_ Q (fun ρ' st' kv' g1 g2 g3 g4 g5 g6 g7 g8 g9=>hQ ρ' st' kv' g1 g2 g3 g4 g5 g6 g7 g8 (fun r hr1 hr2=>(g9 r hr1 hr2).trans ?_))
   ·rw[iS]
    by_cases e:m=k
    ·subst e
     rw[if_pos rfl,if_pos (List.mem_cons_self),(dN hkn).2 hkd]
    ·rw[if_neg e,hg m]
     simp only[List.mem_cons,e,false_or]
   ·exact hl1
   ·exact hl2
   ·exact(ab _ _ h3).trans ((ab _ _ h1).trans hbp)
   ·exact ae _ _ _
   ·exact(ab _ _ (Ne.symm h2)).trans (ae _ _ _)
   all_goals first|rfl|skip
   exact(ab _ _ hr1).trans (ab _ _ hr2)
theorem Ih (l:List Eg) (hll:l.length≤1000000) (to sz:Int) (shut:List Int) (hsl:shut.length≤1000000) (t t':Tok) (s s':Nat) (hs:s=8∨l=[]) (hs':s'=1∨shut=[]) (M:List Rd) (hM:(M.map Rd.node).Nodup) (st:Store) (p:Nat) (hp:p<st.next) (hlp:st.lim≤p) (hbp:st.boxes p=some (.map (bQ M))) (hno:∀l,st.next≤l→st.boxes l=none) (es:Array MapEntry) (cl:Nat):
  Sm.WC Γ cU.body (enter [.map p,.slice t s (l.map Eg.e),.int .i64 to,.int .i64 sz,.slice t' s' (shut.map (D.int .i64))]) {st with boxes:=ap st.boxes p (some (.mapE (bQ M) es cl))}
    (fun x ρ1 s1=>(x=.normal∨x=.ret)∧aI ρ1 s1 cU.res=some (.map st.next)∧∃kv',kv'.Perm (bQ (gb to sz shut l M))∧s1.boxes st.next=some (.map kv')∧(∀r,r<st.next→r≠p→s1.boxes r=st.boxes r)∧s1.boxes p=some (.map (bQ M))∧s1.next=st.next+2+l.length∧s1.lim=st.lim∧s1.tlim=st.tlim∧s1.toks=st.toks∧s1.ntok=st.ntok):=by
 have hkn:((bQ M).map (·.1)).Nodup:=by rw[iN];exact hM
 have hll1:st.lim≤st.next:=by omega
 refine Sm.He ?_
 refine Sm.HQ rfl ?_
 repeat' (first
 |(refine al ?_;first
 |refine aB (v:=.nilmap) rfl rfl rfl ?_
 |refine Hd ?_)
 |refine Ir ?_)
 refine Sm.He ?_
 refine Sm.HQ rfl ?_
 repeat' (first
 |(refine al ?_;first
 |refine mM ?_
 |refine gI rfl rfl ?_
 |refine Hd ?_)
 |refine Ir ?_)
 refine Sm.He (Sm.He ?_)
 refine Sm.Ir ?_
 refine Sm.Hl (d:=.map p) rfl rfl rfl ?_
 refine Sm.H6 (f0:=.f) (m:=p) (kv:=bQ M) (es:=es) (cl:=cl) rfl rfl rfl ?_ ?_
 ·exact(ab _ _ (Nat.ne_of_lt hp)).trans (ae _ _ _)
 refine Sm.Hd ?_
 refine Sm.Hf ?_
 refine El (bQ M) hkn (fun k d h=>by
  obtain⟨r,_,e⟩:=List.mem_map.1 h
  cases e
  exact⟨_,rfl⟩) es cl p st.next (st.next+1) (by omega) (by omega) (by omega) (.slice t s (l.map Eg.e)) (.int .i64 to) (.int .i64 sz) (.slice t' s' (shut.map (D.int .i64))) (bQ M).length [] (by simp) (by simp) (by simp) [] (by simp) (by simp[aZ]) _ _ ?_ ?_ ?_ ?_ ?_ ?_ ?_ ?_ ?_ ?_ ?_ ?_ _ (fun ρ' st' kv' g1 g2 g3 g4 g5 g6 g7 g8 g9 k0 k1 k2 k3 k4 k11=>?_)
 ·exact hll1
 ·exact Nat.le_succ_of_le hll1
 ·exact(ab _ _ (show p≠st.next+1 by omega)).trans ((ab _ _ (show p≠st.next by omega)).trans (ae _ _ _))
 ·exact(ab _ _ (show st.next≠st.next+1 by omega)).trans (ae _ _ _)
 ·exact ae _ _ _
 all_goals first|rfl|skip
 have g2':st'.next=st.next+2:=g2
 have g3':st'.lim=st.lim:=g3
 have g9':∀r,r<st.next→r≠p→st'.boxes r=st.boxes r:=fun r hr hrp=>(g9 r (by omega) (by omega)).trans ((ab _ _ (show r≠st.next+1 by omega)).trans ((ab _ _ (show r≠st.next by omega)).trans (ab _ _ hrp)))
 refine Sm.Ig (c:=.seq _ _) rfl g7 (by rw[g3'];exact hlp) ?_
 refine Sm.HQ rfl ?_
 rw[←aa k0,←aa k1,←aa k2,←aa k3,←aa k4,←aa k11]
 repeat' (first
 |(refine al ?_;first
 |refine lN ?_
 |refine mI ?_
 |refine mS ?_
 |refine Hd ?_)
 |refine He ?_
 |refine Ir ?_
 |refine Hf ?_)
 refine Ez l hll to sz shut hsl t t' s s' hs hs' M p st.next (by omega) l [] rfl M kv' g1 hM _ _ ?_ ?_ ?_ ?_ ?_ ?_ ?_ ?_ ?_ ?_ ?_ ?_ ?_ ?_ _ (fun ρ2 st2 kv2 f1 f2 f3 f4 f5 f6 f7 f8 f9=>?_)
 ·show st'.lim≤p
  rw[g3'];exact hlp
 ·show st'.lim≤st.next
  rw[g3'];exact hll1
 ·show p<st'.next
  omega
 ·show st.next<st'.next
  omega
 ·exact ae _ _ _
 ·exact(ab _ _ (by omega)).trans g8
 all_goals first|rfl|skip
 rw[←aa f9]
 repeat' (first
 |(refine al ?_;first
 |refine mM ?_
 |refine Hd ?_)
 |refine He ?_
 |refine Ir ?_
 |refine an ?_)
 refine⟨.inr rfl,rfl,kv2,f1,f7,fun r hr hrp=>?_,?_,?_,f3.trans g3,f4.trans g4,f5.trans g5,f6.trans g6⟩
 ·rw[f8 r (by show r<st'.next;omega) (by omega)]
  exact(ab _ _ hrp).trans (g9' r hr hrp)
 ·rw[f8 p (by show p<st'.next;omega) (by omega)]
  exact ae _ _ _
 ·rw[f2]
  show st'.next+l.length=_
  rw[g2']
end Go.Bes
/-
  Times by nodes, out of a map.
-/
namespace Go.Bes
open Go.Ev
section
variable {Γ:Nat→Option FD} {ρ:Nat→D} {st:Store} {dr:Bool} {R:(Nat→D)→Store→List Fl→Prop} {l:List Op1} {g:Option (Nat×Bool)} {mv:Bool} {k:Nat} {x y:A}
theorem FA {s0:Nat} {t:Tok} {r:Rd} (hg:ao ρ g=some true) (hx:x.ev ρ=.slice .isnil s0 []) (hy:y.ev ρ=.slice t 2 [r.e]) (hm:mv=true)
  (h:WS Γ dr l (ap ρ k (.rs st.next 0 2 1 1)) {st with boxes:=ap st.boxes st.next (some (.row r.e.cells)),next:=st.next+1} (nx .f R)):WS Γ dr (⟨some k,g,mv,.append 2 16 x y⟩::l) ρ st R:=by
 subst hm
 refine Hl (d:=.rs st.next 0 2 1 1) hg rfl ?_ h
 simp[O.runM,hx,hy,iJ,lk]
theorem ES {p n:Nat} {cs:List D} {t:Tok} {r:Rd} (hg:ao ρ g=some true) (hx:x.ev ρ=.rs p 0 2 n n) (hy:y.ev ρ=.slice t 2 [r.e]) (hb:st.boxes p=some (.row cs)) (hc:cs.length=n*2) (hl:st.lim≤p) (hn:n≤1000000) (hm:mv=true)
  (h:WS Γ dr l (ap ρ k (.rs st.next 0 2 (n+1) (n+1))) {st with boxes:=ap (ap st.boxes p none) st.next (some (.row (cs++r.e.cells))),next:=st.next+1} (nx .f R)):WS Γ dr (⟨some k,g,mv,.append 2 16 x y⟩::l) ρ st R:=by
 subst hm
 refine Hl (d:=.rs st.next 0 2 (n+1) (n+1)) hg rfl ?_ h
 simp only[O.runM,hx,hy,iJ,lk,iE]
 simp[hb,hc,hl]
 rw[if_neg (by omega),if_pos (by omega),List.take_of_length_le (by omega)]
end
theorem DZ:∀{l m:List Rd},l.Perm m→(l.Pairwise fun a b=>a.node≤b.node)→(m.Pairwise fun a b=>a.node<b.node)→l=m
 |[],m,h,_,_=>(List.Perm.nil_eq h)
 |a::l,[],h,_,_=>by have:=h.length_eq;simp at this
 |a::l,b::m,h,hl,hm=>by
  have hl':=List.pairwise_cons.mp hl
  have hm':=List.pairwise_cons.mp hm
  have e:a=b:=by
   have h1:a∈b::m:=h.mem_iff.mp List.mem_cons_self
   have h2:b∈a::l:=h.mem_iff.mpr List.mem_cons_self
   rcases List.mem_cons.mp h1 with h1|h1
   ·exact h1
   rcases List.mem_cons.mp h2 with h2|h2
   ·exact h2.symm
   have e1:=hm'.1 a h1
   have e2:=hl'.1 b h2
   omega
  subst e
  rw[DZ ((List.perm_cons a).mp h) hl'.2 hm'.2]
theorem zn {L M:List Rd} (h:L.Perm M) (hn:(M.map Rd.node).Nodup):fX Rd.node L=fX Rd.node M:=by
 have h2:((fX Rd.node M).map Rd.node).Nodup:=((dp Rd.node M).map _).nodup_iff.2 hn
 exact DZ ((dp _ L).trans (h.trans (dp _ M).symm)) (lD _ L) (DV (lD _ M) h2)
def cellsOf (L:List Rd):List D:=(L.map Rd.e).flatMap D.cells
theorem iM (L:List Rd):(cellsOf L).length=L.length*2:=by
 unfold cellsOf
 rw[bT Hc,List.length_map]
theorem xR (L:List Rd) (r:Rd):cellsOf (L++[r])=cellsOf L++r.e.cells:=by simp[cellsOf]
def Γr:Nat→Option FD
 |44=>some (.primS (jZ 2 0 88))
 |_=>none
theorem Bc (L:List Rd) (hn:(L.map Rd.node).Nodup) (hlen:L.length≤1000000) (st:Store) (p:Nat) (hl:st.lim≤p) (hb:st.boxes p=some (.row (cellsOf L))):
  EvRW Γr 44 [.rs p 0 2 L.length L.length,.func 88 []] st (.tuple []) {st with boxes:=ap st.boxes p (some (.row (cellsOf (fX Rd.node L))))}:=by
 refine jg (F:=jZ 2 0 88) rfl ?_
 have e1:od 0 (L.map Rd.row)=(fX Rd.node L).map Rd.row:=by rw[pS,qF];rfl
 have e2:((fX Rd.node L).map Rd.row).flatMap (fun x=>x.map (D.int .i64))=cellsOf (fX Rd.node L):=by
  unfold cellsOf
  rw[List.flatMap_map,List.flatMap_map];rfl
 have e3:(cellsOf L).take (L.length*2)=(L.flatMap Rd.row).map (D.int .i64):=by
  rw[List.take_of_length_le (by rw[iM];exact Nat.le_refl _)]
  exact nm L
 have e4:(cellsOf L).drop (L.length*2)=[]:=List.drop_of_length_le (by rw[iM];exact Nat.le_refl _)
 show jZ 2 0 88 [.rs p 0 2 L.length L.length,.func 88 []] st=_
 simp only[jZ,hb,e3,e4,kI,nB,e1,e2,List.append_nil]
 rw[if_pos ⟨trivial,trivial,trivial,hl,by rw[iM];exact Nat.le_refl _,by omega,by
  rw[List.map_map]
  exact pX _ hn⟩]
def ul (it:Nat) (L:List Rd):D:=if L=[]then .slice .isnil 0 []else .rs (it+L.length) 0 2 L.length L.length
set_option maxHeartbeats 1000000 in
theorem GB (M:List Rd) (hM:(M.map Rd.node).Nodup) (hMl:M.length≤1000000) (es:Array MapEntry) (cl:Nat) (p it:Nat) (h1:p<it) (b0:Nat→Option Box) (tk:Nat→Bool) (ntk lm tl:Nat) (hlm:lm≤it) (hbp:b0 p=some (.mapE (bQ M) es cl)):∀(n:Nat) (L:List Rd),M.length - L.length≤n→(L.map Rd.node).Nodup→(∀r∈L,r∈M)→
  ∀(ρ:Nat→D) (bx:Nat→Option Box),(∀r,r<it→bx r=b0 r)→bx it=some (.iter p es cl (L.map Rd.node).reverse)→(L≠[]→bx (it+L.length)=some (.row (cellsOf L)))→ρ 0=.map p→ρ 2=ul it L→ρ 6=.ptr it 0→∀(Q:X→(Nat→D)→Store→Prop),
  (∀ρ' bx' L',L'.Perm M→(∀r,r<it→bx' r=b0 r)→(L'≠[]→bx' (it+L'.length)=some (.row (cellsOf L')))→ρ' 2=ul it L'→Q (.exit 0) ρ' ⟨bx',it+L'.length+1,tk,ntk,lm,tl⟩)→Sm.WC Γr (.loop eJ) ρ ⟨bx,it+L.length+1,tk,ntk,lm,tl⟩ Q:=by
 intro n
 have fin:∀L:List Rd,(L.map Rd.node).Nodup→(∀r∈L,r∈M)→(∀k d,(k,d)∈bQ M→k∈(L.map Rd.node).reverse)→L.Perm M:=fun L hL hs hall=>by
  have nd:∀{c:List Rd},(c.map Rd.node).Nodup→c.Nodup:=fun{c} hc=>(List.pairwise_map.1 hc).imp fun{x y} hxy e=>hxy (by rw[e])
  refine(List.perm_ext_iff_of_nodup (nd hL) (nd hM)).2 fun r=>⟨hs r,fun hr=>?_⟩
  have h:=hall r.node (.int .i64 r.at') (List.mem_map.2 ⟨r,hr,rfl⟩)
  rw[List.mem_reverse]at h
  obtain⟨r',hr',e⟩:=List.mem_map.1 h
  have a1:=rc hM (hs r' hr')
  rw[e,rc hM hr]at a1
  have:r'=r:=by
   obtain⟨a,b⟩:=r
   obtain⟨a',b'⟩:=r'
   simp at e a1
   rw[e,a1]
  rw[←this]
  exact hr'
 have stop:∀(L:List Rd) (hL:(L.map Rd.node).Nodup) (hs:∀r∈L,r∈M) (ρ:Nat→D) (bx:Nat→Option Box),(∀r,r<it→bx r=b0 r)→bx it=some (.iter p es cl (L.map Rd.node).reverse)→(L≠[]→bx (it+L.length)=some (.row (cellsOf L)))→ρ 2=ul it L→∀(Q:X→(Nat→D)→Store→Prop),(∀ρ' bx' L',L'.Perm M→(∀r,r<it→bx' r=b0 r)→(L'≠[]→bx' (it+L'.length)=some (.row (cellsOf L')))→ρ' 2=ul it L'→Q (.exit 0) ρ' ⟨bx',it+L'.length+1,tk,ntk,lm,tl⟩)→
   (∀k d,(k,d)∈bQ M→k∈(L.map Rd.node).reverse)→∀ρ':Nat→D,ρ' 2=ul it L→Q (.exit 0) ρ' ⟨bx,it+L.length+1,tk,ntk,lm,tl⟩:=fun L hL hs ρ bx hb1 hb2 hb3 k2 Q hQ hall ρ' k2'=>hQ ρ' bx L (fin L hL hs hall) hb1 hb3 k2'
 induction n with
 |zero=>
  intro L hn hL hs ρ bx hb1 hb2 hb3 k0 k2 k6 Q hQ
  have hall:∀k d,(k,d)∈bQ M→k∈(L.map Rd.node).reverse:=fun k d hkd=>by
   refine Classical.byContradiction fun hk=>?_
   rw[List.mem_reverse]at hk
   have hnn:(k::L.map Rd.node).Nodup:=List.nodup_cons.2 ⟨hk,hL⟩
   have:=pG hnn (b:=M.map Rd.node) (fun x hx=>by
    rcases List.mem_cons.1 hx with rfl|hx
    ·obtain⟨r,hr,e⟩:=List.mem_map.1 hkd
     cases e
     exact List.mem_map_of_mem hr
    ·obtain⟨r,hr,e⟩:=List.mem_map.1 hx
     rw[←e]
     exact List.mem_map_of_mem (hs r hr))
   simp at this
   omega
  have hst:=stop L hL hs ρ bx hb1 hb2 hb3 k2 Q hQ hall
  rw[←aa k0,←aa k2,←aa k6]
  refine Sm.Hh (Sm.He (Sm.Ir ?_))
  refine Sm.HL (f0:=.f) (m:=p) (kv:=bQ M) rfl rfl rfl hb2 ((hb1 p h1).trans hbp) hlm (fun _=>?_) (fun k d hkd hk=>absurd (hall k d hkd) hk)
  refine Sm.Hl (d:=.bool false) rfl rfl rfl ?_
  refine Sm.Hd ?_
  refine Sm.He (Sm.Hu (t:=false) rfl ?_)
  refine Sm.Hi ?_
  exact hst _ rfl
 |succ n ih=>
  intro L hn hL hs ρ bx hb1 hb2 hb3 k0 k2 k6 Q hQ
  have hst:=stop L hL hs ρ bx hb1 hb2 hb3 k2 Q hQ
  rw[←aa k0,←aa k2,←aa k6]
  refine Sm.Hh (Sm.He (Sm.Ir ?_))
  refine Sm.HL (f0:=.f) (m:=p) (kv:=bQ M) rfl rfl rfl hb2 ((hb1 p h1).trans hbp) hlm (fun hall=>?_) (fun k d hkd hk=>?_)
  ·refine Sm.Hl (d:=.bool false) rfl rfl rfl ?_
   refine Sm.Hd ?_
   refine Sm.He (Sm.Hu (t:=false) rfl ?_)
   refine Sm.Hi ?_
   exact hst hall _ rfl
  ·obtain⟨r,hr,e⟩:=List.mem_map.1 hkd
   cases e
   have hk':r.node∉L.map Rd.node:=fun h=>hk (List.mem_reverse.2 h)
   have hL2:((L++[r]).map Rd.node).Nodup:=by
    rw[List.map_append,List.nodup_append]
    refine⟨hL,by simp,fun a ha b hb e=>?_⟩
    simp at hb
    subst hb e
    exact hk' ha
   have hs2:∀r'∈L++[r],r'∈M:=fun r' h=>by
    rcases List.mem_append.1 h with h|h
    ·exact hs r' h
    ·rw[List.mem_singleton.1 h];exact hr
   have hlen:=pG hL2 (b:=M.map Rd.node) (fun x hx=>by
    obtain⟨r',h,e⟩:=List.mem_map.1 hx
    rw[←e]
    exact List.mem_map_of_mem (hs2 r' h))
   simp only[List.length_map,List.length_append,List.length_cons,List.length_nil]at hlen
   have hrev:((L++[r]).map Rd.node).reverse=r.node::(L.map Rd.node).reverse:=by simp
   have hnext:∀(ρ':Nat→D) (bx':Nat→Option Box),(∀r,r<it→bx' r=b0 r)→bx' it=some (.iter p es cl (r.node::(L.map Rd.node).reverse))→bx' (it+(L.length+1))=some (.row (cellsOf L++r.e.cells))→ρ' 0=.map p→ρ' 2=.rs (it+(L.length+1)) 0 2 (L.length+1) (L.length+1)→ρ' 6=.ptr it 0→Sm.WC Γr (.loop eJ) ρ' ⟨bx',it+(L.length+1)+1,tk,ntk,lm,tl⟩ Q:=fun ρ' bx' e1 e2 e3 j0 j2 j6=>by
    have:=ih (L++[r]) (by simp;omega) hL2 hs2 ρ' bx' e1 (by rw[hrev];exact e2) (fun _=>by rw[xR,List.length_append];exact e3) j0 (by unfold ul;rw[if_neg (by simp),List.length_append];exact j2) j6 Q hQ
    rw[List.length_append]at this
    exact this
   clear ih hQ hst stop fin
   refine Sm.Hl (d:=.bool true) rfl rfl rfl ?_
   refine Sm.Hd ?_
   refine Sm.He (Sm.Hu (t:=true) rfl ?_)
   refine Sm.Hg ?_
   refine Sm.Hf ?_
   refine Sm.He (Sm.Ir ?_)
   refine Sm.HZ (f0:=.f) (m:=p) (kv:=bQ M) rfl rfl rfl (ae _ _ _) ((ab _ _ (Nat.ne_of_lt h1)).trans ((hb1 p h1).trans hbp)) hkd ?_
   refine Sm.Ie ?_
   repeat' (first
 |(refine al ?_;first
 |refine mI ?_
 |refine eI ?_
 |refine Hd ?_))
   refine Sm.HQ rfl ?_
   by_cases h0:L=[]
   ·subst h0
    have hk2:ul it []=.slice .isnil 0 []:=rfl
    rw[hk2]
    repeat' (first
 |(refine al ?_;first
 |refine FA (r:=r) rfl rfl rfl rfl ?_
 |refine mI ?_
 |refine mS ?_
 |refine mR ?_
 |refine bJ (cs:=[_,_]) rfl rfl rfl ?_
 |refine bg (ys:=[_]) rfl rfl rfl (by decide) rfl ?_
 |refine Hd ?_)
 |refine Ir ?_)
    refine hnext _ _ (fun q hq=>?_) ?_ ?_ ?_ ?_ ?_
    ·exact(ab _ _ (show q≠it+0+1 by omega)).trans ((ab _ _ (show q≠it by omega)).trans (hb1 q hq))
    ·exact(ab _ _ (show it≠it+0+1 by omega)).trans (ae _ _ _)
    ·exact ae _ _ _
    all_goals rfl
   ·have hk2:ul it L=.rs (it+L.length) 0 2 L.length L.length:=if_neg h0
    have hLp:0<L.length:=List.length_pos_iff.2 h0
    rw[hk2]
    have hbr:ap bx it (some (.iter p es cl (r.node::(L.map Rd.node).reverse))) (it+L.length)=some (.row (cellsOf L)):=(ab _ _ (by omega)).trans (hb3 h0)
    have hcl:=iM L
    have hLM:L.length≤1000000:=by omega
    have hl2:lm≤it+L.length:=by omega
    repeat' (first
 |(refine al ?_;first
 |refine ES (r:=r) rfl rfl rfl hbr hcl hl2 hLM rfl ?_
 |refine mI ?_
 |refine mR ?_
 |refine bJ (cs:=[_,_]) rfl rfl rfl ?_
 |refine bg (ys:=[_]) rfl rfl rfl (by decide) rfl ?_
 |refine Hd ?_)
 |refine Ir ?_)
    refine hnext _ _ (fun q hq=>?_) ?_ ?_ ?_ ?_ ?_
    ·exact(ab _ _ (show q≠it+L.length+1 by omega)).trans ((ab _ _ (show q≠it+L.length by omega)).trans ((ab _ _ (show q≠it by omega)).trans (hb1 q hq)))
    ·exact(ab _ _ (show it≠it+L.length+1 by omega)).trans ((ab _ _ (show it≠it+L.length by omega)).trans (ae _ _ _))
    ·exact ae _ _ _
    all_goals rfl
theorem Gc (M:List Rd) (hM:(M.map Rd.node).Nodup) (h0:0<M.length) (hMl:M.length≤1000000) (st:Store) (p:Nat) (hp:p<st.next) (hlp:st.lim≤p) (hbp:st.boxes p=some (.map (bQ M))) (es:Array MapEntry) (cl:Nat):
  Sm.WC Γr dk.body (enter [.map p]) {st with boxes:=ap st.boxes p (some (.mapE (bQ M) es cl))}
    (fun x ρ1 s1=>(x=.normal∨x=.ret)∧aI ρ1 s1 dk.res=some (.rs (st.next+M.length) 0 2 M.length M.length)∧s1.boxes (st.next+M.length)=some (.row (cellsOf (fX Rd.node M)))∧(∀r,r<st.next→r≠p→s1.boxes r=st.boxes r)∧s1.boxes p=some (.mapE (bQ M) es cl)∧s1.next=st.next+M.length+1∧s1.lim=st.lim∧s1.tlim=st.tlim∧s1.toks=st.toks∧s1.ntok=st.ntok):=by
 obtain⟨bx,nx0,tk,ntk,lm,tl⟩:=st
 have hp:p<nx0:=hp
 have hlp:lm≤p:=hlp
 refine Sm.He ?_
 refine Sm.HQ rfl ?_
 repeat' (first
 |(refine al ?_;first
 |refine mS ?_
 |refine Hd ?_)
 |refine Ir ?_)
 refine Sm.He (Sm.He ?_)
 refine Sm.Ir ?_
 refine Sm.Hl (d:=.map p) rfl rfl rfl ?_
 refine Sm.H6 (f0:=.f) (m:=p) (kv:=bQ M) (es:=es) (cl:=cl) rfl rfl rfl (ae _ _ _) ?_
 refine Sm.Hd ?_
 refine Sm.Hf ?_
 refine GB M hM hMl es cl p nx0 hp (ap bx p (some (.mapE (bQ M) es cl))) tk ntk lm tl (by omega) (ae _ _ _) M.length [] (by simp) (by simp) (by simp) _ _ (fun r hr=>?_) ?_ (fun h=>absurd rfl h) ?_ ?_ ?_ _ (fun ρ' bx' L' g1 g2 g3 k2=>?_)
 ·exact ab _ _ (Nat.ne_of_lt hr)
 ·exact ae _ _ _
 all_goals first|rfl|skip
 have hl':=g1.length_eq
 have hL0:L'≠[]:=fun e=>by subst e;simp at hl';omega
 have hn':(L'.map Rd.node).Nodup:=(g1.map _).nodup_iff.2 hM
 have hS:=Bc L' hn' (by omega) ⟨bx',nx0+L'.length+1,tk,ntk,lm,tl⟩ (nx0+L'.length) (by show lm≤_;omega) (g3 hL0)
 have hk2:ul nx0 L'=.rs (nx0+L'.length) 0 2 L'.length L'.length:=if_neg hL0
 rw[hk2]at k2
 rw[←aa k2]
 refine Sm.HQ (c:=.seq _ _) rfl ?_
 repeat' (first
 |(refine al ?_;first
 |(refine cp rfl rfl rfl hS ?_)
 |refine mR ?_
 |refine Hd ?_)
 |refine He ?_
 |refine Ir ?_
 |refine an ?_)
 rw[zn g1 hM]
 refine⟨.inr rfl,?_,?_,fun r hr hrp=>?_,?_,?_,rfl,rfl,rfl,rfl⟩
 ·rw[←hl'];rfl
 ·rw[←hl'];exact ae _ _ _
 ·have hr:r<nx0:=hr
  exact(ab _ _ (show r≠nx0+L'.length by omega)).trans ((g2 r hr).trans (ab _ _ hrp))
 ·exact(ab _ _ (show p≠nx0+L'.length by omega)).trans ((g2 p hp).trans (ae _ _ _))
 ·rw[←hl']
end Go.Bes
/-
  slices.SortFunc of times by their nodes, with the closure of late's row.
-/
namespace Go.Bes.R
open Go.Ev Go.Bes
set_option maxRecDepth 100000 in
theorem xn:GL (aM Γs 100 64 [.slice .isnil 0 [],.int .i64 0,.int .i64 0,.int .i64 0,.func 88 []])=true:=by decide+kernel
end Go.Bes.R
namespace Go.Proofs.Ytcejefmekkiboaa
open Go.ChangeShapes Go.WideShapes Go.ChangeAt Go.RowKit Go.Ev Go.Bes
theorem Try.ntmps_cloR:Try.f88.ntmps=10:=rfl
namespace R
open Go.Bes.R
set_option maxHeartbeats 1000000 in
theorem uy (x y:Vk 2) (W:World):Calls Try.prog 88 #[.agg (fk 2 x).toArray,.agg (fk 2 y).toArray] W fun e w'=>e=.returned (.int .i64 (Lib.compareInt (kv 0 x) (kv 0 y)))∧∃q os',w'=Sort.grow (W.drewN q) os':=by
 have hcon:=fun W'=>AnyG.cmp_Compare_int Try.cmpInt (kv 0 x) (kv 0 y) W'
 change ∀W',Calls Try.prog 24 _ _ _ at hcon
 obtain⟨a0,a1,hx⟩:=CU x
 obtain⟨b0,b1,hy⟩:=CU y
 have e1:kv 0 x=a0:=by simp[kv,hx]
 have e2:kv 0 y=b0:=by simp[kv,hy]
 have e3:(fk 2 x).toArray= #[.int .i64 a0,.int .i64 a1]:=by simp[fk,hx]
 have e4:(fk 2 y).toArray= #[.int .i64 b0,.int .i64 b1]:=by simp[fk,hy]
 rw[e3,e4]
 rw[e1,e2]at hcon ⊢
 clear e1 e2 e3 e4 hx hy
 generalize Lib.compareInt a0 b0=r at hcon ⊢
 go_enter Try.func88,Try.ntmps_cloR
 go_wp2_with (go_at_call 24;refine(hcon _).mono ?_;rintro e w' ⟨rfl,rfl⟩)
 go_ret
 exact⟨rfl,0,_,by rw[Sort.alloc_eq_grow,Sort.alloc_eq_grow,Sort.grow_grow];rfl⟩
theorem rb (W:World):Calls Try.prog 64 #[.slice none 0 0,.int .i64 0,.int .i64 0,.int .i64 0,.func (.func 88) #[] #[]] W fun e w'=>e=.returned (.tuple #[])∧Below W.heap.size W w':=by
 have hV:VRs W (Cy W) [.slice .isnil 0 [],.int .i64 0,.int .i64 0,.int .i64 0,.func 88 []] (#[.slice none 0 0,.int .i64 0,.int .i64 0,.int .i64 0,.func (.func 88) #[] #[]]:Array Value).toList:=by
  refine⟨rfl,fun j d v hd hv=>?_⟩
  match j with
  |0=>cases hd;cases hv;exact .slice .isnil 0 [] none 0 0 (fun _ _=>Go.undef) rfl (Nat.le_refl _) ⟨rfl,rfl,rfl⟩ (fun i x h=>by simp at h) (fun i x j c h=>by simp at h) (fun i x j c h=>by simp at h)
  |1=>cases hd;cases hv;exact .int _ _
  |2=>cases hd;cases hv;exact .int _ _
  |3=>cases hd;cases hv;exact .int _ _
  |4=>cases hd;cases hv;exact .func _ [] #[] rfl (fun j c v h=>by simp at h)
  |j+5=>simp at hd
 obtain⟨_,hC⟩:=(o8 yQ Try.mixed 100).pure_ (BG xn) (by
  intro d hd
  simp at hd
  rcases hd with rfl|rfl|rfl|rfl|rfl<;>exact⟨rfl,rfl⟩) (tG W) hV
 refine hC.mono fun e w' hR=>?_
 obtain⟨v,rfl,_,hmv⟩:=hR
 obtain⟨g',hv,hst⟩:=hmv false
 refine⟨?_,hst.ext.below⟩
 have hv:VR w' g' (.tuple []) v:=hv
 cases hv with
 |tuple cs vs hl hvv=>
  have:vs= #[]:=by simpa using hl.symm
  rw[this]
set_option maxHeartbeats 1000000 in
theorem rn (W:World):Calls Try.prog 44 #[.slice none 0 0,.func (.func 88) #[] #[]] W fun e w'=>e=.returned (.tuple #[])∧Below W.heap.size W w':=by
 have hl:∀W,Calls Try.prog 65 #[.int .u64 0] W fun e w'=>e=.returned (.int .i64 0)∧w'=W:=fun W=>
  Any.bits_Len (SlLaysF0.n15.bits (P:=Try.prog) (ρ:=Try.sortE_ren) {Try.sortE with}) 0 W (by omega) (by omega)
 have hp:=rb
 go_enter Try.func44,Try.ntmps_sort
 go_wp2_with (first|(go_at_call 65;refine(hl _).mono ?_;rintro e w' ⟨rfl,rfl⟩)|(go_at_call 64;refine(hp _).mono ?_;rintro e w' ⟨rfl,hb⟩))
 go_end0
 exact⟨rfl,hb⟩
theorem sort_known:PrimSOK Try.prog 44 (jZ 2 0 88):=by
 have E:Ev.Hj Try.prog 44:=(dm (show aG Try.prog 44 bu.ro bu.mv=some bu by kernel_rfl)).choose_spec.choose_spec.2.2.1
 have eg:∀args w,(callFunc 88 args).run Try.prog w=.ok (.enter 88 args) w:=enters_of Try.func88 (by kernel_rfl) rfl
 refine sL (by decide) E (fun blk off cap d w hH hblk hsz=>?_) rn
 exact AnyQ.slices_SortFunc Try.sortE 2 Try.isAgg79 Try.sizeOf79 (fk 2) wr (fun x v hv=>by
  obtain⟨n,_,rfl⟩:=List.mem_map.mp hv
  rfl) (fun x y=>Lib.compareInt (kv 0 x) (kv 0 y)) FJ 88 #[] blk off cap d w eg (fun _ _ _ _ x y=>uy x y _) hH hblk hsz
end R
theorem C7:Known Try.prog Γr:=by
 intro f fd h
 unfold Γr at h
 split at h
 ·cases h;exact R.sort_known
 ·cases h
end Go.Proofs.Ytcejefmekkiboaa
/-
  Plain laws of the latest times.
-/
namespace Go.Bes
theorem iW {n v m:Int}:∀M:List Rd,cK m (nG n v M)=if m=n then some v else cK m M
 |[]=>by
  simp only[nG,cK]
  by_cases h:n=m
  ·rw[if_pos h,if_pos h.symm]
  ·rw[if_neg h,if_neg (fun e=>h e.symm)]
 |r::M=>by
  simp only[nG]
  by_cases hr:r.node=n
  ·rw[if_pos hr]
   simp only[cK]
   by_cases h:n=m
   ·rw[if_pos h,if_pos h.symm]
   ·rw[if_neg h,if_neg (fun e=>h e.symm),if_neg (fun e=>h (hr.symm.trans e))]
  ·rw[if_neg hr]
   simp only[cK]
   rw[iW M]
   by_cases h:r.node=m
   ·rw[if_pos h,if_neg (fun e=>hr (h.trans e)),if_pos h]
   ·rw[if_neg h,if_neg h]
def Le (M N:List Rd):Prop:=∀n t,cK n M=some t→∃u,cK n N=some u∧t≤u
theorem Le.refl (M:List Rd):Le M M:=fun n t h=>⟨t,h,Int.le_refl _⟩
theorem Le.trans {M N K:List Rd} (h:Le M N) (k:Le N K):Le M K:=fun n t e=>by
 obtain⟨u,h1,h2⟩:=h n t e
 obtain⟨v,h3,h4⟩:=k n u h1
 exact⟨v,h3,by omega⟩
theorem Bj {n v:Int} {N:List Rd}:Le N (gi n v N):=fun m t h=>by
 unfold gi
 split
 ·rename_i had ha
  split
  ·rename_i hlt
   rw[iW]
   by_cases e:m=n
   ·subst e
    rw[ha]at h
    cases h
    rw[if_pos rfl]
    exact⟨v,rfl,by omega⟩
   ·rw[if_neg e]
    exact⟨t,h,Int.le_refl _⟩
  ·exact⟨t,h,Int.le_refl _⟩
 ·rename_i ha
  rw[iW]
  by_cases e:m=n
  ·subst e;rw[ha]at h;cases h
  ·rw[if_neg e]
   exact⟨t,h,Int.le_refl _⟩
theorem AY {n v:Int} {N:List Rd}:∃u,cK n (gi n v N)=some u∧v≤u:=by
 unfold gi
 split
 ·rename_i had ha
  split
  ·rw[iW,if_pos rfl]
   exact⟨v,rfl,Int.le_refl _⟩
  ·exact⟨had,ha,by omega⟩
 ·rw[iW,if_pos rfl]
  exact⟨v,rfl,Int.le_refl _⟩
theorem zF {n v m t:Int} {N:List Rd} (h:cK m (gi n v N)=some t):cK m N=some t∨m=n∧t=v:=by
 unfold gi at h
 split at h
 ·split at h
  ·rw[iW]at h
   split at h
   ·rename_i e;cases h;exact .inr ⟨e,rfl⟩
   ·exact .inl h
  ·exact .inl h
 ·rw[iW]at h
  split at h
  ·rename_i e;cases h;exact .inr ⟨e,rfl⟩
  ·exact .inl h
section
variable {to sz:Int} {shut:List Int}
def DG (to sz:Int) (shut:List Int) (e:Eg) (b x:Int):Prop:=e.fr≠to∧(e.to=to∨e.to∉shut)∧nc e b sz=some x
theorem BA {M N:List Rd} {e:Eg}:Le N (cZ to sz shut M N e):=by
 unfold cZ
 split
 ·exact .refl _
 ·split
  ·exact .refl _
  ·split
   ·exact .refl _
   ·exact Bj
theorem Br {M N:List Rd} {e:Eg} {b x:Int} (hb:cK e.to M=some b) (h:DG to sz shut e b x):∃u,cK e.fr (cZ to sz shut M N e)=some u∧x≤u:=by
 obtain⟨h1,h2,h3⟩:=h
 have hc:¬(e.fr=to∨(e.to≠to∧e.to∈shut)):=by
  rintro (h|⟨ha,hb⟩)
  ·exact h1 h
  ·rcases h2 with h2|h2
   ·exact ha h2
   ·exact h2 hb
 unfold cZ
 simp only[hb,if_neg hc,h3]
 exact AY
theorem Ag {M N:List Rd} {e:Eg} {n t:Int} (h:cK n (cZ to sz shut M N e)=some t):cK n N=some t∨∃b,cK e.to M=some b∧DG to sz shut e b t∧e.fr=n:=by
 unfold cZ at h
 split at h
 ·exact .inl h
 ·rename_i b hb
  split at h
  ·exact .inl h
  ·rename_i hc
   split at h
   ·exact .inl h
   ·rename_i x hx
    rcases zF h with h|⟨h1,rfl⟩
    ·exact .inl h
    ·refine .inr ⟨b,hb,⟨fun e=>hc (.inl e),?_,hx⟩,h1.symm⟩
     by_cases h2:e.to=to
     ·exact .inl h2
     ·exact .inr fun h3=>hc (.inr ⟨h2,h3⟩)
theorem uH {M:List Rd}:∀(l:List Eg) (N:List Rd),Le N (l.foldl (cZ to sz shut M) N)
 |[],N=>.refl _
 |e::l,N=>BA.trans (uH l _)
theorem yK {M:List Rd} {e:Eg} {b x:Int} (hb:cK e.to M=some b) (h:DG to sz shut e b x):∀(l:List Eg) (N:List Rd),e∈l→∃u,cK e.fr (l.foldl (cZ to sz shut M) N)=some u∧x≤u
 |[],N,he=>by cases he
 |e'::l,N,he=>by
  by_cases hee:e=e'
  ·subst hee
   obtain⟨u,h1,h2⟩:=Br (N:=N) hb h
   obtain⟨v,h3,h4⟩:=uH (to:=to) (sz:=sz) (shut:=shut) (M:=M) l (cZ to sz shut M N e) _ _ h1
   exact⟨v,h3,by omega⟩
  ·exact yK hb h l _ (by rcases List.mem_cons.1 he with h|h;exact absurd h hee;exact h)
theorem vb {M:List Rd} {n t:Int}:∀(l:List Eg) (N:List Rd),cK n (l.foldl (cZ to sz shut M) N)=some t→cK n N=some t∨∃e∈l,∃b,cK e.to M=some b∧DG to sz shut e b t∧e.fr=n
 |[],N,h=>.inl h
 |e::l,N,h=>by
  rcases vb l _ h with h|⟨e',he,b,h1,h2,h3⟩
  ·rcases Ag h with h|⟨b,h1,h2,h3⟩
   ·exact .inl h
   ·exact .inr ⟨e,List.mem_cons_self,b,h1,h2,h3⟩
  ·exact .inr ⟨e',List.mem_cons_of_mem _ he,b,h1,h2,h3⟩
/-! ### How late -/
theorem kj {e:Eg} {b x:Int}:nc e b sz=some x↔Aw e b sz∧x=ot e b sz:=by
 unfold nc
 by_cases h:Aw e b sz
 ·rw[if_pos h];simp[h,eq_comm]
 ·rw[if_neg h];simp[h]
theorem px {e:Eg} {b x:Int} (h:nc e b sz=some x):0≤x∧x≤b∧x≤2147483647∧0≤b∧b≤1099511627776:=by
 obtain⟨⟨h1,h2,h3⟩,rfl⟩:=kj.1 h
 have hk:=ku e sz
 have ho:=h1.2.2.2.1.1.1
 have hw:=h1.2.2.2.1.2.2.1
 have he:=h1.2.2.2.1.2.1.2
 have hm:=sE (a:=e.en - mx (br e sz) 1) (b:=b - br e sz - e.ow)
 have hx:=mN (a:=br e sz) (b:=1)
 have ht:=h1.1
 unfold ot at h3 ⊢
 omega
theorem oV {e:Eg} {b b' x:Int} (h:nc e b sz=some x) (hb:b≤b') (hf:b'≤1099511627776):∃x',nc e b' sz=some x'∧x≤x':=by
 obtain⟨⟨h1,h2,h3⟩,rfl⟩:=kj.1 h
 have hm:ot e b sz≤ot e b' sz:=by
  have:=sE (a:=e.en - mx (br e sz) 1) (b:=b - br e sz - e.ow)
  exact yq.2 ⟨this.1,by have:=this.2;unfold ot;omega⟩
 exact⟨_,kj.2 ⟨⟨⟨⟨by have:=h1.1.1;omega,hf⟩,h1.2⟩,h2,by omega⟩,rfl⟩,hm⟩
theorem wm {e:Eg} {b x t:Int} (h:nc e b sz=some x) (h0:0≤t) (ht:t≤x):eT e t sz∧aX e t sz≤b:=by
 have hl:=px h
 obtain⟨⟨h1,h2,h3⟩,rfl⟩:=kj.1 h
 have hm:=sE (a:=e.en - mx (br e sz) 1) (b:=b - br e sz - e.ow)
 have hx:mx t e.op≤ot e b sz:=rz.2 ⟨ht,h3⟩
 unfold ot at hx
 refine⟨⟨⟨⟨h0,by omega⟩,h1.2⟩,h2,by omega⟩,?_⟩
 unfold aX
 omega
theorem qk {e:Eg} {b t:Int} (h:eT e t sz) (hb:aX e t sz≤b) (hf:b≤1099511627776):∃x,nc e b sz=some x∧t≤x:=by
 have hge:=ms h
 obtain⟨h1,h2,h3⟩:=h
 unfold aX at hb
 have hx:=mN (a:=t) (b:=e.op)
 have hk:=ku e sz
 have hw:=h1.2.2.2.1.2.2.1
 have h0:=h1.1.1
 have hm:mx t e.op≤ot e b sz:=yq.2 ⟨h3,by omega⟩
 exact⟨_,kj.2 ⟨⟨⟨⟨by omega,hf⟩,h1.2⟩,h2,by omega⟩,rfl⟩,by omega⟩
/-! ### Steps -/
def Bd (c:Int) (M:List Rd):Prop:=∀n t,cK n M=some t→t≤c
variable {l:List Eg}
theorem yz {M:List Rd}:Le M (gb to sz shut l M):=uH l M
theorem pz {M:List Rd} {e:Eg} {b x:Int} (he:e∈l) (hb:cK e.to M=some b) (h:DG to sz shut e b x):∃u,cK e.fr (gb to sz shut l M)=some u∧x≤u:=yK hb h l M he
theorem lA {M:List Rd} {n t:Int} (h:cK n (gb to sz shut l M)=some t):cK n M=some t∨∃e∈l,∃b,cK e.to M=some b∧DG to sz shut e b t∧e.fr=n:=vb l M h
theorem Di {M:List Rd} {c:Int} (h:Bd c M):Bd c (gb to sz shut l M):=fun n t ht=>by
 rcases lA ht with h1|⟨e,_,b,h1,h2,_⟩
 ·exact h n t h1
 ·have:=h _ _ h1
  have:=px h2.2.2
  omega
def bz (to sz:Int) (shut:List Int) (l:List Eg):Nat→List Rd→List Rd
 |0,M=>M
 |k+1,M=>bz to sz shut l k (gb to sz shut l M)
theorem dP:∀(k:Nat) (M:List Rd),bz to sz shut l (k+1) M=gb to sz shut l (bz to sz shut l k M)
 |0,M=>rfl
 |k+1,M=>by
  rw[bz,dP k];rfl
theorem qK:∀(k:Nat) (M:List Rd),(M.map Rd.node).Nodup→((bz to sz shut l k M).map Rd.node).Nodup
 |0,M,h=>h
 |k+1,M,h=>qK k _ (wX l h)
theorem n9 {c:Int}:∀(k:Nat) (M:List Rd),Bd c M→Bd c (bz to sz shut l k M)
 |0,M,h=>h
 |k+1,M,h=>n9 k _ (Di h)
theorem yN (k:Nat) (M:List Rd):Le (bz to sz shut l k M) (bz to sz shut l (k+1) M):=by rw[dP];exact yz
theorem vE {k j:Nat} (h:k≤j) (M:List Rd):Le (bz to sz shut l k M) (bz to sz shut l j M):=by
 induction j with
 |zero=>rw[Nat.le_zero.1 h];exact .refl _
 |succ j ih=>
  rcases Nat.lt_or_eq_of_le h with h|h
  ·exact(ih (by omega)).trans (yN j M)
  ·rw[h];exact .refl _
theorem wB:∀(k:Nat) (M:List Rd),(bz to sz shut l k M).length≤M.length+k*l.length
 |0,M=>by simp[bz]
 |k+1,M=>by
  have h1:=wB k (gb to sz shut l M)
  have h2:∀(l:List Eg) (K N:List Rd),(l.foldl (cZ to sz shut K) N).length≤N.length+l.length:=by
   intro l
   induction l with
   |nil=>intro K N;simp
   |cons e l ih=>
    intro K N
    have h3:=ih K (cZ to sz shut K N e)
    have h4:∀(n v:Int) (N:List Rd),(nG n v N).length≤N.length+1:=by
     intro n v N
     induction N with
     |nil=>simp[nG]
     |cons r N ih2=>
      simp only[nG]
      split
      ·simp
      ·simp only[List.length_cons];omega
    have h5:(cZ to sz shut K N e).length≤N.length+1:=by
     unfold cZ gi
     repeat' split
     all_goals first|omega|exact h4 _ _ _
    rw[List.foldl_cons,List.length_cons]
    omega
  have h3:=h2 l M M
  rw[bz,Nat.add_mul]
  unfold gb at h1 ⊢
  omega
/-! ### Ways -/
variable {by':Int}
inductive Wk (to sz:Int) (shut:List Int) (l:List Eg) (by':Int):List Eg→Int→Int→Prop
 |nil:Wk to sz shut l by' [] to by'
 |cons {p:List Eg} {e:Eg} {b x:Int} (h:Wk to sz shut l by' p e.to b) (he:e∈l) (hx:DG to sz shut e b x):Wk to sz shut l by' (e::p) e.fr x
theorem Wk.bd {p:List Eg} {n t:Int} (h:Wk to sz shut l by' p n t):t≤by':=by
 induction h with
 |nil=>exact Int.le_refl _
 |cons _ _ hx ih=>
  have:=px hx.2.2
  omega
theorem Wk.tail {p q:List Eg} {n t:Int} (h:Wk to sz shut l by' (p++q) n t):∃m b,Wk to sz shut l by' q m b∧t≤b:=by
 induction p generalizing n t with
 |nil=>exact⟨n,t,h,Int.le_refl _⟩
 |cons e p ih=>
  cases h with
  |cons h he hx=>
   obtain⟨m,b,h1,h2⟩:=ih h
   have:=px hx.2.2
   exact⟨m,b,h1,by omega⟩
theorem Wk.swap (hf:by'≤1099511627776) {p q q':List Eg} (hq:∀m b,Wk to sz shut l by' q m b→∃b',Wk to sz shut l by' q' m b'∧b≤b') {n t:Int} (h:Wk to sz shut l by' (p++q) n t):∃t',Wk to sz shut l by' (p++q') n t'∧t≤t':=by
 induction p generalizing n t with
 |nil=>exact hq n t h
 |cons e p ih=>
  cases h with
  |cons h he hx=>
   obtain⟨b',h1,h2⟩:=ih h
   obtain⟨x',h3,h4⟩:=oV hx.2.2 h2 (by have:=h1.bd;omega)
   exact⟨x',.cons h1 he ⟨hx.1,hx.2.1,h3⟩,h4⟩
theorem Wk.mem {p:List Eg} {n t:Int} (h:Wk to sz shut l by' p n t):∀e∈p,e∈l:=by
 induction h with
 |nil=>simp
 |cons _ he _ ih=>
  intro e h
  rcases List.mem_cons.1 h with rfl|h
  ·exact he
  ·exact ih e h
theorem sR {α:Type} [DecidableEq α]:∀{p:List α},¬p.Nodup→∃a p1 p2 p3,p=p1++a::(p2++a::p3)
 |[],h=>absurd List.nodup_nil h
 |x::r,h=>by
  by_cases hx:x∈r
  ·obtain⟨s,t,rfl⟩:=List.append_of_mem hx
   exact⟨x,[],s,t,rfl⟩
  ·obtain⟨a,p1,p2,p3,rfl⟩:=sR (p:=r) (fun hn=>h (List.nodup_cons.2 ⟨hx,hn⟩))
   exact⟨a,x::p1,p2,p3,rfl⟩
deriving instance DecidableEq for Eg
theorem Wk.short (hf:by'≤1099511627776):∀(k:Nat) {p:List Eg} {n t:Int},p.length≤k→Wk to sz shut l by' p n t→∃p' t',p'.length≤l.length∧Wk to sz shut l by' p' n t'∧t≤t':=by
 intro k
 induction k with
 |zero=>intro p n t hp h;exact⟨p,t,by omega,h,Int.le_refl _⟩
 |succ k ih=>
  intro p n t hp h
  by_cases hl:p.length≤l.length
  ·exact⟨p,t,hl,h,Int.le_refl _⟩
  ·have hnd:¬p.Nodup:=fun hn=>hl (yW hn h.mem)
   obtain⟨a,p1,p2,p3,rfl⟩:=sR hnd
   have hs:=Wk.swap hf (q:=a::(p2++a::p3)) (q':=a::p3) (fun m b hw=>by
    have hfr:m=a.fr:=by cases hw;rfl
    obtain⟨m',b',h1,h2⟩:=Wk.tail (p:=a::p2) (q:=a::p3) (by simpa using hw)
    have:m'=a.fr:=by cases h1;rfl
    subst this hfr
    exact⟨b',h1,h2⟩) h
   obtain⟨t',h1,h2⟩:=hs
   obtain⟨p',t'',h3,h4,h5⟩:=ih (by simp at hp ⊢;omega) h1
   exact⟨p',t'',h3,h4,by omega⟩
theorem kP:∀(k:Nat) {n t:Int},cK n (bz to sz shut l k [⟨to,by'⟩])=some t→∃p,p.length≤k∧Wk to sz shut l by' p n t
 |0,n,t,h=>by
  simp only[bz,cK]at h
  split at h
  ·rename_i e;cases h;subst e;exact⟨[],Nat.le_refl _,.nil⟩
  ·cases h
 |k+1,n,t,h=>by
  rw[dP]at h
  rcases lA h with h|⟨e,he,b,h1,h2,rfl⟩
  ·obtain⟨p,h1,h2⟩:=kP k h
   exact⟨p,by omega,h2⟩
  ·obtain⟨p,h3,h4⟩:=kP k h1
   exact⟨e::p,by simp;omega,.cons h4 he h2⟩
theorem ov:Bd by' [⟨to,by'⟩]:=fun n t h=>by
 simp only[cK]at h
 split at h<;>cases h
 exact Int.le_refl _
theorem HR (hf:by'≤1099511627776) {p:List Eg} {n t:Int} (h:Wk to sz shut l by' p n t):∃u,cK n (bz to sz shut l p.length [⟨to,by'⟩])=some u∧t≤u:=by
 induction h with
 |nil=>exact⟨by',by simp[bz,cK],Int.le_refl _⟩
 |cons h he hx ih=>
  rename_i p e b x
  obtain⟨u,h1,h2⟩:=ih
  have hb:=n9 (to:=to) (sz:=sz) (shut:=shut) (l:=l) p.length _ (ov (to:=to) (by':=by')) _ _ h1
  obtain⟨x',h3,h4⟩:=oV hx.2.2 h2 (by omega)
  obtain⟨v,h5,h6⟩:=pz (shut:=shut) he h1 (x:=x') ⟨hx.1,hx.2.1,h3⟩
  rw[List.length_cons,dP]
  exact⟨v,h5,by omega⟩
theorem oU (hf:by'≤1099511627776) (k:Nat):Le (bz to sz shut l k [⟨to,by'⟩]) (bz to sz shut l l.length [⟨to,by'⟩]):=fun n t h=>by
 obtain⟨p,h1,h2⟩:=kP k h
 obtain⟨p',t',h3,h4,h5⟩:=Wk.short hf k h1 h2
 obtain⟨u,h6,h7⟩:=HR hf h4
 obtain⟨v,h8,h9⟩:=vE (to:=to) (sz:=sz) (shut:=shut) (l:=l) h3 [⟨to,by'⟩] n u h6
 exact⟨v,h8,by omega⟩
theorem uR (k:Nat):cK to (bz to sz shut l k [⟨to,by'⟩])=some by':=by
 induction k with
 |zero=>simp[bz,cK]
 |succ k ih=>
  rw[dP]
  obtain⟨u,h1,_⟩:=yz (to:=to) (sz:=sz) (shut:=shut) (l:=l) to by' ih
  rcases lA h1 with h|⟨e,_,_,_,h,h2⟩
  ·rw[ih]at h;cases h;exact h1
  ·exact absurd h2 h.1
theorem BK {p:List Eg} {n t:Int} (h:Wk to sz shut l by' p n t) (cl:Int→Bool) (hcl:∀m,cl m=false):∀t',0≤t'→t'≤t→∃a,a≤by'∧Reach (kA sz) cl l n t' to a:=by
 induction h with
 |nil=>exact fun t' _ h=>⟨t',h,.here⟩
 |cons h he hx ih=>
  rename_i p e b x
  intro t' h0 ht
  obtain⟨h1,h2⟩:=wm hx.2.2 h0 ht
  obtain⟨a,h3,h4⟩:=ih (aX e t' sz) (by have:=ms h1;omega) h2
  exact⟨a,h3,vG (.go .here he rfl (fS.2 ⟨h1,rfl⟩) (hcl _)) h4⟩
theorem BF {cl:Int→Bool} {fr now n t:Int} (hf:by'≤1099511627776) (h:Reach (kA sz) cl l fr now n t):∀{p:List Eg} {b:Int},Wk to sz [] l by' p n b→t≤b→∃p' b',Wk to sz [] l by' p' fr b'∧now≤b':=by
 induction h with
 |here=>exact fun hw ht=>⟨_,_,hw,ht⟩
 |go hr he hfr hp hc ih=>
  rename_i a t0 u e
  intro p b hw hu
  obtain⟨h1,rfl⟩:=fS.1 hp
  have hbd:=hw.bd
  obtain⟨x,h2,h3⟩:=qk h1 hu (by omega)
  subst hfr
  by_cases hto:e.fr=to
  ·have hge:=ms h1
   exact ih (by rw[hto];exact .nil) (by omega)
  ·exact ih (.cons hw he ⟨hto,.inr (by simp),h2⟩) h3
end
end Go.Bes
