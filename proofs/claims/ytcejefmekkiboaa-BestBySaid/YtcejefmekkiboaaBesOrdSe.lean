/-
  The best way on, as the code finds it: its loops.
-/
import Derived.Test.YtcejefmekkiboaaBesLeaSa
import Derived.Test.YtcejefmekkiboaaEvEvN
import Derived.Test.YtcejefmekkiboaaEvEvX9
set_option linter.unusedVariables false
set_option linter.unusedSimpArgs false
set_option linter.unnecessarySimpa false
namespace Go.Bes
open Go.Ev
set_option maxHeartbeats 4000000 in
theorem yj (l:List Eg) (hll:l.length≤1073741824) (ids:List Int) (hil:ids.length≤1073741824) (fr now sz:Int) (h:List Hp) (hw:eF l ids fr now sz=some h) (t:Tok) (s:Nat) (hs:s=8∨l=[]) (t':Tok) (s':Nat) (hs':s'=1∨ids=[]):
  EvX Γ 20 [.slice t s (l.map Eg.e),.slice t' s' (ids.map (D.int .i64)),.int .i64 fr,.int .i64 now,.int .i64 sz] (FH Hp.e 3 h [.bool true]):=by
 refine bR rfl rfl ?_
 unfold eF at hw
 split at hw
 ·rename_i ha
  obtain⟨m,hm,hh⟩:=Option.bind_eq_some_iff.mp hw
  have hml:=ka l ids fr m hm
  have hS:=fun t t'=>oj l hll ids hil fr m hm t s hs t' s' hs'
  have hA:=fun t=>l9 l hll fr now sz t s hs
  rw[decide_eq_true ha]at hA
  repeat' (first
 |(refine al ?_;first
 |refine lN ?_
 |refine mI ?_
 |refine mB ?_
 |refine mS ?_
 |refine mT ?_
 |refine cA rfl (hA _) ?_
 |(refine iu rfl rfl rfl (hS _ _) rfl ?_;intro tm sm hsm tk2 nt2)
 |refine pB ?_
 |refine eB ?_
 |refine eS ?_
 |refine nT ?_
 |refine Hd ?_)
 |refine He ?_
 |refine Ir ?_
 |refine Hg ?_
 |refine ah rfl ?_
 |refine Hf ?_)
  refine xF sz m (by omega) tm sm hsm m [] rfl _ _ now [] .isnil 0 (Nat.le_refl _) (Nat.le_refl _) (Nat.zero_le _) (.inl ⟨.inl rfl,.inr ⟨rfl,rfl⟩⟩) ?_ ?_ ?_ ?_ ?_ ?_ _ (fun h' hh' ρ' st' tk so hO h14=>?_) (fun hh'=>by rw[hh]at hh';cases hh')
  all_goals first|rfl|skip
  rw[hh]at hh'
  cases hh'
  rw[List.nil_append]at hO h14
  rw[←aa h14]
  repeat' (first
 |(refine al ?_;first
 |refine mB ?_
 |refine mS ?_
 |refine Hd ?_)
 |refine He ?_
 |refine Ir ?_
 |refine an ?_)
  exact CL (us:=[.bool true]) (.inr rfl) rfl rfl hO rfl rfl
 ·cases hw
set_option maxHeartbeats 8000000 in
theorem BI (ns:List Int) (hnl:ns.length≤1000000) (t:Tok) (s:Nat) (hs:s=1∨ns=[]) (p q0:Nat) (v0 v4 v5 v6 v7 v10 v18 v20:D):∀(post pre:List Int),ns=pre++post→pre.Nodup→∀(kv:List (Int×D)),KVC kv (mZ pre)→∀(ρ:Nat→D) (st:Store) (z:List D),st.lim≤0→p≠q0→st.boxes p=some (.map kv)→st.boxes q0=some (.cells z)→z.length=2→
  ρ 0=v0→ρ 4=v4→ρ 5=v5→ρ 6=v6→ρ 7=v7→ρ 10=v10→ρ 18=v18→ρ 20=v20→ρ 16=.ptr q0 0→ρ 22=.map p→ρ 50=.slice t s (ns.map (D.int .i64))→ρ 51=.int .i64 ns.length→ρ 52=.int .i64 pre.length→∀(Q:X→(Nat→D)→Store→Prop),
  (ns.Nodup→∀ρ' st',st'.lim=st.lim→st'.next=st.next→st'.tlim=st.tlim→st'.toks=st.toks→st'.ntok=st.ntok→(∀q,q≠p→st'.boxes q=st.boxes q)→ρ' 0=v0→ρ' 4=v4→ρ' 5=v5→ρ' 6=v6→ρ' 7=v7→ρ' 10=v10→ρ' 18=v18→ρ' 20=v20→ρ' 16=.ptr q0 0→Q (.exit 0) ρ' st')→(¬ns.Nodup→∀ρ' st',st'.lim=st.lim→st'.boxes q0=some (.cells [.slice .isnil 0 [],.int .i64 0])→ρ' 16=.ptr q0 0→ρ' 17=.bool false→Q .ret ρ' st')→WC Γ2 (.loop gZ) ρ st Q:=by
 intro post
 induction post with
 |nil=>
  intro pre hpp hpn kv hk ρ st z hlim hpq hb hb0 hz2 h0 h4 h5 h6 h7 h10 h18 h20 h16 h22 h50 h51 h52 Q hQ hQ2
  rw[List.append_nil]at hpp
  subst hpp
  rw[←aa h0,←aa h4,←aa h5,←aa h6,←aa h7,←aa h10,←aa h18,←aa h20,←aa h16,←aa h22,←aa h50,←aa h51,←aa h52]
  refine Hh ?_
  repeat' (first
 |(refine al ?_;first
 |refine lF ?_
 |refine Hd ?_)
 |refine He ?_
 |refine Ir ?_
 |refine ah rfl ?_
 |refine Hi ?_)
  exact hQ hpn _ _ rfl rfl rfl rfl rfl (fun _ _=>rfl) rfl rfl rfl rfl rfl rfl rfl rfl rfl
 |cons x post ih=>
  intro pre hpp hpn kv hk ρ st z hlim hpq hb hb0 hz2 h0 h4 h5 h6 h7 h10 h18 h20 h16 h22 h50 h51 h52 Q hQ hQ2
  have hv:=pZ hpp
  have hlen:ns.length=pre.length+(post.length+1):=by rw[hpp];simp
  have hz:s=1:=hs.resolve_right (by rintro rfl;simp at hlen)
  subst hz
  have hpl:pre.length<(ns.map (D.int .i64)).length:=by simp;omega
  have hltl:(pre.length:Int)<ns.length:=by omega
  have hl0:st.lim≤q0:=by omega
  have hlp:st.lim≤p:=by omega
  obtain⟨z0,z1,rfl⟩:∃a b,z=[a,b]:=by
   match z,hz2 with
   |[a,b],_=>exact⟨a,b,rfl⟩
  by_cases hx:x∈pre
  ·have hg:(aZ x kv).getD (.bool false)=.bool true:=by rw[hk x];simp[mZ,hx]
   have hbad:¬ns.Nodup:=fun h=>by
    rw[hpp]at h
    exact(List.nodup_append.1 h).2.2 x hx x List.mem_cons_self rfl
   have hQ2:=hQ2 hbad
   clear ih hQ hpp hbad
   rw[←aa h0,←aa h4,←aa h5,←aa h6,←aa h7,←aa h10,←aa h18,←aa h20,←aa h16,←aa h22,←aa h50,←aa h51,←aa h52]
   refine Hh ?_
   repeat' (first
 |(refine al ?_;first
 |refine iA (pre.length) hpl ?_
 |refine kc rfl rfl rfl hb hg rfl ?_
 |refine am (cs':=[_,_]) rfl rfl hb0 rfl hl0 rfl rfl rfl ?_
 |refine mI ?_
 |refine mB ?_
 |refine mM ?_
 |refine lT ?_
 |refine lE (d:=.int _ _) hv ?_
 |refine bJ (cs:=[_,_]) rfl rfl rfl ?_
 |refine Hd ?_)
 |refine He ?_
 |refine Ir ?_
 |refine Hg ?_
 |refine aj rfl ?_
 |refine Hf ?_
 |refine an ?_)
   refine hQ2 _ _ ?_ ?_ ?_ ?_
   ·rfl
   ·exact ae _ _ _
   all_goals rfl
  ·have hg:(aZ x kv).getD (.bool false)=.bool false:=by rw[hk x];simp[mZ,hx]
   have hpn2:(pre++[x]).Nodup:=by
    rw[List.nodup_append]
    exact⟨hpn,by simp,fun a ha b hb e=>hx (by rw[List.mem_singleton.1 hb]at e;rw[←e];exact ha)⟩
   have hnext:∀(ρ':Nat→D) (st':Store),st'.lim=st.lim→st'.next=st.next→st'.tlim=st.tlim→st'.toks=st.toks→st'.ntok=st.ntok→(∀q,q≠p→st'.boxes q=st.boxes q)→st'.boxes p=some (.map (cJ x (.bool true) kv))→ρ' 0=v0→ρ' 4=v4→ρ' 5=v5→ρ' 6=v6→ρ' 7=v7→ρ' 10=v10→ρ' 18=v18→ρ' 20=v20→ρ' 16=.ptr q0 0→ρ' 22=.map p→ρ' 50=.slice t 1 (ns.map (D.int .i64))→ρ' 51=.int .i64 ns.length→ρ' 52=.int .i64 ((pre.length:Int)+1)→WC Γ2 (.loop gZ) ρ' st' Q:=fun ρ' st' e1 e2 e3 e4 e5 e7 e6 k0 k4 k5 k6 k7 k10 k18 k20 k16 k22 k50 k51 k52=>
    ih (pre++[x]) (by simp[hpp]) hpn2 _ (hk.set x) ρ' st' [z0,z1] (by omega) hpq e6 ((e7 q0 (Ne.symm hpq)).trans hb0) rfl k0 k4 k5 k6 k7 k10 k18 k20 k16 k22 k50 k51 (by rw[List.length_append];exact k52) Q
     (fun h ρ'' st'' f1 f2 f3 f4 f5 f6=>hQ h ρ'' st'' (f1.trans e1) (f2.trans e2) (f3.trans e3) (f4.trans e4) (f5.trans e5) (fun q hq=>(f6 q hq).trans (e7 q hq))) (fun h ρ'' st'' f1=>hQ2 h ρ'' st'' (f1.trans e1))
   clear ih hQ hQ2 hpp
   rw[←aa h0,←aa h4,←aa h5,←aa h6,←aa h7,←aa h10,←aa h18,←aa h20,←aa h16,←aa h22,←aa h50,←aa h51,←aa h52]
   refine Hh ?_
   repeat' (first
 |(refine al ?_;first
 |refine iA (pre.length) hpl ?_
 |refine kc rfl rfl rfl hb hg rfl ?_
 |refine eM (v:=.bool true) rfl rfl rfl hb hlp rfl rfl ?_
 |refine mI ?_
 |refine mM ?_
 |refine lT ?_
 |refine aD ?_
 |refine lE (d:=.int _ _) hv ?_
 |refine Hd ?_)
 |refine He ?_
 |refine Ir ?_
 |refine Hg ?_
 |refine aj rfl ?_
 |refine ah rfl ?_
 |refine Hf ?_)
   refine hnext _ _ rfl rfl rfl rfl rfl (fun q hq=>ab _ _ hq) (ae _ _ _) ?_ ?_ ?_ ?_ ?_ ?_ ?_ ?_ ?_ ?_ ?_ ?_ ?_<;>rfl
set_option maxHeartbeats 8000000 in
theorem Fq (hs:List Hp) (hll:hs.length≤1000000) (now:Int) (t:Tok) (s:Nat) (hsz:s=3∨hs=[]) (v0 v4 v6 v7 v10 v16 v18 v20 v25:D):∀(post pre:List Hp),hs=pre++post→∀(ρ:Nat→D) (st:Store),st.lim≤0→
  ρ 0=v0→ρ 4=v4→ρ 6=v6→ρ 7=v7→ρ 10=v10→ρ 16=v16→ρ 18=v18→ρ 20=v20→ρ 25=v25→ρ 5=.int .i64 (gf now pre)→ρ 69=.slice t s (hs.map Hp.e)→ρ 70=.int .i64 hs.length→ρ 71=.int .i64 pre.length→∀(Q:X→(Nat→D)→Store→Prop),
  (∀ρ' st',st'.lim=st.lim→st.next≤st'.next→st'.tlim=st.tlim→st'.toks=st.toks→st'.ntok=st.ntok→(∀q,q<st.next→st'.boxes q=st.boxes q)→ρ' 0=v0→ρ' 4=v4→ρ' 6=v6→ρ' 7=v7→ρ' 10=v10→ρ' 16=v16→ρ' 18=v18→ρ' 20=v20→ρ' 25=v25→ρ' 5=.int .i64 (gf now hs)→Q (.exit 2) ρ' st')→WC Γ2 (.loop ia) ρ st Q:=by
 intro post
 induction post with
 |nil=>
  intro pre hpp ρ st hlim h0 h4 h6 h7 h10 h16 h18 h20 h25 h5 h69 h70 h71 Q hQ
  rw[List.append_nil]at hpp
  subst hpp
  rw[←aa h0,←aa h4,←aa h6,←aa h7,←aa h10,←aa h16,←aa h18,←aa h20,←aa h25,←aa h5,←aa h69,←aa h70,←aa h71]
  refine Hh ?_
  repeat' (first
 |(refine al ?_;first
 |refine lF ?_
 |refine Hd ?_)
 |refine He ?_
 |refine Ir ?_
 |refine ah rfl ?_
 |refine Hi ?_)
  refine hQ _ _ rfl (Nat.le_refl _) rfl rfl rfl (fun _ _=>rfl) ?_ ?_ ?_ ?_ ?_ ?_ ?_ ?_ ?_ ?_<;>rfl
 |cons x post ih=>
  intro pre hpp ρ st hlim h0 h4 h6 h7 h10 h16 h18 h20 h25 h5 h69 h70 h71 Q hQ
  have hv:=xP hpp
  have hlen:hs.length=pre.length+(post.length+1):=by rw[hpp];simp
  have hz:s=3:=hsz.resolve_right (by rintro rfl;simp at hlen)
  subst hz
  have hpl:pre.length<(hs.map Hp.e).length:=by simp;omega
  have hltl:(pre.length:Int)<hs.length:=by omega
  have hlim2:st.lim≤st.next:=by omega
  have hla:gf now (pre++[x])=x.ar:=by simp[gf]
  have hnext:∀(ρ':Nat→D) (st':Store),st'.lim=st.lim→st.next≤st'.next→st'.tlim=st.tlim→st'.toks=st.toks→st'.ntok=st.ntok→(∀q,q<st.next→st'.boxes q=st.boxes q)→ρ' 0=v0→ρ' 4=v4→ρ' 6=v6→ρ' 7=v7→ρ' 10=v10→ρ' 16=v16→ρ' 18=v18→ρ' 20=v20→ρ' 25=v25→ρ' 5=.int .i64 x.ar→ρ' 69=.slice t 3 (hs.map Hp.e)→ρ' 70=.int .i64 hs.length→ρ' 71=.int .i64 ((pre.length:Int)+1)→WC Γ2 (.loop ia) ρ' st' Q:=fun ρ' st' e1 e2 e3 e4 e5 e6 k0 k4 k6 k7 k10 k16 k18 k20 k25 k5 k69 k70 k71=>
   ih (pre++[x]) (by simp[hpp]) ρ' st' (by omega) k0 k4 k6 k7 k10 k16 k18 k20 k25 (by rw[hla];exact k5) k69 k70 (by rw[List.length_append];exact k71) Q
    (fun ρ'' st'' f1 f2 f3 f4 f5 f6=>hQ ρ'' st'' (f1.trans e1) (Nat.le_trans e2 f2) (f3.trans e3) (f4.trans e4) (f5.trans e5) (fun q hq=>(f6 q (Nat.lt_of_lt_of_le hq e2)).trans (e6 q hq)))
  clear ih hQ hpp
  rw[←aa h0,←aa h4,←aa h6,←aa h7,←aa h10,←aa h16,←aa h18,←aa h20,←aa h25,←aa h5,←aa h69,←aa h70,←aa h71]
  refine Hh ?_
  repeat' (first
 |(refine al ?_;first
 |refine iA (pre.length) hpl ?_
 |refine am (cs':=[_,_,_]) rfl rfl (ae _ _ _) rfl hlim2 rfl rfl rfl ?_
 |refine mI ?_
 |refine lT ?_
 |refine aD ?_
 |refine lE (d:=.agg [_,_,_]) hv ?_
 |refine ai (agg:=false) (d:=.int _ _) rfl rfl rfl (aY rfl) hlim2 rfl ?_
 |refine fD ?_
 |refine av rfl rfl ?_
 |refine Hd ?_)
 |refine He ?_
 |refine Ir ?_
 |refine Hg ?_
 |refine aj rfl ?_
 |refine Hf ?_)
  refine hnext _ _ rfl (Nat.le_succ _) rfl rfl rfl (fun q hq=>(ab _ _ (Nat.ne_of_lt hq)).trans (ab _ _ (Nat.ne_of_lt hq))) ?_ ?_ ?_ ?_ ?_ ?_ ?_ ?_ ?_ ?_ ?_ ?_ ?_<;>rfl
theorem uz (st:Store) (qa qb:Nat) (t:Tok) (s:Nat):EvRO Γ2 70 [.slice t s [],.func 50 [.ptr qa 0,.ptr qb 0]] st (.int .i64 (-1)):=by
 have hz0:([]:List D).length=0:=rfl
 refine dg rfl rfl rfl ?_
 repeat' (first
 |(refine al ?_;first
 |refine mI ?_
 |refine mS ?_
 |refine lF ?_
 |refine cn rfl rfl rfl ?_
 |refine Hd ?_)
 |refine Hh ?_
 |refine He ?_
 |refine Ir ?_
 |refine ah rfl ?_
 |refine Hf ?_
 |refine Hi ?_
 |refine an ?_)
 exact⟨.inr rfl,rfl⟩
theorem rA (st:Store) (qa qb:Nat):EvRWX Γ2 51 [.slice .no 8 [],.func 50 [.ptr qa 0,.ptr qb 0]] st (fun r _=>gz r=true∧r=.slice .no 8 []):=by
 refine aR rfl rfl ?_
 repeat' (first
 |(refine al ?_;first
 |refine mI ?_
 |refine mS ?_
 |refine aB (v:=.func _ _) rfl rfl rfl ?_
 |refine cb rfl rfl rfl rfl (by omega) ?_
 |refine dM rfl rfl rfl (uz _ _ _ _ _) rfl rfl ?_
 |refine Hd ?_)
 |refine He ?_
 |refine Ir ?_
 |refine aj rfl ?_
 |refine an ?_)
 exact⟨.inr rfl,_,rfl,rfl,rfl⟩
end Go.Bes
/-
  The best way on, as the code finds it.
-/
namespace Go.Bes
open Go.Ev
set_option maxHeartbeats 16000000 in
theorem y8 (l:List Eg) (hll:l.length≤900) (root bans:List Int) (hrl:root.length≤1000) (hbl:bans.length≤1000000) (fr to now sz by':Int) (es0:List Eg) (m u:Int) (ha:bV l fr now sz) (hid:es0.map Eg.id=root) (hw:Way sz l fr now es0 m u) (hnd:(aL fr es0).Nodup) (hs1:List Hp) (hl1:hs1.length≤1000) (a:Int) (ok:Bool)
  (hB:∀t s t' s',(s=8∨jK l bans m=[])→s'=1→EvX Γ2 14 [.slice t s ((jK l bans m).map Eg.e),.int .i64 m,.int .i64 to,.int .i64 u,.int .i64 sz,.int .i64 by',.slice t' s' ((aL fr es0).map (D.int .i64))] (fun r=>∃t5 s5,(s5=3∨hs1=[])∧r=.tuple [.agg [.slice t5 s5 (hs1.map Hp.e),.int .i64 a],.bool ok]))
  (t t' tb:Tok) (s s' sb:Nat) (hs:s=8∨l=[]) (hs':s'=1∨root=[]) (hsb:sb=1∨bans=[]):
  EvX Γ2 30 [.slice t s (l.map Eg.e),.slice t' s' (root.map (D.int .i64)),.slice tb sb (bans.map (D.int .i64)),.int .i64 fr,.int .i64 to,.int .i64 now,.int .i64 sz,.int .i64 by'] (fun r=>if ok=true then BJ Hp.e 3 (aN sz es0 now++hs1) [.int .i64 a] [.bool true] r else r=.tuple [.agg [.slice .isnil 0 [],.int .i64 0],.bool false]):=by
 have hst:bG l root fr=some es0:=by rw[←hid];exact ep ha.2.2.2 hw.chain
 have hW:=fun t t'=>(yj l (by omega) root (by omega) fr now sz (aN sz es0 now) (kr.2 ⟨ha,es0,m,u,hst,hid,hw,rfl⟩) t s hs t' s' hs').grow ly
 have ha0:bV l fr 0 0:=⟨ha.1,by omega,by omega,ha.2.2.2⟩
 have hE:=fun t t'=>(pr l (by omega) root (by omega) fr ha0 es0 hst t s hs t' s' hs').grow ly
 have hend:=gv hw.chain
 have hla:gf now (aN sz es0 now)=u:=hw.hops.2
 have hhl:=cr sz es0 now
 have hel:es0.length=root.length:=by rw[←hid];simp
 have hnn:aL fr es0=fr::es0.map Eg.to:=rfl
 rw[←hnn]at hE
 have hnl2:(aL fr es0).length=es0.length+1:=by simp[aL]
 have hne:aL fr es0≠[]:=by simp[aL]
 refine bR rfl rfl ?_
 clear hnn
 generalize aL fr es0=ns at*
 generalize aN sz es0 now=hs0 at*
 have hj:ns.length - 1<(ns.map (D.int .i64)).length:=by rw[List.length_map];exact yw hne
 have hsub:IntKind.i64.wrap ((ns.length:Int) - 1)=((ns.length - 1:Nat):Int):=by rw[ea (by omega)];omega
 clear hst hid ha0 hw ha
 repeat' (first
 |(refine al ?_;first
 |refine mI ?_
 |refine mB ?_
 |refine mS ?_
 |refine mT ?_
 |(refine u7 rfl rfl rfl (hW _ _) (Nat.le_refl _) rfl ?_;intro tm sm st1 c1 c2 c3 c4 c5 c6 hO)
 |refine eB ?_
 |refine eS ?_
 |refine uv (v:=.slice _ _ _) rfl rfl rfl rfl rfl ?_
 |refine av rfl rfl ?_
 |refine Hd ?_)
 |refine He ?_
 |refine Ir ?_)
 repeat' (first
 |(refine al ?_;first
 |refine mI ?_
 |refine mB ?_
 |refine mS ?_
 |refine mT ?_
 |refine mM ?_
 |(refine pY rfl rfl rfl (hE _ _) rfl ?_;intro tn sn st2 hsn d1 d2 d3 d4 d5 d6)
 |refine eB ?_
 |refine eS ?_
 |refine nT ?_
 |refine lN ?_
 |refine gI rfl rfl ?_
 |refine Hd ?_)
 |refine He ?_
 |refine Ir ?_
 |refine Hg ?_
 |refine ah rfl ?_
 |refine Hf ?_)
 have hO2:=hO.of d6 d5 d4
 have b0:st2.boxes 0=some (.cells [.slice tb sb (bans.map (D.int .i64))]):=by rw[d1,c1];rfl
 have b1:st2.boxes 1=some (.cells [.slice .isnil 0 [],.int .i64 0]):=by rw[d1,c1];rfl
 have n2:st2.next=2:=d2.trans c2
 have l2:st2.lim=0:=d3.trans c3
 have tl2:st2.tlim≤st2.ntok:=Nat.le_trans (by rw[d4,c4];exact Nat.zero_le _) (Nat.le_refl _)
 clear hO c1 c2 c3 c4 c5 c6 d1 d2 d3 d4 d5 d6 hW hE
 have hsn1:sn=1:=jB hsn (by omega)
 subst hsn1
 have hhad:=fun ρ st=>BI ns (by omega) tn 1 (.inl rfl) st2.next 1 (.slice t s (l.map Eg.e)) (.int .i64 to) (.int .i64 now) (.int .i64 sz) (.int .i64 by') (.ptr 0 0) (.slice tm sm (hs0.map Hp.e)) (.slice tn 1 (ns.map (D.int .i64))) ns [] rfl List.nodup_nil [] (fun n=>rfl) ρ st [.slice .isnil 0 [],.int .i64 0]
 skip
 refine hhad _ _ ?_ (by omega) (ae _ _ _) ((ab _ _ (by omega)).trans b1) rfl rfl rfl rfl rfl rfl rfl rfl rfl rfl rfl rfl rfl rfl _ (fun _ ρ3 st3 e1 e2 e3 e4 e5 e6 k0 k4 k5 k6 k7 k10 k18 k20 k16=>?_) (fun h=>absurd hnd h)
 ·show st2.lim≤0
  omega
 have b30:st3.boxes 0=some (.cells [.slice tb sb (bans.map (D.int .i64))]):=(e6 0 (by omega)).trans ((ab _ _ (by omega)).trans b0)
 have b31:st3.boxes 1=some (.cells [.slice .isnil 0 [],.int .i64 0]):=(e6 1 (by omega)).trans ((ab _ _ (by omega)).trans b1)
 have n3:st3.next=3:=e2.trans (by show st2.next+1=3;omega)
 have l3:st3.lim=0:=e1.trans l2
 have e3':st3.tlim=st2.tlim:=e3
 have e4':st3.toks=st2.toks:=e4
 have e5':st3.ntok=st2.ntok:=e5
 have hO3:AppK st3 3 tm sm (hs0.map Hp.e):=hO2.of (fun k _=>by rw[e4']) (by rw[e5'];exact Nat.le_refl _) e3'
 have tl3:st3.tlim≤st3.ntok:=by rw[e3',e5'];exact tl2
 have hll3:st3.lim≤st3.next:=by omega
 clear e1 e2 e3 e4 e5 e6 e3' e4' e5' b0 b1 hO2 n2 l2 tl2 hhad
 rw[←aa k0,←aa k4,←aa k5,←aa k6,←aa k7,←aa k10,←aa k18,←aa k20,←aa k16]
 repeat' (first
 |(refine al ?_;first
 |refine lN ?_
 |refine aS (s:=((ns.length - 1:Nat):Int)) (hs:=hsub) ?_
 |refine iA (ns.length - 1) hj ?_
 |refine am (cs':=[_]) rfl rfl (ae _ _ _) rfl hll3 rfl rfl rfl ?_
 |refine mI ?_
 |refine mS ?_
 |refine lE (d:=.int _ _) hend ?_
 |refine av rfl rfl ?_
 |refine Hd ?_)
 |refine He ?_
 |refine Ir ?_
 |refine Hf ?_)
 refine Fq hs0 (by omega) now tm sm hO3.sz (.slice t s (l.map Eg.e)) (.int .i64 to) (.int .i64 sz) (.int .i64 by') (.ptr 0 0) (.ptr 1 0) (.slice tm sm (hs0.map Hp.e)) (.slice tn 1 (ns.map (D.int .i64))) (.ptr st3.next 0) hs0 [] rfl _ _ (by show st3.lim≤0;omega) rfl rfl rfl rfl rfl rfl rfl rfl rfl rfl rfl rfl rfl _ (fun ρ4 st4 e1 e2 e3 e4 e5 e6 k0 k4 k6 k7 k10 k16 k18 k20 k25 k5=>?_)
 have e2':st3.next+1≤st4.next:=e2
 have b4a:st4.boxes st3.next=some (.cells [.int .i64 m]):=(e6 _ (Nat.lt_succ_self _)).trans (ae _ _ _)
 have b40:st4.boxes 0=some (.cells [.slice tb sb (bans.map (D.int .i64))]):=(e6 0 (Nat.succ_pos _)).trans ((ab _ _ (by omega)).trans ((ab _ _ (by omega)).trans b30))
 have b41:st4.boxes 1=some (.cells [.slice .isnil 0 [],.int .i64 0]):=(e6 1 (by show 1<st3.next+1;omega)).trans ((ab _ _ (by omega)).trans ((ab _ _ (by omega)).trans b31))
 have l4:st4.lim=0:=e1.trans l3
 have e3':st4.tlim=st3.tlim:=e3
 have e4':st4.toks=st3.toks:=e4
 have e5':st4.ntok=st3.ntok:=e5
 have hO4:AppK st4 3 tm sm (hs0.map Hp.e):=hO3.of (fun k _=>by rw[e4']) (by rw[e5'];exact Nat.le_refl _) e3'
 have tl4:st4.tlim≤st4.ntok:=by rw[e3',e5'];exact tl3
 rw[hla]at k5
 have n4:4≤st4.next:=by omega
 rw[n3]at b4a k25
 clear e1 e2 e3 e4 e5 e6 e2' e3' e4' e5' b30 b31 hO3 n3 l3 tl3 hll3 hj hend hsub
 rw[←aa k0,←aa k4,←aa k5,←aa k6,←aa k7,←aa k10,←aa k16,←aa k18,←aa k20,←aa k25]
 repeat' (first
 |(refine al ?_;first
 |refine aB (v:=.func 50 [.ptr 3 0,.ptr 0 0]) rfl rfl rfl ?_
 |refine B0 rfl rfl rfl ?_
 |refine Hd ?_)
 |refine He ?_
 |refine Ir ?_)
 have hB1:=fun t s h=>hB t s tn.strip 1 h rfl
 refine yd (Q':=fun x ρ' st'=>x=.normal∧∃t5 s5 q9,(s5=3∨hs1=[])∧q9≠1∧ρ' 16=.ptr 1 0∧ρ' 18=.slice tm sm (hs0.map Hp.e)∧ρ' 29=.ptr q9 0∧ρ' 19=.bool ok∧st'.boxes 1=some (.cells [.slice .isnil 0 [],.int .i64 0])∧st'.boxes q9=some (.cells [.slice t5 s5 (hs1.map Hp.e),.int .i64 a])∧st'.lim=0∧AppK st' 3 tm sm (hs0.map Hp.e)∧st'.tlim≤st'.ntok) ?_ ?_
 ·refine HC ?_
  simp only[o3,o4,o5,m3,s_,gM,gw,Store.ahead,jc,kS,Nat.add_assoc,Nat.reduceAdd,List.length_cons,List.length_nil]
  generalize hN:st4.next=N at*
  have hlimN:st4.lim≤N+17:=by omega
  have hlim0:st4.lim≤3:=by omega
  have hlim14:st4.lim≤N+14:=by omega
  have hN4:4≤N:=n4
  have c3:∀{x:Option Box},ap st4.boxes (N+14) x 3=some (.cells [.int .i64 m]):=fun{x}=>(ab _ _ (by omega)).trans b4a
  have c0:∀{x:Option Box},ap st4.boxes (N+14) x 0=some (.cells [.slice tb sb (bans.map (D.int .i64))]):=fun{x}=>(ab _ _ (by omega)).trans b40
  have c1:∀{x:Option Box},ap st4.boxes (N+14) x 1=some (.cells [.slice .isnil 0 [],.int .i64 0]):=fun{x}=>(ab _ _ (by omega)).trans b41
  have c3b:∀{x:Option Box},(ap st4.boxes (N+14) x 3).bind Box.cs=some [.int .i64 m]:=fun{x}=>by rw[c3];rfl
  have f1:(N+17==3)=false:=by simp
  have f2:(3==N+17)=false:=by simp
  have f3:(N+14==3)=false:=by simp
  have f4:(3==N+14)=false:=by simp
  have f5:(0==N+14)=false:=by simp
  have f6:(N+14==0)=false:=by simp
  have f7:(decide (3<N))=true:=by simp;omega
  have f8:(decide (0<N))=true:=by simp;omega
  by_cases hl0:l=[]
  ·subst hl0
   have hcl:∀t,EvP Γ2 52 [.slice t s []] (.slice .no 8 []):=fun t=>gV (F:=gk 8 64) rfl rfl
   have hD:=rA (lx {st4 with boxes:=ap st4.boxes (N+14) (some (.cells [.slice .isnil 0 [],.int .i64 0])),next:=N+17} 0 [3,0]) 3 0
   have hB6:EvX Γ2 14 [.slice .no 8 [],.int .i64 m,.int .i64 to,.int .i64 u,.int .i64 sz,.int .i64 by',.slice tn.strip 1 (ns.map (D.int .i64))] (fun r=>(r.free=true∧dS r=false)∧(fun r=>∃t5 s5,(s5=3∨hs1=[])∧r=.tuple [.agg [.slice t5 s5 (hs1.map Hp.e),.int .i64 a],.bool ok]) (if aF r then r.strip else r)):=(hB1 .no 8 (.inl rfl)).mono (fun r h=>by
    obtain⟨t5,s5,h5,rfl⟩:=h
    refine⟨⟨rfl,rfl⟩,?_⟩
    split
    ·exact⟨t5.strip,s5,h5,rfl⟩
    ·exact⟨t5,s5,h5,rfl⟩)
   repeat' (first
 |(refine al ?_;first
 |refine am (cs':=[_,_]) rfl rfl (ae _ _ _) rfl hlim14 rfl rfl rfl ?_
 |refine mI ?_
 |refine mB ?_
 |refine mS ?_
 |refine mP ?_
 |refine aB (v:=.func _ _) rfl rfl rfl ?_
 |refine mT ?_
 |refine ai (agg:=false) (d:=.int _ _) rfl rfl rfl (c3b (x:=some (.cells [.slice .isnil 0 [],.int .i64 0]))) hlim0 rfl ?_
 |refine s9 rfl rfl rfl (hcl _) rfl rfl rfl ?_
 |(refine Ax (p:=0) (ps:=[3,0]) rfl rfl rfl rfl rfl rfl hD ?_<;>intro r6 hp6<;>subst hp6)
 |(refine vN (P:=fun r=>∃t5 s5,(s5=3∨hs1=[])∧r=.tuple [.agg [.slice t5 s5 (hs1.map Hp.e),.int .i64 a],.bool ok]) rfl rfl rfl rfl hB6 ?_<;>intro r7 hp7<;>obtain⟨t5,s5,hs5,rfl⟩:=hp7)
 |refine eB ?_
 |refine eA ?_
 |refine Hd ?_))
   have hq9:N+14≠1:=by clear hB hB1 hB6;omega
   refine⟨?_,by first|trivial|rfl,t5,s5,N+14,hs5,hq9,?_,?_,?_,?_,?_,?_,l4,hO4,tl4⟩
   rotate_left
   ·rfl
   ·rfl
   ·rfl
   ·rfl
   ·have e:∀x y:Option Box,ap (ap st4.boxes (N+14) x) (N+14) y 1=some (.cells [.slice .isnil 0 [],.int .i64 0]):=fun x y=>by rw[ab _ _ (Ne.symm hq9),ab _ _ (Ne.symm hq9)];exact b41
    exact e (some (.cells [.slice .isnil 0 [],.int .i64 0])) (some (.cells [.slice t5 s5 (hs1.map Hp.e),.int .i64 a]))
   ·exact ae _ _ _
   rw[Bool.and_eq_true]
   constructor
   ·simp[bB,List.range,List.range.loop,Fl.clash,f3,f4,f5,f6]
   ·simp[jI,rG,List.range,List.range.loop,f7,f8]
  ·have hs8:s=8:=hs.resolve_right hl0
   have hel:∀a:Eg,eb 8 a.e∧(match a.e.cells with|[c]=>(match a.e with| .agg _=>false|_=>true)|_=>(match a.e with| .agg _=>true|_=>false))=true:=fun a=>⟨⟨rfl,rfl⟩,rfl⟩
   have hel1:∀a:Eg,eb 8 a.e:=fun a=>(hel a).1
   have hmk:∀a:Eg,a.e.cells.length=8∧sy a.e.cells=a.e:=fun a=>⟨rfl,rfl⟩
   have hcl:∀t,EvX Γ2 52 [.slice t s (l.map Eg.e)] (fun r=>r=.slice .row 8 (l.map Eg.e)):=fun t=>(yY (Γ:=Γ2) (f:=52) (bytes:=64) rfl l (.inl hs8) (by omega) hel).mono (fun r h=>by
    rcases h with⟨h,_⟩|h
    ·exact absurd h hl0
    ·exact h)
   repeat' (first
 |(refine al ?_;first
 |refine mS ?_
 |refine aB (v:=.func _ _) rfl rfl rfl ?_
 |(refine AZ rfl rfl rfl (hcl _) rfl hel1 hlimN ?_<;>intro st5 p1 p2 p3 p4 hR5 p5 p6)))
   have l5:st5.lim=0:=p1.trans l4
   have n5:st5.next=N+17+1:=p6
   have b53:st5.boxes 3=some (.cells [.int .i64 m]):=(p5 3 (by show 3≠N+17;omega)).trans (c3 (x:=some (.cells [.slice .isnil 0 [],.int .i64 0])))
   have b50:st5.boxes 0=some (.cells [.slice tb sb (bans.map (D.int .i64))]):=(p5 0 (by show 0≠N+17;omega)).trans (c0 (x:=some (.cells [.slice .isnil 0 [],.int .i64 0])))
   have b51:st5.boxes 1=some (.cells [.slice .isnil 0 [],.int .i64 0]):=(p5 1 (by show 1≠N+17;omega)).trans (c1 (x:=some (.cells [.slice .isnil 0 [],.int .i64 0])))
   have b59:st5.boxes (N+14)=some (.cells [.slice .isnil 0 [],.int .i64 0]):=(p5 (N+14) (by show N+14≠N+17;omega)).trans (ae _ _ _)
   have hR5:RowIs st5 (N+17) 8 (l.map Eg.e):=hR5
   have hO5:AppK st5 3 tm sm (hs0.map Hp.e):=hO4.of (fun k _=>by rw[p3]) (by rw[p4];exact Nat.le_refl _) p2
   have tl5:st5.tlim≤st5.ntok:=by rw[p2,p4];exact tl4
   clear p1 p2 p3 p4 p5 p6 hcl hO4 tl4
   obtain⟨cs5,hb5⟩:∃cs5,st5.boxes (N+17)=some (.row cs5):=by
    obtain⟨_,_,cs,h,_⟩:=hR5
    exact⟨cs,h⟩
   have hok:jh st5 (N+17) [3,0]=true:=AU (cs:=cs5) (by omega) (by omega) hb5 (fun p hp=>by
    simp only[List.mem_cons,List.not_mem_nil,or_false]at hp
    rcases hp with rfl|rfl
    ·exact⟨by omega,_,b53⟩
    ·exact⟨by omega,_,b50⟩)
   have hRc:RowIs (jO st5 (N+17) [3,0]) (N+17) 8 (l.map Eg.e):=by
    obtain⟨h1,h2,cs,h3,h4⟩:=hR5
    exact⟨Nat.le_refl _,h2,cs,(ju (.inl rfl)).trans h3,h4⟩
   have hBan:BanB (jO st5 (N+17) [3,0]) 3 0 m tb sb bans:=⟨by rw[ju (.inr (by simp)),b53];rfl,by rw[ju (.inr (by simp)),b50];rfl⟩
   have hD:=(uO m bans (by omega) 3 0 tb sb hsb l (by omega) (jO st5 (N+17) [3,0]) (N+17) ⟨by omega,by omega⟩ hBan ⟨by show 3<st5.next;omega,by show 0<st5.next;omega⟩ hRc).mono (P':=fun r C1=>oc r (N+17)=true∧(r=.rs (N+17) 0 8 (b8 m bans l).length l.length∧RowIs C1 (N+17) 8 ((b8 m bans l).map Eg.e))) (fun r s h=>⟨by rw[h.1];simp[oc],h.1,h.2.1⟩)
   clear hRc hBan
   repeat' (first
 |(refine al ?_;first
 |(refine zq (p:=N+17) (ps:=[3,0]) rfl rfl rfl rfl rfl rfl hok hD ?_<;>intro r6 C1 hp6)))
   obtain⟨rfl,hRC⟩:=hp6
   have hR6:RowIs {st5 with boxes:=ap st5.boxes (N+17) (gRow (C1.boxes (N+17)))} (N+17) 8 ((b8 m bans l).map Eg.e):=hRC.gRow (fun d hd=>by
    obtain⟨e,_,rfl⟩:=List.mem_map.1 hd
    refine⟨rfl,fun c hc=>?_⟩
    simp only[Eg.e,D.cells,List.mem_cons,List.not_mem_nil,or_false]at hc
    rcases hc with rfl|rfl|rfl|rfl|rfl|rfl|rfl|rfl<;>rfl) (ae _ _ _) (by show st5.lim≤N+17;omega) (by show N+17<st5.next;omega)
   have b63:(ap st5.boxes (N+17) (gRow (C1.boxes (N+17))) 3).bind Box.cs=some [.int .i64 m]:=by rw[ab _ _ (by omega),b53];rfl
   have b69:ap (ap st5.boxes (N+17) (gRow (C1.boxes (N+17)))) (N+17) none (N+14)=some (.cells [.slice .isnil 0 [],.int .i64 0]):=(ab _ _ (by omega)).trans ((ab _ _ (by omega)).trans b59)
   have b61:∀z:Option Box,ap (ap (ap st5.boxes (N+17) (gRow (C1.boxes (N+17)))) (N+17) none) (N+14) z 1=some (.cells [.slice .isnil 0 [],.int .i64 0]):=fun z=>(ab _ _ (by omega)).trans ((ab _ _ (by omega)).trans ((ab _ _ (by omega)).trans b51))
   have l53:st5.lim≤3:=by omega
   have l514:st5.lim≤N+14:=by omega
   have hB6:EvX Γ2 14 [.slice .no 8 ((b8 m bans l).map Eg.e),.int .i64 m,.int .i64 to,.int .i64 u,.int .i64 sz,.int .i64 by',.slice tn.strip 1 (ns.map (D.int .i64))] (fun r=>(r.free=true∧dS r=false)∧(fun r=>∃t5 s5,(s5=3∨hs1=[])∧r=.tuple [.agg [.slice t5 s5 (hs1.map Hp.e),.int .i64 a],.bool ok]) r.strip):=(hB1 .no 8 (.inl rfl)).mono (fun r h=>by
    obtain⟨t5,s5,h5,rfl⟩:=h
    exact⟨⟨rfl,rfl⟩,t5.strip,s5,h5,rfl⟩)
   repeat' (first
 |(refine al ?_;first
 |refine am (cs':=[_,_]) rfl rfl b69 rfl l514 rfl rfl rfl ?_
 |refine mI ?_
 |refine mB ?_
 |refine mS ?_
 |refine mP ?_
 |refine mT ?_
 |refine ai (agg:=false) (d:=.int _ _) rfl rfl rfl b63 l53 rfl ?_
 |(refine BD (P:=fun r=>∃t5 s5,(s5=3∨hs1=[])∧r=.tuple [.agg [.slice t5 s5 (hs1.map Hp.e),.int .i64 a],.bool ok]) (xs:=b8 m bans l) (e:=Eg.e) rfl rfl rfl hR6 rfl (by decide) hmk rfl rfl rfl rfl rfl rfl hB6 ?_<;>intro r7 hp7<;>obtain⟨t5,s5,hs5,rfl⟩:=hp7)
 |refine eB ?_
 |refine eA ?_
 |refine Hd ?_))
   have hq9:N+14≠1:=by clear hB hB1 hB6;omega
   refine⟨?_,by first|trivial|rfl,t5,s5,N+14,hs5,hq9,rfl,rfl,rfl,rfl,b61 (some (.cells [.slice t5 s5 (hs1.map Hp.e),.int .i64 a])),ae _ _ _,l5,hO5,tl5⟩
   rw[Bool.and_eq_true]
   constructor
   ·simp[bB,List.range,List.range.loop,Fl.clash,f1,f2,f3,f4,f5,f6]
   ·simp[jI,rG,List.range,List.range.loop,f7,f8]
 ·rintro x ρ5 st5 ⟨rfl,t5,s5,q9,hs5,hq9,k16,k18,k29,k19,b51,b59,l5,hO5,tl5⟩
  have hbd:((hs0.map Hp.e).length+(hs1.map Hp.e).length)*24≤140737488355328:=by rw[List.length_map,List.length_map];omega
  have hs5':s5=3∨hs1.map Hp.e=[]:=hs5.imp id (fun h=>by rw[h];rfl)
  have hmap:hs0.map Hp.e++hs1.map Hp.e=(hs0++hs1).map Hp.e:=List.map_append.symm
  have l50:st5.lim≤1:=by omega
  have l59:st5.lim≤q9:=by omega
  have b59c:(st5.boxes q9).bind Box.cs=some [.slice t5 s5 (hs1.map Hp.e),.int .i64 a]:=by rw[b59];rfl
  rw[←aa k16,←aa k18,←aa k29,←aa k19]
  cases ok with
  |false=>
   repeat' (first
 |(refine al ?_;first
 |refine am (cs':=[_,_]) rfl rfl b51 rfl l50 rfl rfl rfl ?_
 |refine mB ?_
 |refine bJ (cs:=[_,_]) rfl rfl rfl ?_
 |refine nT ?_
 |refine Hd ?_)
 |refine He ?_
 |refine Ir ?_
 |refine aj rfl ?_
 |refine an ?_)
   refine⟨.inr rfl,_,(xw (i:=16) (j:=17) (q:=1) ?_ ?_ ?_ ?_).2,rfl⟩
   ·rfl
   ·rfl
   ·exact l50
   ·rfl
  |true=>
   repeat' (first
 |(refine al ?_;first
 |(refine oZ rfl rfl rfl hO5.ok hs5' hbd tl5 rfl ?_<;>intro k6 st6 g1 g2 g3 g4 g5 g6 g7<;>rw[hmap])
 |refine mB ?_
 |refine mS ?_
 |refine ai (agg:=false) (d:=.slice _ _ _) rfl rfl rfl b59c l59 rfl ?_
 |refine nT ?_
 |refine fD ?_
 |refine Hd ?_)
 |refine He ?_
 |refine Ir ?_
 |refine ay ?_
 |refine Hg ?_
 |refine ah rfl ?_)
   have b69c:(st6.boxes q9).bind Box.cs=some [.slice t5 s5 (hs1.map Hp.e),.int .i64 a]:=by rw[g1];exact b59c
   have b61:st6.boxes 1=some (.cells [.slice .isnil 0 [],.int .i64 0]):=by rw[g1];exact b51
   have l69:st6.lim≤q9:=by rw[g3];exact l59
   have l61:st6.lim≤1:=by rw[g3];exact l50
   repeat' (first
 |(refine al ?_;first
 |refine am (cs':=[_,_]) rfl rfl b61 rfl l61 rfl rfl rfl ?_
 |refine mB ?_
 |refine ai (agg:=false) (d:=.int _ _) rfl rfl rfl b69c l69 rfl ?_
 |refine bJ (cs:=[_,_]) rfl rfl rfl ?_
 |refine Hd ?_)
 |refine an ?_
 |refine au rfl ?_)
   have hfin:=fun ρ st h=>Dl (ρ:=ρ) (st:=st) (e:=Hp.e) (sz:=3) (xs:=hs0++hs1) (t:=.own k6) (cs:=[.int .i64 a]) (vs:=[.bool true]) (rs:=[.cell 16 true 2,.tmp 17]) (.inr rfl:X.ret=.normal∨X.ret=.ret) h rfl rfl rfl rfl rfl rfl
   refine⟨.inr rfl,?_⟩
   refine(hfin _ _ ?_).2
   refine yJ (q:=1) ?_ ?_ ?_ ?_
   ·rfl
   ·rfl
   ·exact l61
   ·rfl
end Go.Bes
/-
  The best way on: what the code finds.
-/
namespace Go.Bes
open Go.Ev
def yl:D:=.tuple [.agg [.slice .isnil 0 [],.int .i64 0],.bool false]
set_option maxHeartbeats 16000000 in
theorem CI (l:List Eg) (hll:l.length≤900) (root bans:List Int) (hrl:root.length≤1000) (fr to now sz by':Int) (es0:List Eg) (m u:Int) (ha:bV l fr now sz) (hid:es0.map Eg.id=root) (hw:Way sz l fr now es0 m u) (hnd:¬(aL fr es0).Nodup)
  (t t' tb:Tok) (s s' sb:Nat) (hs:s=8∨l=[]) (hs':s'=1∨root=[]) (hsb:sb=1∨bans=[]):
  EvX Γ2 30 [.slice t s (l.map Eg.e),.slice t' s' (root.map (D.int .i64)),.slice tb sb (bans.map (D.int .i64)),.int .i64 fr,.int .i64 to,.int .i64 now,.int .i64 sz,.int .i64 by'] (fun r=>r=yl):=by
 have hst:bG l root fr=some es0:=by rw[←hid];exact ep ha.2.2.2 hw.chain
 have hW:=fun t t'=>(yj l (by omega) root (by omega) fr now sz (aN sz es0 now) (kr.2 ⟨ha,es0,m,u,hst,hid,hw,rfl⟩) t s hs t' s' hs').grow ly
 have ha0:bV l fr 0 0:=⟨ha.1,by omega,by omega,ha.2.2.2⟩
 have hE:=fun t t'=>(pr l (by omega) root (by omega) fr ha0 es0 hst t s hs t' s' hs').grow ly
 have hend:=gv hw.chain
 have hla:gf now (aN sz es0 now)=u:=hw.hops.2
 have hhl:=cr sz es0 now
 have hel:es0.length=root.length:=by rw[←hid];simp
 have hnn:aL fr es0=fr::es0.map Eg.to:=rfl
 rw[←hnn]at hE
 have hnl2:(aL fr es0).length=es0.length+1:=by simp[aL]
 have hne:aL fr es0≠[]:=by simp[aL]
 refine bR rfl rfl ?_
 clear hnn
 generalize aL fr es0=ns at*
 generalize aN sz es0 now=hs0 at*
 clear hst hid ha0 hw ha
 repeat' (first
 |(refine al ?_;first
 |refine mI ?_
 |refine mB ?_
 |refine mS ?_
 |refine mT ?_
 |(refine u7 rfl rfl rfl (hW _ _) (Nat.le_refl _) rfl ?_;intro tm sm st1 c1 c2 c3 c4 c5 c6 hO)
 |refine eB ?_
 |refine eS ?_
 |refine uv (v:=.slice _ _ _) rfl rfl rfl rfl rfl ?_
 |refine av rfl rfl ?_
 |refine Hd ?_)
 |refine He ?_
 |refine Ir ?_)
 repeat' (first
 |(refine al ?_;first
 |refine mI ?_
 |refine mB ?_
 |refine mS ?_
 |refine mT ?_
 |refine mM ?_
 |(refine pY rfl rfl rfl (hE _ _) rfl ?_;intro tn sn st2 hsn d1 d2 d3 d4 d5 d6)
 |refine eB ?_
 |refine eS ?_
 |refine nT ?_
 |refine lN ?_
 |refine gI rfl rfl ?_
 |refine Hd ?_)
 |refine He ?_
 |refine Ir ?_
 |refine Hg ?_
 |refine ah rfl ?_
 |refine Hf ?_)
 have hO2:=hO.of d6 d5 d4
 have b0:st2.boxes 0=some (.cells [.slice tb sb (bans.map (D.int .i64))]):=by rw[d1,c1];rfl
 have b1:st2.boxes 1=some (.cells [.slice .isnil 0 [],.int .i64 0]):=by rw[d1,c1];rfl
 have n2:st2.next=2:=d2.trans c2
 have l2:st2.lim=0:=d3.trans c3
 have tl2:st2.tlim≤st2.ntok:=Nat.le_trans (by rw[d4,c4];exact Nat.zero_le _) (Nat.le_refl _)
 clear hO c1 c2 c3 c4 c5 c6 d1 d2 d3 d4 d5 d6 hW hE
 have hsn1:sn=1:=jB hsn (by omega)
 subst hsn1
 have hhad:=fun ρ st=>BI ns (by omega) tn 1 (.inl rfl) st2.next 1 (.slice t s (l.map Eg.e)) (.int .i64 to) (.int .i64 now) (.int .i64 sz) (.int .i64 by') (.ptr 0 0) (.slice tm sm (hs0.map Hp.e)) (.slice tn 1 (ns.map (D.int .i64))) ns [] rfl List.nodup_nil [] (fun n=>rfl) ρ st [.slice .isnil 0 [],.int .i64 0]
 skip
 refine hhad _ _ ?_ (by omega) (ae _ _ _) ((ab _ _ (by omega)).trans b1) rfl rfl rfl rfl rfl rfl rfl rfl rfl rfl rfl rfl rfl rfl _ (fun h=>absurd h hnd) (fun _ ρ3 st3 e1 e2 k16 k17=>?_)
 ·show st2.lim≤0
  omega
 have l3:st3.lim≤1:=by rw[e1];show st2.lim≤1;omega
 exact⟨.inr rfl,_,(xw (i:=16) (j:=17) (q:=1) k16 e2 l3 k17).2,rfl⟩
set_option maxHeartbeats 16000000 in
theorem CG (l:List Eg) (hll:l.length≤900) (root bans:List Int) (hrl:root.length≤1000) (fr to now sz by':Int) (hw:eF l root fr now sz=none)
  (t t' tb:Tok) (s s' sb:Nat) (hs:s=8∨l=[]) (hs':s'=1∨root=[]) (hsb:sb=1∨bans=[]):
  EvX Γ2 30 [.slice t s (l.map Eg.e),.slice t' s' (root.map (D.int .i64)),.slice tb sb (bans.map (D.int .i64)),.int .i64 fr,.int .i64 to,.int .i64 now,.int .i64 sz,.int .i64 by'] (fun r=>r=yl):=by
 refine bR rfl rfl ?_
 have hW:=fun t t'=>(uM l (by omega) root (by omega) fr now sz hw t s hs t' s' hs').grow ly
 by_cases hE:bV l fr 0 0∧∃es,bG l root fr=some es
 ·obtain⟨ha0,es,hes⟩:=hE
  have hE:=fun t t'=>(pr l (by omega) root (by omega) fr ha0 es hes t s hs t' s' hs').grow ly
  repeat' (first
 |(refine al ?_;first
 |refine mI ?_
 |refine mB ?_
 |refine mS ?_
 |refine mT ?_
 |refine cA rfl (hW _ _) ?_
 |(refine pY rfl rfl rfl (hE _ _) rfl ?_;intro tn sn st2 hsn d1 d2 d3 d4 d5 d6)
 |refine eB ?_
 |refine eS ?_
 |refine bJ (cs:=[_,_]) rfl rfl rfl ?_
 |refine uv (v:=.slice _ _ _) rfl rfl rfl rfl rfl ?_
 |refine nT ?_
 |refine av rfl rfl ?_
 |refine Hd ?_)
 |refine He ?_
 |refine Ir ?_
 |refine aj rfl ?_)
  have b1:st2.boxes 1=some (.cells [.slice .isnil 0 [],.int .i64 0]):=by rw[d1];rfl
  have l2:st2.lim≤1:=by rw[d3];exact Nat.zero_le _
  repeat' (first
 |(refine al ?_;first
 |refine am (cs':=[_,_]) rfl rfl b1 rfl l2 rfl rfl rfl ?_
 |refine mB ?_
 |refine Hd ?_)
 |refine an ?_)
  refine⟨.inr rfl,_,(xw (i:=16) (j:=17) (q:=1) ?_ ?_ ?_ ?_).2,rfl⟩
  ·rfl
  ·rfl
  ·exact l2
  ·rfl
 ·have hE0:¬bV l fr 0 0∨bG l root fr=none:=by
   by_cases h:bV l fr 0 0
   ·right
    cases h':bG l root fr with
    |none=>rfl
    |some es=>exact absurd ⟨h,es,h'⟩ hE
   ·exact .inl h
  have hE:=fun t t'=>(CX l (by omega) root (by omega) fr hE0 t s hs t' s' hs').grow ly
  repeat' (first
 |(refine al ?_;first
 |refine mI ?_
 |refine mB ?_
 |refine mS ?_
 |refine mT ?_
 |refine cA rfl (hW _ _) ?_
 |refine cA rfl (hE _ _) ?_
 |refine eB ?_
 |refine eS ?_
 |refine bJ (cs:=[_,_]) rfl rfl rfl ?_
 |refine uv (v:=.slice _ _ _) rfl rfl rfl rfl rfl ?_
 |refine am (cs':=[_,_]) rfl rfl rfl rfl (by first|exact Nat.zero_le _|omega) rfl rfl rfl ?_
 |refine nT ?_
 |refine av rfl rfl ?_
 |refine Hd ?_)
 |refine He ?_
 |refine Ir ?_
 |refine aj rfl ?_
 |refine an ?_)
  exact⟨.inr rfl,_,rfl,rfl⟩
def Gg (sz now:Int) (o:Option (List Eg×Int)) (r:D):Prop:=match o with
 |some (es,a)=>BJ Hp.e 3 (aN sz es now) [.int .i64 a] [.bool true] r
 |none=>r=yl
theorem E3 (l:List Eg) (hll:l.length≤900) (root bans:List Int) (hrl:root.length≤1000) (hbl:bans.length≤1000000) (fr to now sz by':Int) (t t' tb:Tok) (s s' sb:Nat) (hs:s=8∨l=[]) (hs':s'=1∨root=[]) (hsb:sb=1∨bans=[]):
  EvX Γ2 30 [.slice t s (l.map Eg.e),.slice t' s' (root.map (D.int .i64)),.slice tb sb (bans.map (D.int .i64)),.int .i64 fr,.int .i64 to,.int .i64 now,.int .i64 sz,.int .i64 by'] (Gg sz now (el l root bans fr to now sz by')):=by
 cases hw:eF l root fr now sz with
 |none=>
  have e:el l root bans fr to now sz by'=none:=by unfold el;rw[if_pos hw]
  rw[e]
  exact CG l hll root bans hrl fr to now sz by' hw t t' tb s s' sb hs hs' hsb
 |some h=>
  obtain⟨ha,es0,m,u,h1,hid,hwy,rfl⟩:=kr.1 hw
  by_cases hnd:(aL fr es0).Nodup
  ·rw[rW hid ha hwy hnd]
   have hel:es0.length=root.length:=by rw[←hid];simp
   have hnl:(aL fr es0).length≤1000000:=by simp[aL];omega
   have hsl:(jK l bans m).length≤l.length:=List.length_filter_le _ _
   cases hb:fq (jK l bans m) m to u sz by' (aL fr es0)with
   |none=>
    have hB:=fun t s t' s' h1 h2=>tA (jK l bans m) (by omega) m to u sz by' (aL fr es0) hnl t t' s s' h1 h2 hb
    exact(y8 l hll root bans hrl hbl fr to now sz by' es0 m u ha hid hwy hnd [] (by simp) 0 false (fun t s t' s' h1 h2=>⟨_,⟨.isnil,0,.inr rfl,rfl⟩,hB t s t' s' h1 (.inl h2)⟩) t t' tb s s' sb hs hs' hsb).mono (fun r h=>h)
   |some p=>
    obtain⟨es1,a⟩:=p
    have hB:=fun t s t' s' h1 h2=>xN (jK l bans m) (by omega) m to u sz by' (aL fr es0) hnl t t' s s' h1 h2 es1 a hb
    have hl1:(aN sz es1 u).length≤1000:=by
     rw[cr]
     have:=(ml hb).few
     have:=yf this
     omega
    refine(y8 l hll root bans hrl hbl fr to now sz by' es0 m u ha hid hwy hnd (aN sz es1 u) hl1 a true (fun t s t' s' h1 h2=>?_) t t' tb s s' sb hs hs' hsb).mono (fun r h=>?_)
    ·exact(hB t s t' s' h1 (.inl h2)).mono (fun r ⟨t5,s5,e,h⟩=>⟨t5,s5,h,e⟩)
    ·show BJ Hp.e 3 (aN sz (es0++es1) now) [.int .i64 a] [.bool true] r
     rw[zD hwy]
     exact h
  ·have e:el l root bans fr to now sz by'=none:=by
    unfold el
    rw[if_neg (by rw[hw];simp),h1]
    simp only
    rw[if_neg hnd]
   rw[e]
   exact CI l hll root bans hrl fr to now sz by' es0 m u ha hid hwy hnd t t' tb s s' sb hs hs' hsb
end Go.Bes
/-
  SpurBans, as the evaluator runs it.
-/
namespace Go.Bes
open Go.Ev
theorem FP (x y:Int):tJ [x,y]=if x=0 then y else x:=by
 simp only[tJ]
 split
 ·split
  ·rename_i h;exact h.symm
  ·rfl
 ·rfl
theorem yV (a b:Int):ke a b=if a<b then -1 else if b<a then 1 else 0:=rfl
theorem kX (h:List Hp) (a:Int) (h':List Hp) (a':Int):db h a h' a'=if a<a' then -1 else if a'<a then 1 else if h.length<h'.length then -1 else if h'.length<h.length then 1 else ce (h.map Hp.id) (h'.map Hp.id):=by
 unfold db
 rw[FP,FP,yV,yV]
 by_cases h1:a<a'
 ·simp[h1]
 ·by_cases h2:a'<a
  ·simp[h1,h2]
  ·by_cases h3:h.length<h'.length
   ·simp[h1,h2,h3]
   ·by_cases h4:h'.length<h.length
    ·simp[h1,h2,h3,h4]
    ·simp[h1,h2,h3,h4]
theorem iU (h:List Hp) (a:Int) (h':List Hp) (a':Int):db h a h' a'= - db h' a' h a:=by
 rw[kX,kX]
 have:=oL (h.map Hp.id) (h'.map Hp.id)
 repeat' split
 all_goals omega
def GO (sz now:Int):Option (List Eg×Int)→List Hp
 |some (es,_)=>aN sz es now
 |none=>[]
def aO:Option (List Eg×Int)→Int
 |some (_,a)=>a
 |none=>0
variable {l:List Eg} {root bans more:List Int} {fr to now sz by':Int}
theorem SpurIn.less {es:List Eg} {u:Int} (h:SpurIn l root (bans++more) fr to now sz by' es u):SpurIn l root bans fr to now sz by' es u:=
 ⟨h.route,h.le,h.pre,fun k hk hb=>h.ban k hk (List.mem_append_left _ hb)⟩
end Go.Bes
/-
  The order is one.
-/
namespace Go.Bes
open Go.Ev
theorem qi:∀a b:List Int,ce a b= -1∨ce a b=0∨ce a b=1
 |[],[]=>.inr (.inl rfl)
 |[],_::_=>.inl rfl
 |_::_,[]=>.inr (.inr rfl)
 |a::xs,b::ys=>by
  rw[ce]
  split
  ·exact .inl rfl
  ·split
   ·exact .inr (.inr rfl)
   ·exact qi xs ys
theorem qC:∀a b c:List Int,(ce a b≤0→ce b c≤0→ce a c≤0)∧(ce a b=0→ce b c=ce a c)
 |[],[],c=>⟨fun _ h=>h,fun _=>rfl⟩
 |[],_::_,[]=>⟨fun _ h=>by simp[ce]at h,fun h=>by simp[ce]at h⟩
 |[],_::_,_::_=>⟨fun _ _=>by simp[ce],fun h=>by simp[ce]at h⟩
 |_::_,[],_=>⟨fun h=>by simp[ce]at h,fun h=>by simp[ce]at h⟩
 |_::_,_::_,[]=>⟨fun _ h=>by simp[ce]at h,fun _=>rfl⟩
 |a::xs,b::ys,c::zs=>by
  obtain⟨h1,h2⟩:=qC xs ys zs
  simp only[ce]
  constructor
  ·intro p q
   split at p<;>split at q<;>(repeat' split)<;>(repeat' split at p)<;>(repeat' split at q)<;>first|omega|exact h1 p q
  ·intro p
   split at p
   ·omega
   ·split at p
    ·omega
    ·have:a=b:=by omega
     subst this
     rw[h2 p]
theorem w6 (h:List Hp) (a:Int) (h':List Hp) (a':Int): -1≤db h a h' a'∧db h a h' a'≤1:=by
 rw[kX]
 have:=qi (h.map Hp.id) (h'.map Hp.id)
 repeat' split
 all_goals omega
theorem dO (h:List Hp) (a:Int):db h a h a=0:=by
 rw[qN rfl,my]
theorem qc (h:List Hp) (a:Int) (h':List Hp) (a':Int) (h'':List Hp) (a'':Int):(db h a h' a'≤0→db h' a' h'' a''≤0→db h a h'' a''≤0)∧(db h a h' a'=0→db h' a' h'' a''=db h a h'' a''):=by
 rw[kX,kX,kX]
 obtain⟨h1,h2⟩:=qC (h.map Hp.id) (h'.map Hp.id) (h''.map Hp.id)
 generalize ce (h.map Hp.id) (h'.map Hp.id)=x at*
 generalize ce (h'.map Hp.id) (h''.map Hp.id)=y at*
 generalize ce (h.map Hp.id) (h''.map Hp.id)=z at*
 constructor
 ·intro p q
  repeat' split at p
  all_goals repeat' split at q
  all_goals repeat' split
  all_goals first|omega|exact h1 p q
 ·intro p
  repeat' split at p
  all_goals repeat' split
  all_goals first|omega|exact h2 p
structure Rt where
 hs:List Hp
 ar:Int
def Rt.e (r:Rt):D:=.agg [.slice .no 3 (r.hs.map Hp.e),.int .i64 r.ar]
end Go.Bes
/-
  slices' insertion sort, on a row of routes.
-/
namespace Go.Bes
open Go.Ev
/-! ### Plain -/
def eW (x y:Rt):Bool:=decide (db x.hs x.ar y.hs y.ar<0)
def lB (x:Rt):List Rt→List Rt
 |[]=>[x]
 |y::r=>if eW x y then y::lB x r else x::y::r
def fH (S:List Rt) (x:Rt):List Rt:=(lB x S.reverse).reverse
def bh (l:List Rt):List Rt:=l.foldl fH []
theorem wC (x:Rt):fH [] x=[x]:=rfl
theorem ox (S:List Rt) (y x:Rt):fH (S++[y]) x=if eW x y then fH S x++[y]else S++[y,x]:=by
 unfold fH
 rw[List.reverse_append]
 simp only[List.reverse_cons,List.reverse_nil,List.nil_append,List.cons_append,lB]
 split
 ·simp
 ·simp
theorem qA (x:Rt):∀S:List Rt,(lB x S).length=S.length+1
 |[]=>rfl
 |y::r=>by
  rw[lB]
  split
  ·simp[qA x r]
  ·simp
theorem nX (S:List Rt) (x:Rt):(fH S x).length=S.length+1:=by simp[fH,qA]
/-! ### The code -/
theorem aC {L:List Rt}:∀d∈L.map Rt.e,d.cells.length=2:=fun d hd=>by
 obtain⟨r,_,rfl⟩:=List.mem_map.1 hd
 rfl
theorem fy {L:List Rt} {i:Nat} {x:Rt} (h:L[i]?=some x):(L.map Rt.e)[i]?=some (.agg [.slice .no 3 (x.hs.map Hp.e),.int .i64 x.ar]):=by rw[List.getElem?_map,h];rfl
structure FrR (st st':Store) (p:Nat):Prop where
 lim:st'.lim=st.lim
 tlim:st'.tlim=st.tlim
 toks:st'.toks=st.toks
 ntok:st'.ntok=st.ntok
 next:st'.next=st.next
 box:∀q,q≠p→st'.boxes q=st.boxes q
theorem FrR.refl (st:Store) (p:Nat):FrR st st p:=⟨rfl,rfl,rfl,rfl,rfl,fun _ _=>rfl⟩
theorem FrR.trans {st st1 st2:Store} {p:Nat} (a:FrR st st1 p) (b:FrR st1 st2 p):FrR st st2 p:=⟨b.lim.trans a.lim,b.tlim.trans a.tlim,b.toks.trans a.toks,b.ntok.trans a.ntok,b.next.trans a.next,fun q h=>(b.box q h).trans (a.box q h)⟩
def bA (L:List Rt):Prop:=∀r∈L,r.hs.length≤1000000
theorem y7 {A rest:List Rt} {x y:Rt}:(((A++y::x::rest).map Rt.e).set (A.length+1) y.e).set A.length x.e=(A++x::y::rest).map Rt.e:=by
 induction A with
 |nil=>rfl
 |cons z A ih=>simpa using ih
set_option maxHeartbeats 8000000 in
theorem FY (p n c:Nat) (P:List Rt):∀(m:Nat) (S1:List Rt),S1.length=m→∀(x:Rt) (rest:List Rt),n=(P++S1++x::rest).length→n≤1000000→bA (P++S1++x::rest)→∀(ρ:Nat→D) (st:Store) (b i:Int),RowIs st p 2 ((P++S1++x::rest).map Rt.e)→
  ρ 0=.rs p 0 2 n c→ρ 1=.int .i64 P.length→ρ 2=.int .i64 b→ρ 3=.func 13 []→ρ 8=.int .i64 i→ρ 9=.int .i64 ((P++S1).length:Nat)→∀(Q:X→(Nat→D)→Store→Prop),
  (∀ρ' st',FrR st st' p→RowIs st' p 2 ((P++fH S1 x++rest).map Rt.e)→ρ' 0=.rs p 0 2 n c→ρ' 1=.int .i64 P.length→ρ' 2=.int .i64 b→ρ' 3=.func 13 []→ρ' 8=.int .i64 i→Q (.exit 2) ρ' st')→WC Γ (.loop cd) ρ st Q:=by
 intro m
 induction m with
 |zero=>
  intro S1 hS x rest hn hnl hsh ρ st b i hR h0 h1 h2 h3 h8 h9 Q hQ
  obtain rfl:=List.length_eq_zero_iff.1 hS
  rw[List.append_nil]at h9
  rw[wC]at hQ
  rw[←aa h0,←aa h1,←aa h2,←aa h3,←aa h8,←aa h9]
  refine Hh ?_
  repeat' (first
 |(refine al ?_;first
 |refine ak rfl ?_
 |refine mI ?_
 |refine mB ?_
 |refine ak rfl ?_
 |refine gF ?_
 |refine ak rfl ?_
 |refine ak rfl ?_
 |refine pB ?_
 |refine ak rfl ?_
 |refine Hd ?_)
 |refine au (aE rfl) ?_
 |refine He ?_
 |refine ay ?_
 |refine ah rfl ?_
 |refine Hi ?_)
  refine hQ _ _ (FrR.refl _ _) (by simpa using hR) ?_ ?_ ?_ ?_ ?_<;>rfl
 |succ m ih=>
  intro S1 hS x rest hn hnl hsh ρ st b i hR h0 h1 h2 h3 h8 h9 Q hQ
  obtain⟨S,y,rfl⟩:∃S y,S1=S++[y]:=by
   rcases List.eq_nil_or_concat S1 with h|⟨S,y,h⟩
   ·subst h;simp at hS
   ·exact⟨S,y,by rw[h,List.concat_eq_append]⟩
  have e1:P++(S++[y])++x::rest=(P++S)++y::x::rest:=by simp
  have e2:((P++(S++[y])).length:Nat)=(P++S).length+1:=by rw[←List.append_assoc,List.length_append];rfl
  rw[e1]at hn hR hsh
  rw[e2]at h9
  rw[ox]at hQ
  have hnx:=ih S (by simpa using hS) x (y::rest)
  have hx:((P++S)++y::x::rest)[(P++S).length+1]?=some x:=by
   rw[List.getElem?_append_right (by omega)];simp
  have hy:((P++S)++y::x::rest)[(P++S).length]?=some y:=by
   rw[List.getElem?_append_right (by omega)];simp
  have hxl:=hsh x (by simp)
  have hyl:=hsh y (by simp)
  have hPS:P.length≤(P++S).length:=by simp
  have hsh2:bA (P++S++x::y::rest):=fun r hr=>hsh r (by simp at hr ⊢;rcases hr with h|h|h|h|h<;>simp[h])
  have hsw:=@y7 (P++S) rest x y
  have hn2:n=(P++S++x::y::rest).length:=by rw[hn];simp
  clear ih
  have hback:(P++S++y::x::rest)=P++(S++[y,x])++rest:=by simp
  generalize hA:P++S=A at*
  generalize hL:A++y::x::rest=L at*
  have hLn:L.length=n:=hn.symm
  have hAn:A.length+1<n:=by rw[hn,←hL];simp
  have hgt:(P.length:Int)<((A.length+1:Nat):Int):=by omega
  have hsub:IntKind.i64.wrap (((A.length+1:Nat):Int) - 1)=((A.length:Nat):Int):=by rw[ea (by omega)];omega
  have hC:=fun t t'=>gl x.hs x.ar y.hs y.ar hxl hyl t t' 3 3 (.inl rfl) (.inl rfl)
  have hx':=fy hx
  have hy':=fy hy
  have hi1:A.length+1<(L.map Rt.e).length:=by rw[List.length_map];omega
  have hA0:A.length<n:=by omega
  rw[←aa h0,←aa h1,←aa h2,←aa h3,←aa h8,←aa h9]
  refine Hh ?_
  by_cases hlt:db x.hs x.ar y.hs y.ar<0
  ·rw[if_pos (show eW x y=true from decide_eq_true hlt)]at hQ
   generalize db x.hs x.ar y.hs y.ar=cc at*
   repeat' (first
 |(refine al ?_;first
 |refine aS (s:=((A.length:Nat):Int)) (hs:=hsub) ?_
 |refine aA (j:=A.length+1) rfl rfl rfl rfl hAn ?_
 |refine aA (j:=A.length) rfl rfl rfl rfl hA0 ?_
 |refine lT (p:=hlt) ?_
 |refine mI ?_
 |refine mB ?_
 |refine aB (v:=.func _ _) rfl rfl rfl ?_
 |refine mR ?_
 |refine gT ?_
 |refine aH (j:=A.length+1) rfl rfl hR.at (Nat.zero_add _) aC hx' rfl ?_
 |refine aH (j:=A.length) rfl rfl hR.at (Nat.zero_add _) aC hy' rfl ?_
 |refine cA rfl (hC _ _) ?_
 |refine pB ?_
 |(refine ck (j:=A.length+1) rfl rfl rfl hR (Nat.zero_add _) aC hi1 rfl rfl rfl ?_<;>intro st1 f1 f2 f3 f4 f5 hR1 hb2)
 |refine Hd ?_)
 |refine au (aE rfl) ?_
 |refine He ?_
 |refine ay ?_
 |refine Hg ?_
 |refine aj rfl ?_
 |refine Hf ?_)
   have hi2:A.length<((L.map Rt.e).set (A.length+1) (.agg [.slice .no 3 (y.hs.map Hp.e),.int .i64 y.ar])).length:=by rw[List.length_set,List.length_map];omega
   refine ck (j:=A.length) rfl rfl rfl hR1 (Nat.zero_add _) ?_ hi2 rfl rfl rfl ?_
   ·intro d hd
    rcases List.mem_or_eq_of_mem_set hd with hd|rfl
    ·exact aC d hd
    ·rfl
   intro st2 g1 g2 g3 g4 g5 hR2 hb3
   have hR3:RowIs st2 p 2 ((A++x::y::rest).map Rt.e):=by rw[←hsw];exact hR2
   repeat' (first
 |(refine al ?_;first
 |refine aS (s:=((A.length:Nat):Int)) (hs:=hsub) ?_
 |refine mI ?_
 |refine Hd ?_)
 |refine au (by simp[bB,List.range,List.range.loop,Fl.clash]) ?_
 |refine Ir ?_)
   refine hnx hn2 hnl hsh2 _ _ b i hR3 ?_ ?_ ?_ ?_ ?_ ?_ Q (fun ρ' st' hF hR' k0 k1 k2 k3 k8=>hQ ρ' st' (FrR.trans ⟨g1.trans f1,g2.trans f2,g3.trans f3,g4.trans f4,g5.trans f5,fun q hq=>(hb3 q hq).trans (hb2 q hq)⟩ hF) (by simpa using hR') k0 k1 k2 k3 k8)<;>rfl
  ·rw[if_neg (show¬eW x y=true from fun h=>hlt (of_decide_eq_true h))]at hQ
   have hlt':0≤db x.hs x.ar y.hs y.ar:=by omega
   generalize db x.hs x.ar y.hs y.ar=cc at*
   repeat' (first
 |(refine al ?_;first
 |refine aS (s:=((A.length:Nat):Int)) (hs:=hsub) ?_
 |refine aA (j:=A.length+1) rfl rfl rfl rfl hAn ?_
 |refine aA (j:=A.length) rfl rfl rfl rfl hA0 ?_
 |refine lF (p:=hlt') ?_
 |refine mI ?_
 |refine mB ?_
 |refine aB (v:=.func _ _) rfl rfl rfl ?_
 |refine mR ?_
 |refine gT ?_
 |refine aH (j:=A.length+1) rfl rfl hR.at (Nat.zero_add _) aC hx' rfl ?_
 |refine aH (j:=A.length) rfl rfl hR.at (Nat.zero_add _) aC hy' rfl ?_
 |refine cA rfl (hC _ _) ?_
 |refine pB ?_
 |refine Hd ?_)
 |refine au (aE rfl) ?_
 |refine He ?_
 |refine ay ?_
 |refine ah rfl ?_
 |refine Hi ?_)
   refine hQ _ _ (FrR.refl _ _) ?_ ?_ ?_ ?_ ?_ ?_
   ·rw[←hback];exact hR
   all_goals rfl
end Go.Bes
/-
  slices' insertion sort, on a part of a row of routes; the stable sort of few.
-/
namespace Go.Bes
open Go.Ev
theorem tt:∀(l S:List Rt),(l.foldl fH S).length=S.length+l.length
 |[],S=>rfl
 |x::l,S=>by rw[List.foldl_cons,tt l,nX,List.length_cons];omega
theorem cL (l:List Rt):(bh l).length=l.length:=by rw[bh,tt];simp
theorem rf (x r:Rt):∀S:List Rt,r∈lB x S↔r=x∨r∈S
 |[]=>by simp[lB]
 |y::S=>by
  rw[lB]
  split
  ·simp only[List.mem_cons,rf x r S]
   constructor
   ·rintro (h|h|h)<;>simp[h]
   ·rintro (h|h|h)<;>simp[h]
  ·simp
theorem vc (x r:Rt) (S:List Rt):r∈fH S x↔r=x∨r∈S:=by simp[fH,rf]
theorem ss (r:Rt):∀l S:List Rt,r∈l.foldl fH S↔r∈S∨r∈l
 |[],S=>by simp
 |x::l,S=>by
  rw[List.foldl_cons,ss r l,vc,List.mem_cons]
  constructor
  ·rintro ((h|h)|h)<;>simp[h]
  ·rintro (h|h|h)<;>simp[h]
theorem iT (r:Rt) (l:List Rt):r∈bh l↔r∈l:=by rw[bh,ss];simp
theorem dD {A B:List Rt} (h:bA A) (hm:∀r,r∈B→r∈A):bA B:=fun r hr=>h r (hm r hr)
set_option maxHeartbeats 8000000 in
theorem Fa (p n c:Nat) (P R:List Rt) (b:Nat) (hnl:n≤1000000):∀(T D0:List Rt),n=(P++D0++T++R).length→b=(P++D0++T).length→bA (P++D0++T++R)→∀(ρ:Nat→D) (st:Store),RowIs st p 2 ((P++D0++T++R).map Rt.e)→
  ρ 0=.rs p 0 2 n c→ρ 1=.int .i64 P.length→ρ 2=.int .i64 b→ρ 3=.func 13 []→ρ 8=.int .i64 ((P++D0).length:Nat)→∀(Q:X→(Nat→D)→Store→Prop),
  (∀ρ' st',FrR st st' p→RowIs st' p 2 ((P++T.foldl fH D0++R).map Rt.e)→Q (.exit 0) ρ' st')→WC Γ (.loop b9) ρ st Q:=by
 intro T
 induction T with
 |nil=>
  intro D0 hn hb hsh ρ st hR h0 h1 h2 h3 h8 Q hQ
  rw[←aa h0,←aa h1,←aa h2,←aa h3,←aa h8]
  rw[List.append_nil]at hb
  refine Hh ?_
  repeat' (first
 |(refine al ?_;first
 |refine mI ?_
 |refine lF ?_
 |refine Hd ?_)
 |refine He ?_
 |refine Ir ?_
 |refine ah rfl ?_
 |refine Hi ?_)
  exact hQ _ _ (FrR.refl _ _) (by simpa using hR)
 |cons x T ih=>
  intro D0 hn hb hsh ρ st hR h0 h1 h2 h3 h8 Q hQ
  have e1:P++D0++(x::T)++R=P++D0++x::(T++R):=by simp
  rw[e1]at hn hR hsh
  have hnx:=ih (fH D0 x)
  have hin:=FY p n c P D0.length D0 rfl x (T++R) hn hnl hsh
  have hlt:(((P++D0).length:Nat):Int)<b:=by rw[hb];simp;omega
  have hb1:(P++D0).length<1000000:=by
   have:(P++D0).length<n:=by rw[hn];simp
   omega
  have hadd:IntKind.i64.wrap ((((P++D0).length:Nat):Int)+1)=(((P++fH D0 x).length:Nat):Int):=by
   rw[ea (by omega),List.length_append,List.length_append,nX];omega
  have e2:P++fH D0 x++T++R=P++fH D0 x++(T++R):=by simp
  have hn':n=(P++fH D0 x++T++R).length:=by rw[hn];simp[nX];omega
  have hb':b=(P++fH D0 x++T).length:=by rw[hb];simp[nX];omega
  have hsh':bA (P++fH D0 x++T++R):=dD hsh (fun r hr=>by
   simp only[List.mem_append,vc,List.mem_cons]at hr ⊢
   rcases hr with ((h|h|h)|h)|h<;>simp[h])
  clear ih
  rw[List.foldl_cons]at hQ
  generalize hm:((P++D0).length:Nat)=m at*
  rw[←aa h0,←aa h1,←aa h2,←aa h3,←aa h8]
  refine Hh ?_
  repeat' (first
 |(refine al ?_;first
 |refine mI ?_
 |refine lT ?_
 |refine Hd ?_)
 |(refine hin _ _ (b:Int) (m:Int) hR ?_ ?_ ?_ ?_ ?_ ?_ _ ?_<;>first|rfl|(intro ρ2 st2 hF hR2 k0 k1 k2 k3 k8))
 |refine He ?_
 |refine Ir ?_
 |refine Hg ?_
 |refine aj rfl ?_
 |refine Hf ?_)
  rw[←aa k0,←aa k1,←aa k2,←aa k3,←aa k8]
  repeat' (first
 |(refine al ?_;first
 |refine aD (s:=(((P++fH D0 x).length:Nat):Int)) (hs:=hadd) ?_
 |refine mI ?_
 |refine Hd ?_))
  rw[←e2]at hR2
  refine hnx hn' hb' hsh' _ _ hR2 ?_ ?_ ?_ ?_ ?_ Q (fun ρ' st' hF' hR'=>hQ ρ' st' (hF.trans hF') hR')<;>rfl
theorem sO (p n c:Nat) (P S R:List Rt) (st:Store) (hnl:n≤1000000) (hn:n=(P++S++R).length) (hsh:bA (P++S++R)) (hR:RowIs st p 2 ((P++S++R).map Rt.e)) (a b:Int) (ha:a=P.length) (hb:b=((P++S).length:Nat)):
  EvRWX Γ 95 [.rs p 0 2 n c,.int .i64 a,.int .i64 b,.func 13 []] st (fun r st'=>r=.tuple []∧FrR st st' p∧RowIs st' p 2 ((P++bh S++R).map Rt.e)):=by
 subst ha hb
 refine aR rfl rfl ?_
 have hPn:P.length≤n:=by rw[hn];simp
 have hadd:IntKind.i64.wrap ((P.length:Int)+1)=P.length+1:=ea (by omega)
 cases S with
 |nil=>
  have hge:((P++([]:List Rt)).length:Int)≤(P.length:Int)+1:=by simp;omega
  generalize hm:((P++([]:List Rt)).length:Nat)=m at*
  repeat' (first
 |(refine al ?_;first
 |refine aD (s:=(P.length:Int)+1) (hs:=hadd) ?_
 |refine mI ?_
 |refine Hd ?_)
 |refine He ?_
 |refine Ir ?_
 |refine Hf ?_)
  refine Hh ?_
  repeat' (first
 |(refine al ?_;first
 |refine lF (p:=hge) ?_
 |refine mI ?_
 |refine Hd ?_)
 |refine He ?_
 |refine Ir ?_
 |refine ah rfl ?_
 |refine Hi ?_)
  exact⟨.inl rfl,_,rfl,rfl,FrR.refl _ _,by simpa[bh]using hR⟩
 |cons x T=>
  have e1:P++x::T++R=P++[x]++T++R:=by simp
  rw[e1]at hn hsh hR
  have hlo:=Fa p n c P R (P++x::T).length hnl T [x] hn (by simp) hsh
  have hadd':IntKind.i64.wrap ((P.length:Int)+1)=((P++[x]).length:Nat):=by rw[hadd];simp
  generalize hm:((P++x::T).length:Nat)=m at*
  repeat' (first
 |(refine al ?_;first
 |refine aD (s:=(((P++[x]).length:Nat):Int)) (hs:=hadd') ?_
 |refine mI ?_
 |refine Hd ?_)
 |(refine hlo _ _ hR ?_ ?_ ?_ ?_ ?_ _ ?_<;>first|rfl|(intro ρ2 st2 hF hR2))
 |refine He ?_
 |refine Ir ?_
 |refine Hf ?_)
  exact⟨.inl rfl,_,rfl,rfl,hF,hR2⟩
end Go.Bes
/-
  Routes in memory of their own; leaving out such as are there already.
-/
namespace Go.Ev
theorem vf {cs:List D} {sz i o:Nat} {xs ys:List D} {d:D} (hlen:xs.length*sz≤cs.length) (hc:cs.take (xs.length*sz)=xs.flatMap D.cells) (hxs:∀d∈xs,d.cells.length=sz) (hx:xs[i]?=some (.agg ys)) (ho:ys[o]?=some d):i*sz+o<cs.length∧cs[i*sz+o]?=some d:=by
 have hi:i<xs.length:=(List.getElem?_eq_some_iff.mp hx).1
 have h1:=HG hc hxs hx
 have h2:i*sz+sz≤xs.length*sz:=by rw[←Nat.succ_mul];exact Nat.mul_le_mul_right _ hi
 have h3:ys.length=sz:=hxs _ (List.mem_of_getElem? hx)
 have h4:o<sz:=by rw[←h3];exact(List.getElem?_eq_some_iff.mp ho).1
 have h5:((cs.drop (i*sz)).take sz)[o]?=some d:=by rw[h1];exact ho
 rw[List.getElem?_take_of_lt h4,List.getElem?_drop]at h5
 exact⟨by omega,h5⟩
section
variable {Γ:Nat→Option FD} {ρ:Nat→D} {st:Store} {dr:Bool} {R:(Nat→D)→Store→List Fl→Prop} {l:List Op1} {g:Option (Nat×Bool)} {mv:Bool} {k:Nat} {x y:A}
theorem w8 {p off sz j o:Nat} {xs ys:List D} {d:D} (hg:ao ρ g=some true) (hx:x.ev ρ=.ptr p off) (hR:RowIs st p sz xs) (ho:off=j*sz+o) (hxs:∀d∈xs,d.cells.length=sz) (hj:xs[j]?=some (.agg ys)) (hd:ys[o]?=some d) (hm:mv=false)
  (h:WS Γ dr l (ap ρ k d) st (nx (.r p) R)):WS Γ dr (⟨some k,g,mv,.load false 1 x⟩::l) ρ st R:=by
 obtain⟨hl,_,cs,h1,h2,h3,_⟩:=hR
 subst ho
 obtain⟨q1,q2⟩:=vf h2 h3 hxs hj hd
 refine nP hg hx (by rw[h1];rfl) hl ?_ h
 unfold cut
 rw[if_pos (by omega)]
 simpa using q2
theorem wQ {p off sz j o:Nat} {xs ys:List D} {d:D} (hg:ao ρ g=some true) (hx:x.ev ρ=.ptr p off) (hv:y.ev ρ=d) (hR:RowIs st p sz xs) (ho:off=j*sz+o) (hxs:∀d∈xs,d.cells.length=sz) (hj:xs[j]?=some (.agg ys)) (hd:ys[o]?=some d) (h1:d.cells=[d]) (h2:d.one=true) (hm:mv=false)
  (h:WS Γ dr l ρ st (nx (.w p) R)):WS Γ dr (⟨none,g,mv,.store 1 x y⟩::l) ρ st R:=by
 obtain⟨hl,_,cs,hb,e2,e3,_⟩:=hR
 subst ho
 obtain⟨q1,q2⟩:=vf e2 e3 hxs hj hd
 have hst:{st with boxes:=ap st.boxes p (some (.row cs))}=st:=by
  have:ap st.boxes p (some (.row cs))=st.boxes:=by
   funext q
   by_cases hq:q=p
   ·subst hq;rw[ae,hb]
   ·rw[ab _ _ hq]
  rw[this]
 refine am (cs':=cs) hg hx hb rfl hl hv ?_ hm ?_
 ·simp only[jt]
  rw[if_pos ⟨by rw[h1];rfl,by omega,by rw[h1];simp[h2]⟩,h1]
  congr 1
  obtain⟨hh,e⟩:=List.getElem?_eq_some_iff.mp q2
  rw[←e,List.append_assoc,List.singleton_append,List.getElem_cons_drop,List.take_append_drop]
 ·show WS Γ dr l ρ {st with boxes:=ap st.boxes p (some (.row cs))} _
  rw[hst]
  exact h
theorem Be {f:A} {az:List A} {fn:Nat} {caps:List D} {sz:Nat} {xs:List D} (hg:ao ρ g=some true) (hf:f.ev ρ=.func fn caps) (ha:((az.map (·.ev ρ)++caps).map D.strip).all D.freeA=true) (hr:EvX Γ fn ((az.map (·.ev ρ)++caps).map D.strip) (fun r=>r=.slice .row sz xs∨r=.slice .no sz xs))
  (hm:mv=false) (h:WS Γ dr l (ap ρ k (.slice .no sz xs)) st (nx .n R)):WS Γ dr (⟨some k,g,mv,.call f az⟩::l) ρ st R:=by
 subst hm
 obtain⟨r,hr0,hr⟩:=hr
 have key:aw false r st=(.slice .no sz xs,st)∧aF r=false:=by rcases hr0 with rfl|rfl<;>exact⟨rfl,rfl⟩
 exact cx hg rfl hf ha hr (fun _=>⟨key.2,rfl⟩) key.1 h
end
end Go.Ev
namespace Go.Bes
open Go.Ev
theorem EB (a:Hp):eb 3 a.e∧(match a.e.cells with|[c]=>(match a.e with| .agg _=>false|_=>true)|_=>(match a.e with| .agg _=>true|_=>false))=true:=⟨⟨rfl,rfl⟩,rfl⟩
theorem F7 (hs:List Hp) (hl:hs.length≤1000000) (t:Tok) (s:Nat) (h3:s=3∨hs=[]):EvX Γ 75 [.slice t s (hs.map Hp.e)] (fun r=>r=.slice .row 3 (hs.map Hp.e)∨r=.slice .no 3 (hs.map Hp.e)):=by
 by_cases h:hs=[]
 ·subst h
  exact⟨_,.inr rfl,gV rfl (by simp[gk])⟩
 ·obtain⟨r,hr,h2⟩:=yY (Γ:=Γ) (f:=75) (bytes:=24) rfl hs (t:=t) h3 (by omega) EB
  rcases hr with⟨h',_⟩|rfl
  ·exact absurd h' h
  ·exact⟨_,.inl rfl,h2⟩
theorem ru (r:Rt):eb 2 r.e∧(match r.e.cells with|[c]=>(match r.e with| .agg _=>false|_=>true)|_=>(match r.e with| .agg _=>true|_=>false))=true:=⟨⟨rfl,rfl⟩,rfl⟩
theorem sS (r:Rt):r.e.cells.length=2∧sy r.e.cells=r.e:=⟨rfl,rfl⟩
set_option maxHeartbeats 4000000 in
theorem Ga (q c:Nat) (L:List Rt) (hsh:bA L) (hLl:L.length≤1000000):∀(T A0:List Rt),L=A0++T→∀(ρ:Nat→D) (st:Store),RowIs st q 2 (L.map Rt.e)→
  ρ 0=.rs q 0 2 L.length c→ρ 7=.int .i64 L.length→ρ 8=.int .i64 A0.length→∀(Q:X→(Nat→D)→Store→Prop),
  (∀ρ',ρ' 0=.rs q 0 2 L.length c→Q (.exit 0) ρ' st)→WC Γ (.loop jq) ρ st Q:=by
 intro T
 induction T with
 |nil=>
  intro A0 hL ρ st hR h0 h7 h8 Q hQ
  have hA:A0.length=L.length:=by rw[hL];simp
  rw[hA]at h8
  rw[←aa h0,←aa h7,←aa h8]
  refine Hh ?_
  repeat' (first
 |(refine al ?_;first
 |refine lF ?_
 |refine Hd ?_)
 |refine He ?_
 |refine Ir ?_
 |refine ah rfl ?_
 |refine Hi ?_)
  exact hQ _ rfl
 |cons x T ih=>
  intro A0 hL ρ st hR h0 h7 h8 Q hQ
  have hnx:=ih (A0++[x]) (by rw[hL];simp)
  have hx:L[A0.length]?=some x:=by rw[hL];simp
  have hlt:A0.length<L.length:=by rw[hL];simp
  have hlt':(A0.length:Int)<L.length:=by omega
  have hx':=fy hx
  have hcl:=fun t=>F7 x.hs (hsh x (by rw[hL];simp)) t 3 (.inl rfl)
  have hadd:IntKind.i64.wrap ((A0.length:Int)+1)=((A0++[x]).length:Nat):=by rw[ea (by omega)];simp
  have hne:(decide ((A0.length:Int)<L.length))=true:=decide_eq_true hlt'
  have hz:0+A0.length*2+0=A0.length*2+0:=by omega
  rw[←aa h0,←aa h7,←aa h8]
  refine Hh ?_
  repeat' (first
 |(refine al ?_;first
 |refine aA (j:=A0.length) rfl rfl rfl rfl hlt ?_
 |refine aD (s:=(((A0++[x]).length:Nat):Int)) (hs:=hadd) ?_
 |refine wQ (j:=A0.length) (o:=0) rfl rfl rfl hR hz aC hx' rfl rfl rfl rfl ?_
 |refine mI ?_
 |refine mR ?_
 |refine lT ?_
 |refine w8 (j:=A0.length) (o:=0) rfl rfl hR hz aC hx' rfl rfl ?_
 |refine Be rfl rfl rfl (hcl _) rfl ?_
 |refine fD ?_
 |refine Hd ?_)
 |refine He ?_
 |refine Ir ?_
 |refine Hg ?_
 |refine aj rfl ?_
 |refine Hf ?_)
  refine hnx _ _ hR ?_ ?_ ?_ Q hQ<;>rfl
theorem vW (L:List Rt) (hsh:bA L) (hLl:L.length≤1000000) (hne:L≠[]) (t:Tok) (s:Nat) (hs:s=2∨L=[]):EvX Γ 55 [.slice t s (L.map Rt.e)] (IsR Rt.e 2 L):=by
 refine bR rfl rfl ?_
 have hcl:=fun t=>(CT (Γ:=Γ) (f:=74) (bytes:=32) rfl L (t:=t) hs (by omega) ru).mono (fun _ h=>h.r)
 have he:=fun r=>(ru r).1
 have hel:Store.empty.lim≤Store.empty.next:=Nat.le_refl _
 repeat' (first
 |(refine al ?_;first
 |refine mS ?_
 |refine Dh rfl rfl rfl (hcl _) rfl rfl he hel ?_
 |refine Hd ?_)
 |refine He ?_
 |refine Ir ?_)
 intro st1 d1 k1 k2 k3 k4 hP k5 k6
 rcases hP with⟨h,_⟩|⟨q,n,c,rfl,rfl,hR⟩
 ·exact absurd h hne
 ·repeat' (first
 |(refine al ?_;first
 |refine mI ?_
 |refine mR ?_
 |refine bD rfl rfl rfl ?_
 |refine Hd ?_)
 |(refine Ga q c L hsh hLl L [] rfl _ _ hR ?_ ?_ ?_ _ ?_<;>first|rfl|(intro ρ2 m0))
 |refine He ?_
 |refine Ir ?_
 |refine Hf ?_)
  rw[←aa m0]
  repeat' (first
 |(refine al ?_;first
 |refine mR ?_
 |refine Hd ?_)
 |refine an ?_)
  exact tX (.inr rfl) rfl (.inr ⟨q,_,c,rfl,rfl,hR⟩) (by decide) sS rfl
theorem sc (t:Tok) (s:Nat):EvP Γ 55 [.slice t s []] (.slice .exact 2 []):=by
 refine aJ rfl rfl ?_
 have hcl:∀t,EvP Γ 74 [.slice t s []] (.slice .exact 2 []):=fun t=>gV (F:=nC 2 32) rfl rfl
 have h0:([]:List D).length=0:=rfl
 repeat' (first
 |(refine al ?_;first
 |refine mI ?_
 |refine mS ?_
 |refine lF ?_
 |refine vI rfl rfl rfl (hcl _) rfl ?_
 |refine cn rfl rfl rfl ?_
 |refine Hd ?_)
 |refine Hh ?_
 |refine He ?_
 |refine Ir ?_
 |refine ah rfl ?_
 |refine Hf ?_
 |refine Hi ?_
 |refine an ?_)
 exact⟨.inr rfl,rfl⟩
end Go.Bes
/-
  Sorting: the stable sort of few, then one of each.
-/
namespace Go.Bes
open Go.Ev
def xH (N:Nat):Prop:=∀(L:List Rt) (p c n:Nat) (st:Store),L.length≤N→bA L→RowIs st p 2 (L.map Rt.e)→n=L.length→L≠[]→
 EvRWX Γ 89 [.rs p 0 2 n c,.int .i64 n,.func 13 []] st (fun r st'=>r=.tuple []∧FrR st st' p∧RowIs st' p 2 ((bh L).map Rt.e))
theorem ur {N:Nat} (hN:xH N) (L:List Rt) (p c n:Nat) (st:Store) (hL:L.length≤N) (hsh:bA L) (hR:RowIs st p 2 (L.map Rt.e)) (hn:n=L.length) (hne:L≠[]):
  EvRWX Γ 71 [.rs p 0 2 n c,.func 13 []] st (fun r st'=>r=.tuple []∧FrR st st' p∧RowIs st' p 2 ((bh L).map Rt.e)):=by
 refine aR rfl rfl ?_
 have hin:=hN L p c n st hL hsh hR hn hne
 repeat' (first
 |(refine al ?_;first
 |refine aB (v:=.func _ _) rfl rfl rfl ?_
 |refine mR ?_
 |(refine a7 rfl rfl rfl hin ?_<;>intro r1 st1 hp1)
 |refine bD rfl rfl rfl ?_
 |refine Hd ?_)
 |refine Ir ?_)
 obtain⟨rfl,hF,hR1⟩:=hp1
 skip
 exact⟨.inl rfl,_,rfl,rfl,hF,hR1⟩
/-! ### One of each -/
def fx (x y:Rt):Bool:=decide (db x.hs x.ar y.hs y.ar=0)
theorem DL (x y:Rt) (hx:x.hs.length≤1000000) (hy:y.hs.length≤1000000):EvP Γ 73 [.agg [.slice .no 3 (x.hs.map Hp.e),.int .i64 x.ar],.agg [.slice .no 3 (y.hs.map Hp.e),.int .i64 y.ar]] (.bool (fx x y)):=by
 refine aJ rfl rfl ?_
 have hC:=fun t t'=>gl x.hs x.ar y.hs y.ar hx hy t t' 3 3 (.inl rfl) (.inl rfl)
 unfold fx
 generalize db x.hs x.ar y.hs y.ar=cc at*
 by_cases h:cc=0
 ·subst h
  repeat' (first
 |(refine al ?_;first
 |refine mB ?_
 |refine cb rfl rfl rfl rfl (by omega) ?_
 |refine lO (d:=.agg [_,_]) ?_
 |refine cA rfl (hC _ _) ?_
 |refine cm rfl rfl rfl rfl rfl ?_
 |refine Hd ?_)
 |refine He ?_
 |refine Ir ?_
 |refine an ?_)
  all_goals first|exact aK (.inr rfl) rfl rfl|(exfalso;omega)
 ·rw[decide_eq_false h]
  repeat' (first
 |(refine al ?_;first
 |refine mB ?_
 |refine b7 rfl rfl rfl rfl (by omega) ?_
 |refine lO (d:=.agg [_,_]) ?_
 |refine cA rfl (hC _ _) ?_
 |refine cm rfl rfl rfl rfl rfl ?_
 |refine Hd ?_)
 |refine He ?_
 |refine Ir ?_
 |refine an ?_)
  all_goals first|exact aK (.inr rfl) rfl rfl|(exfalso;omega)
def dd (z:Rt):List Rt→List Rt
 |[]=>[]
 |x::p=>if fx x z then dd x p else x::dd x p
def D3:List Rt→List Rt
 |[]=>[]
 |y::r=>y::dd y r
theorem Ej {W J post:List Rt} {x j:Rt}:((W++j::J).map Rt.e).set W.length x.e=(W++x::J).map Rt.e:=by
 induction W with
 |nil=>rfl
 |cons z A ih=>simpa using ih
theorem jz {α:Type} (J:List α) (z:α):∃j0 J',J++[z]=j0::J'∧J'.length=J.length:=by
 cases J with
 |nil=>exact⟨z,[],rfl,rfl⟩
 |cons a J=>exact⟨a,J++[z],rfl,by simp⟩
set_option maxHeartbeats 8000000 in
theorem Gj (p n c k0:Nat) (hnl:n≤1000000):∀(T W J:List Rt) (z:Rt) (km:Nat),n=(W++J++z::T).length→k0+km=(W++J).length→bA (W++J++z::T)→∀(ρ:Nat→D) (st:Store),RowIs st p 2 ((W++J++z::T).map Rt.e)→
  ρ 0=.rs p 0 2 n c→ρ 1=.func 73 []→ρ 5=.int .i64 W.length→ρ 6=.rs p (0+k0*2) 2 (n - k0) (c - k0)→ρ 7=.int .i64 ((km+1:Nat):Int)→∀(Q:X→(Nat→D)→Store→Prop),
  (∀ρ' st' J',FrR st st' p→RowIs st' p 2 ((W++dd z T++J').map Rt.e)→n=(W++dd z T++J').length→ρ' 0=.rs p 0 2 n c→ρ' 5=.int .i64 ((W++dd z T).length:Nat)→Q (.exit 2) ρ' st')→WC Γ (.loop dt) ρ st Q:=by
 intro T
 induction T with
 |nil=>
  intro W J z km hn hk hsh ρ st hR h0 h1 h5 h6 h7 Q hQ
  have hge:((n - k0:Nat):Int)≤((km+1:Nat):Int):=by
   have:n=k0+km+1:=by rw[hn,hk];simp;omega
   omega
  rw[←aa h0,←aa h1,←aa h5,←aa h6,←aa h7]
  refine Hh ?_
  repeat' (first
 |(refine al ?_;first
 |refine lF (p:=hge) ?_
 |refine mI ?_
 |refine mR ?_
 |refine bD rfl rfl rfl ?_
 |refine Hd ?_)
 |refine He ?_
 |refine Ir ?_
 |refine ah rfl ?_
 |refine Hi ?_)
  refine hQ _ _ (J++[z]) (FrR.refl _ _) (by simpa[dd]using hR) (by rw[hn];simp[dd]) ?_ ?_
  ·rfl
  ·rw[dd,List.append_nil];rfl
 |cons x T ih=>
  intro W J z km hn hk hsh ρ st hR h0 h1 h5 h6 h7 Q hQ
  have hlen:n=k0+km+1+(x::T).length:=by rw[hn,hk];simp;omega
  have hTl:(x::T).length=T.length+1:=rfl
  have hlt:((km+1:Nat):Int)<((n - k0:Nat):Int):=by omega
  have hj1:km+1<n - k0:=by omega
  have hj0:km<n - k0:=by omega
  have hsub:IntKind.i64.wrap (((km+1:Nat):Int) - 1)=((km:Nat):Int):=by rw[ea (by omega)];omega
  have hadd:IntKind.i64.wrap (((km+1:Nat):Int)+1)=((km+1+1:Nat):Int):=by rw[ea (by omega)];omega
  have hWn:W.length<n:=by rw[hn];simp;omega
  have hz1:0+k0*2+(km+1)*2=((W++J).length+1)*2:=by omega
  have hz0:0+k0*2+km*2=(W++J).length*2:=by omega
  have hx:(W++J++z::x::T)[(W++J).length+1]?=some x:=by
   rw[List.getElem?_append_right (by omega)];simp
  have hz:(W++J++z::x::T)[(W++J).length]?=some z:=by
   rw[List.getElem?_append_right (by omega)];simp
  have hx':=fy hx
  have hzz:=fy hz
  have hxl:=hsh x (by simp)
  have hzl:=hsh z (by simp)
  have hC:=DL x z hxl hzl
  by_cases he:fx x z=true
  ·rw[he]at hC
   have e1:W++J++z::x::T=W++(J++[z])++x::T:=by simp
   rw[dd,if_pos he]at hQ
   have hnx:=ih W (J++[z]) x (km+1) (by rw[hn,e1]) (by rw[←Nat.add_assoc,hk];simp;omega) (by rw[←e1];exact hsh)
   clear ih
   rw[←aa h0,←aa h1,←aa h5,←aa h6,←aa h7]
   refine Hh ?_
   repeat' (first
 |(refine al ?_;first
 |refine lT (p:=hlt) ?_
 |refine aS (s:=((km:Nat):Int)) (hs:=hsub) ?_
 |refine aD (s:=((km+1+1:Nat):Int)) (hs:=hadd) ?_
 |refine aA (j:=km+1) rfl rfl rfl rfl hj1 ?_
 |refine aA (j:=km) rfl rfl rfl rfl hj0 ?_
 |refine mI ?_
 |refine aB (v:=.func _ _) rfl rfl rfl ?_
 |refine mR ?_
 |refine aH (j:=(W++J).length+1) rfl rfl hR.at hz1 aC hx' rfl ?_
 |refine aH (j:=(W++J).length) rfl rfl hR.at hz0 aC hzz rfl ?_
 |refine cA rfl hC ?_
 |refine nT ?_
 |refine bD rfl rfl rfl ?_
 |refine Hd ?_)
 |refine au (aE rfl) ?_
 |refine He ?_
 |refine Ir ?_
 |refine ay ?_
 |refine Hg ?_
 |refine aj rfl ?_
 |refine ah rfl ?_
 |refine Hf ?_)
   rw[e1]at hR
   refine hnx _ _ hR ?_ ?_ ?_ ?_ ?_ Q hQ<;>rfl
  ·rw[Bool.not_eq_true]at he
   rw[he]at hC
   rw[dd,if_neg (by rw[he];decide)]at hQ
   obtain⟨j0,J',hJ,hJl⟩:=jz J z
   have e1:W++J++z::x::T=W++j0::(J'++x::T):=by
    rw[List.append_assoc,show J++z::x::T=(J++[z])++x::T from by simp,hJ];rfl
   have e2:W++x::(J'++x::T)=W++[x]++J'++x::T:=by simp
   have hnx:=ih (W++[x]) J' x (km+1) (by rw[hn,e1,←e2];simp) (by rw[←Nat.add_assoc,hk];simp;omega) (dD hsh (fun r hr=>by
    rw[e1]
    rw[←e2]at hr
    simp only[List.mem_append,List.mem_cons]at hr ⊢
    rcases hr with h|h|h|h|h<;>simp[h]))
   clear ih
   have hst:=@Ej W (J'++x::T) [] x j0
   have hW1:W.length<((W++J++z::x::T).map Rt.e).length:=by rw[List.length_map,←hn];exact hWn
   have hadd5:IntKind.i64.wrap ((W.length:Int)+1)=((W++[x]).length:Nat):=by rw[ea (by omega)];simp
   have hzw:0+W.length*2=W.length*2:=by omega
   rw[←aa h0,←aa h1,←aa h5,←aa h6,←aa h7]
   refine Hh ?_
   repeat' (first
 |(refine al ?_;first
 |refine lT (p:=hlt) ?_
 |refine aS (s:=((km:Nat):Int)) (hs:=hsub) ?_
 |refine aA (j:=km+1) rfl rfl rfl rfl hj1 ?_
 |refine aA (j:=km) rfl rfl rfl rfl hj0 ?_
 |refine aA (j:=W.length) rfl rfl rfl rfl hWn ?_
 |refine aD (s:=(((W++[x]).length:Nat):Int)) (hs:=hadd5) ?_
 |refine mI ?_
 |refine aB (v:=.func _ _) rfl rfl rfl ?_
 |refine mR ?_
 |refine aD ?_
 |refine aH (j:=(W++J).length+1) rfl rfl hR.at hz1 aC hx' rfl ?_
 |refine aH (j:=(W++J).length) rfl rfl hR.at hz0 aC hzz rfl ?_
 |refine cA rfl hC ?_
 |(refine ck (j:=W.length) rfl rfl rfl hR hzw aC hW1 rfl rfl rfl ?_<;>intro st1 f1 f2 f3 f4 f5 hR1 hb2)
 |refine nT ?_
 |refine bD rfl rfl rfl ?_
 |refine Hd ?_)
 |refine au (aE rfl) ?_
 |refine He ?_
 |refine Ir ?_
 |refine ay ?_
 |refine Hg ?_
 |refine aj rfl ?_
 |refine Hf ?_)
   skip
   have hR3:RowIs st1 p 2 ((W++[x]++J'++x::T).map Rt.e):=by
    rw[←e2,←hst,←e1];exact hR1
   refine hnx _ _ hR3 ?_ ?_ ?_ ?_ ?_ Q (fun ρ' st' J2 hF hR' hn' k0' k5'=>hQ ρ' st' J2 (FrR.trans ⟨f1,f2,f3,f4,f5,hb2⟩ hF) (by simpa using hR') (by simpa using hn') k0' (by rw[k5'];simp))<;>rfl
end Go.Bes
/-
  Merging, as plain lists: two sorted ones; the stable sort of two parts.
-/
namespace Go.Bes
open Go.Ev
theorem gO {x y:Rt}:eW x y=true↔db x.hs x.ar y.hs y.ar<0:=by unfold eW;exact decide_eq_true_iff
def pm (x y:Rt):Prop:=db x.hs x.ar y.hs y.ar≤0
theorem cS {x y:Rt}:pm x y↔eW y x=false:=by
 have h:=iU x.hs x.ar y.hs y.ar
 unfold pm
 rw[←Bool.not_eq_true,gO]
 omega
theorem cN {x y z:Rt} (h1:pm x y) (h2:pm y z):pm x z:=(qc x.hs x.ar y.hs y.ar z.hs z.ar).1 h1 h2
theorem gm {x y:Rt} (h:eW x y=true):pm x y:=Int.le_of_lt (gO.1 h)
theorem rk {x y z:Rt} (h1:eW x y=true) (h2:pm y z):eW x z=true:=by
 cases h:eW x z with
 |true=>rfl
 |false=>
  have:=cS.1 (cN h2 (cS.2 h))
  rw[h1]at this
  cases this
theorem vd {x y z:Rt} (h1:pm x y) (h2:eW y z=true):eW x z=true:=by
 cases h:eW x z with
 |true=>rfl
 |false=>
  have:=cS.1 (cN (cS.2 h) h1)
  rw[h2]at this
  cases this
def fw (l:List Rt):Prop:=l.Pairwise pm
def fY (x:Rt):List Rt→List Rt
 |[]=>[x]
 |y::r=>if eW x y then x::y::r else y::fY x r
theorem sj (x y:Rt):∀S:List Rt,fw (S++[y])→fY x (S++[y])=if eW x y then fY x S++[y]else S++[y,x]
 |[],h=>by
  rw[List.nil_append,fY,fY]
  split
  ·simp
  ·simp[fY]
 |z::S,h=>by
  rw[List.cons_append,fY]
  have hz:=List.pairwise_cons.1 h
  by_cases hx:eW x z=true
  ·rw[if_pos hx,if_pos (rk hx (hz.1 y (by simp))),fY,if_pos hx]
   simp
  ·rw[if_neg hx,sj x y S hz.2,fY,if_neg hx]
   split<;>simp
theorem xA (x:Rt) (S:List Rt) (h:fw S):fH S x=fY x S:=by
 induction hn:S.length generalizing S with
 |zero=>
  obtain rfl:=List.length_eq_zero_iff.1 hn
  rfl
 |succ n ih=>
  rcases List.eq_nil_or_concat S with h'|⟨S',y,h'⟩
  ·subst h';simp at hn
  ·rw[List.concat_eq_append]at h'
   subst h'
   rw[ox,sj x y S' h,ih S' (List.pairwise_append.1 h).1 (by simpa using hn)]
theorem u9 (x r:Rt):∀S:List Rt,r∈fY x S↔r=x∨r∈S
 |[]=>by simp[fY]
 |y::S=>by
  rw[fY]
  split
  ·simp
  ·simp only[List.mem_cons,u9 x r S]
   constructor
   ·rintro (h|h|h)<;>simp[h]
   ·rintro (h|h|h)<;>simp[h]
theorem wj (x:Rt):∀S:List Rt,fw S→fw (fY x S)
 |[],_=>by simp[fY,fw]
 |y::S,h=>by
  have hy:=List.pairwise_cons.1 h
  rw[fY]
  split
  ·rename_i hx
   refine List.pairwise_cons.2 ⟨fun z hz=>?_,h⟩
   rcases List.mem_cons.1 hz with rfl|hz
   ·exact gm hx
   ·exact cN (gm hx) (hy.1 z hz)
  ·rename_i hx
   refine List.pairwise_cons.2 ⟨fun z hz=>?_,wj x S hy.2⟩
   rcases(u9 x z S).1 hz with rfl|hz
   ·exact cS.2 (by simpa using hx)
   ·exact hy.1 z hz
theorem wD (x:Rt) (S:List Rt) (h:fw S):fw (fH S x):=by rw[xA x S h];exact wj x S h
theorem oD:∀(l S:List Rt),fw S→fw (l.foldl fH S)
 |[],S,h=>h
 |x::l,S,h=>oD l _ (wD x S h)
theorem jY (l:List Rt):fw (bh l):=oD l [] .nil
/-! ### Merging -/
def jV:List Rt→List Rt→List Rt
 |[],B=>B
 |A,[]=>A
 |a::A,b::B=>if eW b a then b::jV (a::A) B else a::jV A (b::B)
termination_by A B=>A.length+B.length
theorem gn (B:List Rt):jV [] B=B:=by rw[jV]
theorem gp (A:List Rt):jV A []=A:=by cases A<;>rw[jV];simp
theorem ii (a b:Rt) (A B:List Rt):jV (a::A) (b::B)=if eW b a then b::jV (a::A) B else a::jV A (b::B):=by rw[jV]
theorem uf:∀(n:Nat) (A B:List Rt),A.length+B.length≤n→(jV A B).length=A.length+B.length
 |_,[],B,_=>by simp[gn]
 |_,a::A,[],_=>by simp[gp]
 |0,a::A,b::B,h=>by simp at h
 |n+1,a::A,b::B,h=>by
  rw[ii]
  simp only[List.length_cons]at h ⊢
  split
  ·rw[List.length_cons,uf n (a::A) B (by simp;omega)];simp;omega
  ·rw[List.length_cons,uf n A (b::B) (by simp;omega)];simp;omega
theorem om (r:Rt):∀(n:Nat) (A B:List Rt),A.length+B.length≤n→(r∈jV A B↔r∈A∨r∈B)
 |_,[],B,_=>by simp[gn]
 |_,a::A,[],_=>by simp[gp]
 |0,a::A,b::B,h=>by simp at h
 |n+1,a::A,b::B,h=>by
  rw[ii]
  simp only[List.length_cons]at h
  split
  ·rw[List.mem_cons,om r n (a::A) B (by simp;omega)]
   simp only[List.mem_cons]
   constructor
   ·rintro (h|(h|h)|h)<;>simp[h]
   ·rintro ((h|h)|h|h)<;>simp[h]
  ·rw[List.mem_cons,om r n A (b::B) (by simp;omega)]
   simp only[List.mem_cons]
   constructor
   ·rintro (h|h|h|h)<;>simp[h]
   ·rintro ((h|h)|h|h)<;>simp[h]
theorem eC:∀(n:Nat) (A1 B1 A2 B2:List Rt),A1.length+B1.length≤n→(∀b∈B1,∀a∈A2,eW b a=true)→(∀a∈A1,∀b∈B2,pm a b)→jV (A1++A2) (B1++B2)=jV A1 B1++jV A2 B2
 |_,[],[],A2,B2,_,_,_=>by simp[gn]
 |0,a::A1,B1,A2,B2,h,_,_=>by simp at h
 |0,[],b::B1,A2,B2,h,_,_=>by simp at h
 |n+1,[],b::B1,A2,B2,h,h1,h2=>by
  have ih:=eC n [] B1 A2 B2 (by simp at h ⊢;omega) (fun b hb=>h1 b (List.mem_cons_of_mem _ hb)) h2
  rw[List.nil_append,gn]at ih
  rw[List.nil_append,gn,List.cons_append]
  cases A2 with
  |nil=>rw[gn,gn];rfl
  |cons a A2=>rw[ii,if_pos (h1 b List.mem_cons_self a List.mem_cons_self),ih];rfl
 |n+1,a::A1,[],A2,B2,h,h1,h2=>by
  have ih:=eC n A1 [] A2 B2 (by simp at h ⊢;omega) h1 (fun a ha=>h2 a (List.mem_cons_of_mem _ ha))
  rw[List.nil_append,gp]at ih
  rw[List.nil_append,gp,List.cons_append]
  cases B2 with
  |nil=>rw[gp,gp];rfl
  |cons b B2=>
   rw[ii,if_neg (by rw[cS.1 (h2 a List.mem_cons_self b List.mem_cons_self)];decide),ih];rfl
 |n+1,a::A1,b::B1,A2,B2,h,h1,h2=>by
  have i1:=eC n (a::A1) B1 A2 B2 (by simp at h ⊢;omega) (fun b hb=>h1 b (List.mem_cons_of_mem _ hb)) h2
  have i2:=eC n A1 (b::B1) A2 B2 (by simp at h ⊢;omega) h1 (fun a ha=>h2 a (List.mem_cons_of_mem _ ha))
  rw[List.cons_append,List.cons_append,ii,ii]
  split
  ·rw[←List.cons_append,i1];rfl
  ·rw[←List.cons_append,i2];rfl
theorem pw (x:Rt):∀(n:Nat) (S T:List Rt),S.length+T.length≤n→jV S (fY x T)=fY x (jV S T)
 |_,[],T,_=>by rw[gn,gn]
 |0,a::S,T,h=>by simp at h
 |n+1,a::S,[],h=>by
  have ih:=pw x n S [] (by simp at h ⊢;omega)
  rw[fY,gp]at ih
  rw[fY,ii,gp,fY]
  split
  ·rfl
  ·rw[ih]
 |n+1,a::S,b::T,h=>by
  have i1:=pw x n S (b::T) (by simp at h ⊢;omega)
  have i2:=pw x n (a::S) T (by simp at h ⊢;omega)
  rw[fY]
  by_cases hxb:eW x b=true
  ·rw[if_pos hxb,ii,ii a b]
   rw[fY,if_pos hxb]at i1
   by_cases hba:eW b a=true
   ·rw[if_pos (rk hxb (gm hba)),if_pos hba,fY,if_pos hxb]
   ·rw[if_neg hba,fY,i1]
  ·rw[if_neg hxb,ii,ii]
   rw[fY,if_neg hxb]at i1
   by_cases hba:eW b a=true
   ·rw[if_pos hba,if_pos hba,fY,if_neg hxb,i2]
   ·rw[if_neg hba,if_neg hba,fY,i1,if_neg]
    intro hxa
    rw[Bool.not_eq_true]at hxb hba
    have:=cS.1 (cN (cS.2 hba) (cS.2 hxb))
    rw[hxa]at this
    cases this
theorem um:∀(n:Nat) (A B:List Rt),A.length+B.length≤n→fw A→fw B→fw (jV A B)
 |_,[],B,_,_,h=>by rw[gn];exact h
 |_,a::A,[],_,h,_=>by rw[gp];exact h
 |0,a::A,b::B,h,_,_=>by simp at h
 |n+1,a::A,b::B,h,hA,hB=>by
  have i1:=um n (a::A) B (by simp at h ⊢;omega) hA (List.pairwise_cons.1 hB).2
  have i2:=um n A (b::B) (by simp at h ⊢;omega) (List.pairwise_cons.1 hA).2 hB
  rw[ii]
  split
  ·rename_i hba
   refine List.pairwise_cons.2 ⟨fun z hz=>?_,i1⟩
   rcases(om z _ (a::A) B (Nat.le_refl _)).1 hz with hz|hz
   ·rcases List.mem_cons.1 hz with rfl|hz
    ·exact gm hba
    ·exact cN (gm hba) ((List.pairwise_cons.1 hA).1 z hz)
   ·exact(List.pairwise_cons.1 hB).1 z hz
  ·rename_i hba
   have hab:pm a b:=cS.2 (by simpa using hba)
   refine List.pairwise_cons.2 ⟨fun z hz=>?_,i2⟩
   rcases(om z _ A (b::B) (Nat.le_refl _)).1 hz with hz|hz
   ·exact(List.pairwise_cons.1 hA).1 z hz
   ·rcases List.mem_cons.1 hz with rfl|hz
    ·exact hab
    ·exact cN hab ((List.pairwise_cons.1 hB).1 z hz)
theorem vC (S:List Rt):∀(B T:List Rt),fw S→fw T→jV S (B.foldl fH T)=B.foldl fH (jV S T)
 |[],_,_,_=>rfl
 |x::B,T,hS,hT=>by
  rw[List.foldl_cons,List.foldl_cons,vC S B (fH T x) hS (wD x T hT),xA x T hT,pw x _ S T (Nat.le_refl _),xA x _ (um _ S T (Nat.le_refl _) hS hT)]
theorem sD (A B:List Rt):bh (A++B)=jV (bh A) (bh B):=by
 unfold bh
 rw[List.foldl_append,vC _ B [] (oD A [] .nil) .nil,gp]
end Go.Bes
/-
  Sort.
-/
namespace Go.Bes
open Go.Ev
theorem EN {M J:List Rt}:(M++J).map Rt.e=M.map Rt.e++J.map Rt.e:=List.map_append
set_option maxHeartbeats 8000000 in
theorem F9 (p n c:Nat) (hnl:n≤1000000) (hc:n≤c):∀(T A0:List Rt) (y:Rt),n=(A0++y::T).length→bA (A0++y::T)→∀(ρ:Nat→D) (st:Store),RowIs st p 2 ((A0++y::T).map Rt.e)→
  ρ 0=.rs p 0 2 n c→ρ 1=.func 73 []→ρ 5=.int .i64 ((A0.length+1:Nat):Int)→∀(Q:X→(Nat→D)→Store→Prop),
  (∀ρ',dd y T=T→ρ' 0=.rs p 0 2 n c→Q (.exit 0) ρ' st)→
  (∀ρ' st',FrR st st' p→RowIs st' p 2 ((A0++y::dd y T).map Rt.e)→ρ' 4=.rs p 0 2 (A0++y::dd y T).length c→Q .ret ρ' st')→WC Γ (.loop dq) ρ st Q:=by
 intro T
 induction T with
 |nil=>
  intro A0 y hn hsh ρ st hR h0 h1 h5 Q hQ hQ'
  have hge:(n:Int)≤((A0.length+1:Nat):Int):=by rw[hn];simp
  rw[←aa h0,←aa h1,←aa h5]
  refine Hh ?_
  repeat' (first
 |(refine al ?_;first
 |refine lF (p:=hge) ?_
 |refine mI ?_
 |refine mR ?_
 |refine bD rfl rfl rfl ?_
 |refine Hd ?_)
 |refine He ?_
 |refine Ir ?_
 |refine ah rfl ?_
 |refine Hi ?_)
  exact hQ _ rfl rfl
 |cons x T ih=>
  intro A0 y hn hsh ρ st hR h0 h1 h5 Q hQ hQ'
  have hln:A0.length+1<n:=by rw[hn];simp
  have hlt:((A0.length+1:Nat):Int)<(n:Int):=by omega
  have hA0:A0.length<n:=by omega
  have hsub:IntKind.i64.wrap (((A0.length+1:Nat):Int) - 1)=((A0.length:Nat):Int):=by rw[ea (by omega)];omega
  have hadd:IntKind.i64.wrap (((A0.length+1:Nat):Int)+1)=(((A0++[y]).length+1:Nat):Int):=by rw[ea (by omega)];simp
  have hx:(A0++y::x::T)[A0.length+1]?=some x:=by
   rw[List.getElem?_append_right (by omega)];simp
  have hy:(A0++y::x::T)[A0.length]?=some y:=by
   rw[List.getElem?_append_right (by omega)];simp
  have hx':=fy hx
  have hy':=fy hy
  have hxl:=hsh x (by simp)
  have hyl:=hsh y (by simp)
  have hC:=DL x y hxl hyl
  have hz1:0+(A0.length+1)*2=(A0.length+1)*2:=by omega
  have hz0:0+A0.length*2=A0.length*2:=by omega
  by_cases he:fx x y=true
  ·rw[he]at hC
   have e1:A0++y::x::T=(A0++[y])++[]++x::T:=by simp
   have hin:=Gj p n c (A0.length+1) hnl T (A0++[y]) [] x 0 (by rw[hn,e1]) (by simp) (by rw[←e1];exact hsh)
   rw[dd,if_pos he]at hQ'
   have hle:A0.length+1≤n:=by omega
   have hW5:D.int .i64 ((A0.length+1:Nat):Int)=D.int .i64 ((A0++[y]).length:Nat):=by simp
   clear ih
   rw[←aa h0,←aa h1,←aa h5]
   refine Hh ?_
   rw[e1]at hR
   have ly:=hx'
   have hy2:=hy'
   rw[e1]at ly hy2
   repeat' (first
 |(refine al ?_;first
 |refine lT (p:=hlt) ?_
 |refine aS (s:=((A0.length:Nat):Int)) (hs:=hsub) ?_
 |refine aA (j:=A0.length+1) rfl rfl rfl rfl hln ?_
 |refine aA (j:=A0.length) rfl rfl rfl rfl hA0 ?_
 |refine nl (j:=A0.length+1) rfl rfl rfl hle hc rfl ?_
 |refine mI ?_
 |refine aB (v:=.func _ _) rfl rfl rfl ?_
 |refine mR ?_
 |refine aH (j:=A0.length+1) rfl rfl hR.at hz1 aC ly rfl ?_
 |refine aH (j:=A0.length) rfl rfl hR.at hz0 aC hy2 rfl ?_
 |refine cA rfl hC ?_
 |refine bD rfl rfl rfl ?_
 |refine Hd ?_)
 |refine au (aE rfl) ?_
 |(refine hin _ _ hR ?_ ?_ ?_ ?_ ?_ _ ?_<;>first|rfl|exact hW5|(intro ρ2 st2 J2 hF hR2 hn2 k0 k5))
 |refine He ?_
 |refine Ir ?_
 |refine ay ?_
 |refine Hg ?_
 |refine aj rfl ?_
 |refine Hf ?_)
   rw[←aa k0,←aa k5]
   have hspl:n=((A0++[y])++dd x T).length+J2.length:=by rw[hn2];exact List.length_append
   have hM:((A0++[y])++dd x T).length≤n:=by rw[hspl];exact Nat.le_add_right _ _
   have hMc:((A0++[y])++dd x T).length≤c:=Nat.le_trans hM hc
   have hMz:0+((A0++[y])++dd x T).length*2=(((A0++[y])++dd x T).map Rt.e).length*2:=by rw[List.length_map];omega
   have hMn:n - ((A0++[y])++dd x T).length=(J2.map Rt.e).length:=by rw[List.length_map];omega
   rw[EN]at hR2
   have e3:A0++[y]++dd x T=A0++y::dd x T:=by simp
   generalize hMM:A0++[y]++dd x T=M at*
   rw[←e3]at hQ'
   generalize hml:M.length=m at*
   have hasm:bL (D.int .i64 (m:Int))=some m:=by simp[bL]
   repeat' (first
 |(refine al ?_;first
 |refine nl (j:=m) rfl rfl hasm hM hc rfl ?_
 |refine nr (j:=m) rfl rfl hasm hMc rfl ?_
 |(refine qp rfl rfl hR2 hMz rfl hMn aC rfl rfl rfl ?_<;>intro st3 f1 f2 f3 f4 f5 hR3 hb2)
 |refine mI ?_
 |refine mR ?_
 |refine Hd ?_)
 |refine He ?_
 |refine Ir ?_
 |refine an ?_)
   skip
   refine hQ' _ _ (hF.trans ⟨f1,f2,f3,f4,f5,hb2⟩) hR3 ?_
   rfl
  ·rw[Bool.not_eq_true]at he
   rw[he]at hC
   have e1:A0++y::x::T=(A0++[y])++x::T:=by simp
   rw[dd,if_neg (by rw[he];decide)]at hQ hQ'
   have hnx:=ih (A0++[y]) x (by rw[hn,e1]) (by rw[←e1];exact hsh)
   clear ih
   rw[←aa h0,←aa h1,←aa h5]
   refine Hh ?_
   repeat' (first
 |(refine al ?_;first
 |refine lT (p:=hlt) ?_
 |refine aS (s:=((A0.length:Nat):Int)) (hs:=hsub) ?_
 |refine aD (s:=(((A0++[y]).length+1:Nat):Int)) (hs:=hadd) ?_
 |refine aA (j:=A0.length+1) rfl rfl rfl rfl hln ?_
 |refine aA (j:=A0.length) rfl rfl rfl rfl hA0 ?_
 |refine mI ?_
 |refine aB (v:=.func _ _) rfl rfl rfl ?_
 |refine mR ?_
 |refine aH (j:=A0.length+1) rfl rfl hR.at hz1 aC hx' rfl ?_
 |refine aH (j:=A0.length) rfl rfl hR.at hz0 aC hy' rfl ?_
 |refine cA rfl hC ?_
 |refine bD rfl rfl rfl ?_
 |refine Hd ?_)
 |refine au (aE rfl) ?_
 |refine He ?_
 |refine Ir ?_
 |refine ay ?_
 |refine Hg ?_
 |refine aj rfl ?_
 |refine ah rfl ?_
 |refine Hf ?_)
   rw[e1]at hR
   refine hnx _ _ hR ?_ ?_ ?_ Q (fun ρ' h k0=>hQ ρ' (by rw[h]) k0) (fun ρ' st' hF hR' k4=>hQ' ρ' st' hF (by simpa using hR') (by rw[k4];simp))<;>rfl
theorem GI (L:List Rt) (p n c:Nat) (st:Store) (hnl:n≤1000000) (hc:n≤c) (hn:n=L.length) (hne:L≠[]) (hsh:bA L) (hR:RowIs st p 2 (L.map Rt.e)):
  EvRWX Γ 72 [.rs p 0 2 n c,.func 73 []] st (fun r st'=>r=.rs p 0 2 (D3 L).length c∧FrR st st' p∧RowIs st' p 2 ((D3 L).map Rt.e)):=by
 refine aR rfl rfl ?_
 cases L with
 |nil=>exact absurd rfl hne
 |cons y T=>
  have hlo:=F9 p n c hnl hc T [] y hn hsh
  by_cases h2:n<2
  ·have hT:T=[]:=by
    cases T with
    |nil=>rfl
    |cons a b=>simp at hn;omega
   subst hT
   have hn1:n=1:=hn
   subst hn1
   repeat' (first
 |(refine al ?_;first
 |refine mS ?_
 |refine mR ?_
 |refine lT ?_
 |refine bD rfl rfl rfl ?_
 |refine Hd ?_)
 |refine He ?_
 |refine Ir ?_
 |refine aj rfl ?_
 |refine an ?_)
   exact⟨.inr rfl,_,rfl,rfl,FrR.refl _ _,hR⟩
  ·have hge:(2:Int)≤(n:Int):=by omega
   repeat' (first
 |(refine al ?_;first
 |refine lF (p:=hge) ?_
 |refine mI ?_
 |refine mS ?_
 |refine mR ?_
 |refine bD rfl rfl rfl ?_
 |refine Hd ?_)
 |(refine hlo _ _ hR ?_ ?_ ?_ _ ?_ ?_<;>first|rfl|(intro ρ2 st2 hF hR2 k4)|(intro ρ2 hd k0))
 |refine He ?_
 |refine Ir ?_
 |refine Hg ?_
 |refine ah rfl ?_
 |refine Hf ?_)
   ·rw[←aa k0]
    repeat' (first
 |(refine al ?_;first
 |refine mR ?_
 |refine Hd ?_)
 |refine an ?_)
    refine⟨.inr rfl,_,rfl,?_,FrR.refl _ _,?_⟩
    ·rw[D3,hd,←hn];rfl
    ·rw[D3,hd];exact hR
   ·exact⟨.inr rfl,_,congrArg some k4,rfl,hF,hR2⟩
end Go.Bes
/-
  Sort, of so many as the stable sort is known for.
-/
namespace Go.Bes
open Go.Ev
def cQ (L:List Rt):List Rt:=D3 (bh L)
theorem Cr {L:List Rt} (h:L≠[]):bh L≠[]:=fun h'=>h (by
 have:=cL L
 rw[h']at this
 exact List.length_eq_zero_iff.1 this.symm)
theorem uW {L:List Rt} (h:bA L):bA (bh L):=dD h (fun r hr=>(iT r L).1 hr)
theorem zT (L:List Rt) (hsh:bA L) (hLl:L.length≤1000000) (hne:L≠[]) (t:Tok) (s:Nat) (hs:s=2∨L=[]):EvP Γ 55 [.slice t s (L.map Rt.e)] (.slice .row 2 (L.map Rt.e)):=by
 obtain⟨r,hr,h⟩:=vW L hsh hLl hne t s hs
 rcases hr with⟨h',_⟩|rfl
 ·exact absurd h' hne
 ·exact h
theorem Dw {L:List Rt}:∀d∈L.map Rt.e,eb 2 d:=fun d hd=>by
 obtain⟨r,_,rfl⟩:=List.mem_map.1 hd
 exact(ru r).1
set_option maxHeartbeats 4000000 in
theorem E2 {N:Nat} (hN:xH N) (L:List Rt) (hL:L.length≤N) (hNl:N≤1000000) (hsh:bA L) (hne:L≠[]) (t:Tok) (s:Nat) (hs:s=2∨L=[]):
  EvX Γ 54 [.slice t s (L.map Rt.e)] (IsR Rt.e 2 (cQ L)):=by
 refine bR rfl rfl ?_
 have hcl:=fun t=>zT L hsh (by omega) hne t s hs
 have hel:Store.empty.lim≤Store.empty.next:=Nat.le_refl _
 have hlen:(L.map Rt.e).length=L.length:=List.length_map _
 repeat' (first
 |(refine al ?_;first
 |refine mS ?_
 |refine mR ?_
 |(refine xE rfl rfl rfl (hcl _) rfl rfl Dw hel ?_<;>intro st1 k1 k2 k3 k4 hR1 k5 k6)
 |refine Hd ?_)
 |refine He ?_
 |refine Ir ?_)
 rw[hlen]
 generalize Store.empty.next=p at*
 have h2:=ur hN L p L.length L.length st1 hL hsh hR1 rfl hne
 repeat' (first
 |(refine al ?_;first
 |refine mR ?_
 |(refine a7 rfl rfl rfl h2 ?_<;>intro r2 st2 hp2)
 |refine Hd ?_)
 |refine He ?_
 |refine Ir ?_)
 obtain⟨rfl,hF2,hR2⟩:=hp2
 have h3:=GI (bh L) p L.length L.length st2 (by omega) (Nat.le_refl _) (cL L).symm (Cr hne) (uW hsh) hR2
 repeat' (first
 |(refine al ?_;first
 |(refine a7 rfl rfl rfl h3 ?_<;>intro r3 st3 hp3)))
 obtain⟨rfl,hF3,hR3⟩:=hp3
 repeat' (first
 |(refine al ?_;first
 |refine mR ?_
 |refine Hd ?_)
 |refine an ?_)
 exact tX (.inr rfl) rfl (.inr ⟨p,_,_,rfl,rfl,hR3⟩) (by decide) sS rfl
/-! ### Two routes -/
theorem jE {x y:Rt}:eW x y=true↔db x.hs x.ar y.hs y.ar<0:=by unfold eW;exact decide_eq_true_iff
theorem df {x y:Rt}:fx x y=true↔db x.hs x.ar y.hs y.ar=0:=by unfold fx;exact decide_eq_true_iff
end Go.Bes
/-
  What is sorted: strictly rising, one of each place, sorted again the same. Plain.
-/
namespace Go.Bes
open Go.Ev
def rj (l:List Rt):Prop:=l.Pairwise (fun a b=>eW a b=true)
theorem jx {x y:Rt} (h:fx x y=true):fx y x=true:=by
 have:=iU x.hs x.ar y.hs y.ar
 rw[df]at h ⊢
 omega
theorem nU {x y z:Rt} (h:fx x y=true) (h2:fx y z=true):fx x z=true:=by
 rw[df]at h h2 ⊢
 rw[←(qc x.hs x.ar y.hs y.ar z.hs z.ar).2 h,h2]
theorem DP {x y:Rt} (h:pm x y) (h2:¬fx y x=true):eW x y=true:=by
 rw[jE]
 have:=iU x.hs x.ar y.hs y.ar
 rw[df]at h2
 unfold pm at h
 omega
theorem Cs:∀(l:List Rt) (z:Rt),fw (z::l)→(∀y∈dd z l,eW z y=true)∧rj (dd z l)
 |[],z,_=>⟨fun y h=>absurd h List.not_mem_nil,.nil⟩
 |x::l,z,h=>by
  have h1:=List.pairwise_cons.1 h
  have hzx:=h1.1 x List.mem_cons_self
  obtain⟨i1,i2⟩:=Cs l x h1.2
  rw[dd]
  split
  ·exact⟨fun y hy=>vd hzx (i1 y hy),i2⟩
  ·rename_i hne
   refine⟨fun y hy=>?_,List.pairwise_cons.2 ⟨i1,i2⟩⟩
   rcases List.mem_cons.1 hy with rfl|hy
   ·exact DP hzx hne
   ·exact vd hzx (i1 y hy)
theorem Dz (l:List Rt) (h:fw l):rj (D3 l):=by
 cases l with
 |nil=>exact .nil
 |cons y r=>
  obtain⟨i1,i2⟩:=Cs r y h
  exact List.pairwise_cons.2 ⟨i1,i2⟩
theorem s8 (L:List Rt):rj (cQ L):=Dz _ (jY L)
theorem wZ:∀(l:List Rt) (z w r:Rt),fx w z=true→r∈l→∃y,(y=w∨y∈dd z l)∧fx y r=true
 |[],_,_,_,_,h=>absurd h List.not_mem_nil
 |x::l,z,w,r,hw,h=>by
  rw[dd]
  split
  ·rename_i he
   have hwx:fx w x=true:=nU hw (jx he)
   rcases List.mem_cons.1 h with rfl|h
   ·exact⟨w,.inl rfl,hwx⟩
   ·exact wZ l x w r hwx h
  ·rcases List.mem_cons.1 h with rfl|h
   ·exact⟨r,.inr List.mem_cons_self,by rw[df];exact dO _ _⟩
   ·obtain⟨y,hy,hyr⟩:=wZ l x x r (by rw[df];exact dO _ _) h
    rcases hy with rfl|hy
    ·exact⟨y,.inr List.mem_cons_self,hyr⟩
    ·exact⟨y,.inr (List.mem_cons_of_mem _ hy),hyr⟩
theorem zw (L:List Rt) {r:Rt} (h:r∈L):∃y∈cQ L,fx y r=true:=by
 have h':=(iT r L).2 h
 unfold cQ
 cases hs:bh L with
 |nil=>rw[hs]at h';exact absurd h' List.not_mem_nil
 |cons z l=>
  rw[hs]at h'
  rw[D3]
  rcases List.mem_cons.1 h' with rfl|h'
  ·exact⟨r,List.mem_cons_self,by rw[df];exact dO _ _⟩
  ·obtain⟨y,hy,hyr⟩:=wZ l z z r (by rw[df];exact dO _ _) h'
   rcases hy with rfl|hy
   ·exact⟨y,List.mem_cons_self,hyr⟩
   ·exact⟨y,List.mem_cons_of_mem _ hy,hyr⟩
end Go.Bes
/-
  What is sorted holds the first one of each place. Plain.
-/
namespace Go.Bes
open Go.Ev
theorem uF (r x:Rt):([x]:List Rt).find? (fx r)=if fx r x then some x else none:=by
 rw[List.find?_cons]
 cases fx r x<;>rfl
theorem Dv (r x:Rt) (S:List Rt):(fH S x).find? (fx r)=(S.find? (fx r)).or (if fx r x then some x else none):=by
 induction hn:S.length generalizing S with
 |zero=>
  obtain rfl:=List.length_eq_zero_iff.1 hn
  rw[wC,uF]
  rfl
 |succ n ih=>
  rcases List.eq_nil_or_concat S with h'|⟨S',y,h'⟩
  ·subst h';simp at hn
  ·rw[List.concat_eq_append]at h'
   subst h'
   rw[ox]
   split
   ·rename_i hxy
    rw[List.find?_append,List.find?_append,ih S' (by simpa using hn),uF,Option.or_assoc,Option.or_assoc]
    congr 1
    by_cases hx:fx r x=true
    ·have hy:¬fx r y=true:=fun hy=>by
      have h1:=df.1 (nU (jx hx) hy)
      have h2:=jE.1 hxy
      omega
     rw[if_pos hx,if_neg hy];rfl
    ·rw[if_neg hx]
     cases (if fx r y=true then some y else none)<;>rfl
   ·rw[show S'++[y,x]=S'++[y]++[x]from by simp,List.find?_append,uF]
theorem yP (r:Rt):∀(l S:List Rt),(l.foldl fH S).find? (fx r)=(S.find? (fx r)).or (l.find? (fx r))
 |[],S=>by simp
 |x::l,S=>by
  rw[List.foldl_cons,yP r l,Dv,Option.or_assoc]
  congr 1
  rw[List.find?_cons]
  cases fx r x<;>rfl
theorem vp (r:Rt) (L:List Rt):(bh L).find? (fx r)=L.find? (fx r):=by
 rw[bh,yP];rfl
theorem Cb (r:Rt):∀(l:List Rt) (z w:Rt),fx w z=true→(w::dd z l).find? (fx r)=(w::l).find? (fx r)
 |[],_,_,_=>rfl
 |x::l,z,w,hw=>by
  rw[dd]
  split
  ·rename_i he
   have hwx:fx w x=true:=nU hw (jx he)
   rw[Cb r l x w hwx,List.find?_cons,List.find?_cons,List.find?_cons]
   cases h:fx r w with
   |true=>rfl
   |false=>
    have hx:fx r x=false:=by
     cases h2:fx r x with
     |false=>rfl
     |true=>rw[nU h2 (jx hwx)]at h;cases h
    rw[hx]
  ·have:=Cb r l x x (by rw[df];exact dO _ _)
   rw[List.find?_cons,this,List.find?_cons (a:=w)]
theorem Bk (r:Rt) (l:List Rt):(D3 l).find? (fx r)=l.find? (fx r):=by
 cases l with
 |nil=>rfl
 |cons z l=>exact Cb r l z z (by rw[df];exact dO _ _)
theorem xj {y:Rt}:∀{l:List Rt},rj l→y∈l→l.find? (fx y)=some y
 |[],_,h=>absurd h List.not_mem_nil
 |z::l,hs,h=>by
  have h1:=List.pairwise_cons.1 hs
  rw[List.find?_cons]
  rcases List.mem_cons.1 h with rfl|h
  ·rw[show fx y y=true from by rw[df];exact dO _ _]
  ·have hzy:=h1.1 y h
   have hne:fx y z=false:=by
    cases he:fx y z with
    |false=>rfl
    |true=>
     have h3:=df.1 (jx he)
     have h4:=jE.1 hzy
     omega
   rw[hne]
   exact xj h1.2 h
theorem pd (L:List Rt) {y:Rt} (h:y∈cQ L):L.find? (fx y)=some y:=by
 rw[←vp,←Bk]
 exact xj (s8 L) h
end Go.Bes
/-
  Rows that are sorted piece by piece, as plain lists.
-/
namespace Go.Bes
open Go.Ev
inductive Blk (k:Nat):List Rt→List Rt→Prop
 |nil:Blk k [] []
 |last {L:List Rt}:0<L.length→L.length≤k→Blk k L (bh L)
 |cons {Xs M M':List Rt}:Xs.length=k→Blk k M M'→Blk k (Xs++M) (bh Xs++M')
theorem Blk.len {k:Nat} {L L':List Rt} (h:Blk k L L'):L'.length=L.length:=by
 induction h with
 |nil=>rfl
 |last _ _=>exact cL _
 |cons _ _ ih=>rw[List.length_append,List.length_append,cL,ih]
theorem Blk.one {k:Nat} (hk:0<k) {L L':List Rt} (h:Blk k L L') (hl:L.length≤k):L'=bh L:=by
 cases h with
 |nil=>rfl
 |last _ _=>rfl
 |cons hx hm=>
  rename_i Xs M M'
  rw[List.length_append]at hl
  have h0:M=[]:=List.length_eq_zero_iff.1 (by omega)
  have h1:M'=[]:=List.length_eq_zero_iff.1 (by rw[hm.len,h0];rfl)
  rw[h0,h1,List.append_nil,List.append_nil]
theorem Blk.of {k:Nat} {L:List Rt} (hl:L.length≤k):Blk k L (bh L):=by
 by_cases h:L.length=0
 ·rw[List.length_eq_zero_iff.1 h];exact .nil
 ·exact .last (by omega) hl
theorem Blk.piece {k:Nat} (hk:0<k) {L L':List Rt} (h:Blk k L L') (hl:k≤L.length):∃Xs M M',Xs.length=k∧L=Xs++M∧L'=bh Xs++M'∧Blk k M M':=by
 cases h with
 |nil=>simp at hl;omega
 |last h1 h2=>exact⟨L,[],[],by omega,(List.append_nil _).symm,(List.append_nil _).symm,.nil⟩
 |cons hx hm=>exact⟨_,_,_,hx,rfl,rfl,hm⟩
theorem Blk.two {k:Nat} (hk:0<k) {L L':List Rt} (h:Blk k L L') (hl:2*k≤L.length):∃Xs Ys M M',Xs.length=k∧Ys.length=k∧L=Xs++Ys++M∧L'=bh Xs++bh Ys++M'∧Blk k M M':=by
 obtain⟨Xs,M,M',h1,rfl,rfl,h2⟩:=h.piece hk (by omega)
 rw[List.length_append]at hl
 obtain⟨Ys,N,N',h3,rfl,rfl,h4⟩:=h2.piece hk (by omega)
 exact⟨Xs,Ys,N,N',h1,h3,by simp,by simp,h4⟩
theorem Blk.rest {k:Nat} (hk:0<k) {L L':List Rt} (h:Blk k L L') (h1:k<L.length) (h2:L.length<2*k):∃Xs Ys,Xs.length=k∧0<Ys.length∧L=Xs++Ys∧L'=bh Xs++bh Ys:=by
 obtain⟨Xs,M,M',h3,rfl,rfl,h4⟩:=h.piece hk (by omega)
 rw[List.length_append]at h1 h2
 exact⟨Xs,M,h3,by omega,rfl,by rw[h4.one hk (by omega)]⟩
end Go.Bes
/-
  slices' swapRange and rotate, on a row of routes.
-/
namespace Go.Bes
open Go.Ev
theorem D4 {U V W:List Rt} {x y:Rt}:(((U++x::(V++y::W)).map Rt.e).set U.length y.e).set (U.length+1+V.length) x.e=(U++y::(V++x::W)).map Rt.e:=by
 induction U with
 |nil=>
  simp only[List.nil_append,List.map_cons,List.length_nil,List.set_cons_zero,Nat.zero_add]
  rw[Nat.add_comm 1,List.set_cons_succ]
  congr 1
  induction V with
  |nil=>rfl
  |cons z V ih=>simpa using ih
 |cons z U ih=>
  simp only[List.cons_append,List.map_cons,List.length_cons,List.set_cons_succ]
  rw[show U.length+1+1+V.length=(U.length+1+V.length)+1 from by omega,List.set_cons_succ,ih]
set_option maxHeartbeats 8000000 in
theorem Gs (p n c a b nn:Nat) (hnl:n≤1000000):∀(Xs Ys U V W:List Rt) (k:Nat),Xs.length=Ys.length→n=(U++Xs++V++Ys++W).length→a+k=U.length→b+k=(U++Xs++V).length→nn=k+Xs.length→∀(ρ:Nat→D) (st:Store),RowIs st p 2 ((U++Xs++V++Ys++W).map Rt.e)→
  ρ 0=.rs p 0 2 n c→ρ 1=.int .i64 a→ρ 2=.int .i64 b→ρ 3=.int .i64 nn→ρ 10=.int .i64 k→∀(Q:X→(Nat→D)→Store→Prop),
  (∀ρ' st',FrR st st' p→RowIs st' p 2 ((U++Ys++V++Xs++W).map Rt.e)→Q (.exit 0) ρ' st')→WC Γ (.loop cB) ρ st Q:=by
 intro Xs
 induction Xs with
 |nil=>
  intro Ys U V W k hXY hn ha hb hnn ρ st hR h0 h1 h2 h3 h10 Q hQ
  have hY:Ys=[]:=List.length_eq_zero_iff.1 hXY.symm
  subst hY
  have hnk:nn=k:=by simpa using hnn
  subst hnk
  rw[←aa h0,←aa h1,←aa h2,←aa h3,←aa h10]
  refine Hh ?_
  repeat' (first
 |(refine al ?_;first
 |refine mI ?_
 |refine lF ?_
 |refine Hd ?_)
 |refine He ?_
 |refine Ir ?_
 |refine ah rfl ?_
 |refine Hi ?_)
  exact hQ _ _ (FrR.refl _ _) hR
 |cons x Xs ih=>
  intro Ys U V W k hXY hn ha hb hnn ρ st hR h0 h1 h2 h3 h10 Q hQ
  cases Ys with
  |nil=>simp at hXY
  |cons y Ys=>
   have e1:U++(x::Xs)++V++(y::Ys)++W=U++x::((Xs++V)++y::(Ys++W)):=by simp
   have e2:U++y::((Xs++V)++x::(Ys++W))=(U++[y])++Xs++(V++[x])++Ys++W:=by simp
   have hnx:=ih Ys (U++[y]) (V++[x]) W (k+1) (by simpa using hXY) (by rw[←e2,hn,e1];simp) (by simp;omega) (by simp at hb ⊢;omega) (by rw[hnn];simp;omega)
   have hbl:b+k=U.length+1+(Xs++V).length:=by rw[hb];simp;omega
   rw[e1]at hR hn
   have hx:(U++x::((Xs++V)++y::(Ys++W)))[a+k]?=some x:=by rw[ha];simp
   have hy:(U++x::((Xs++V)++y::(Ys++W)))[b+k]?=some y:=by
    rw[hbl,List.getElem?_append_right (by omega),show U.length+1+(Xs++V).length - U.length=(Xs++V).length+1 from by omega,List.getElem?_cons_succ,List.getElem?_append_right (Nat.le_refl _)]
    simp
   have hx':=fy hx
   have hy':=fy hy
   have han:a+k<n:=by rw[hn,ha];simp
   have hbn:b+k<n:=by rw[hn,hbl];simp;omega
   have hlt:(k:Int)<(nn:Int):=by rw[hnn];simp;omega
   have hsa:IntKind.i64.wrap ((a:Int)+(k:Int))=((a+k:Nat):Int):=by rw[ea (by omega)];omega
   have hsb:IntKind.i64.wrap ((b:Int)+(k:Int))=((b+k:Nat):Int):=by rw[ea (by omega)];omega
   have hsk:IntKind.i64.wrap ((k:Int)+1)=((k+1:Nat):Int):=by rw[ea (by omega)];omega
   have hi1:a+k<((U++x::((Xs++V)++y::(Ys++W))).map Rt.e).length:=by rw[List.length_map,←hn];exact han
   have hsw:=@D4 U (Xs++V) (Ys++W) x y
   rw[←ha,show a+k+1+(Xs++V).length=b+k from by omega]at hsw
   clear ih
   generalize hL:U++x::((Xs++V)++y::(Ys++W))=L at*
   have hi2:b+k<((L.map Rt.e).set (a+k) (.agg [.slice .no 3 (y.hs.map Hp.e),.int .i64 y.ar])).length:=by rw[List.length_set,List.length_map,←hn];exact hbn
   have hcel:∀d∈((L.map Rt.e).set (a+k) (.agg [.slice .no 3 (y.hs.map Hp.e),.int .i64 y.ar])),d.cells.length=2:=by
    intro d hd
    rcases List.mem_or_eq_of_mem_set hd with hd|rfl
    ·exact aC d hd
    ·rfl
   rw[←aa h0,←aa h1,←aa h2,←aa h3,←aa h10]
   refine Hh ?_
   repeat' (first
 |(refine al ?_;first
 |refine lT (p:=hlt) ?_
 |refine aD (s:=((a+k:Nat):Int)) (hs:=hsa) ?_
 |refine aD (s:=((b+k:Nat):Int)) (hs:=hsb) ?_
 |refine aA (j:=a+k) rfl rfl rfl rfl han ?_
 |refine aA (j:=b+k) rfl rfl rfl rfl hbn ?_
 |refine mI ?_
 |refine mR ?_
 |refine aH (j:=a+k) rfl rfl hR.at (Nat.zero_add _) aC hx' rfl ?_
 |refine aH (j:=b+k) rfl rfl hR.at (Nat.zero_add _) aC hy' rfl ?_
 |(refine ck (j:=a+k) rfl rfl rfl hR (Nat.zero_add _) aC hi1 rfl rfl rfl ?_<;>intro st1 f1 f2 f3 f4 f5 hR1 hb2)
 |refine Hd ?_)
 |refine He ?_
 |refine Ir ?_
 |refine ay ?_
 |refine Hg ?_
 |refine aj rfl ?_
 |refine Hf ?_)
   refine ck (j:=b+k) rfl rfl rfl hR1 (Nat.zero_add _) hcel hi2 rfl rfl rfl ?_
   intro st2 g1 g2 g3 g4 g5 hR2 hb3
   have hR3:RowIs st2 p 2 ((U++[y]++Xs++(V++[x])++Ys++W).map Rt.e):=by rw[←e2,←hsw];exact hR2
   repeat' (first
 |(refine al ?_;first
 |refine aD (s:=((k+1:Nat):Int)) (hs:=hsk) ?_
 |refine mI ?_
 |refine Hd ?_)
 |refine au (by simp[bB,List.range,List.range.loop,Fl.clash]) ?_
 |refine Ir ?_)
   refine hnx _ _ hR3 ?_ ?_ ?_ ?_ ?_ Q (fun ρ' st' hF hR'=>hQ ρ' st' (FrR.trans ⟨g1.trans f1,g2.trans f2,g3.trans f3,g4.trans f4,g5.trans f5,fun q hq=>(hb3 q hq).trans (hb2 q hq)⟩ hF) (by simpa using hR'))<;>rfl
theorem lH (p n c:Nat) (U Xs V Ys W:List Rt) (st:Store) (hnl:n≤1000000) (hXY:Xs.length=Ys.length) (hn:n=(U++Xs++V++Ys++W).length) (hR:RowIs st p 2 ((U++Xs++V++Ys++W).map Rt.e)) (a b nn:Int) (ha:a=U.length) (hb:b=((U++Xs++V).length:Nat)) (hnn:nn=Xs.length):
  EvRWX Γ 99 [.rs p 0 2 n c,.int .i64 a,.int .i64 b,.int .i64 nn,.func 13 []] st (fun r st'=>r=.tuple []∧FrR st st' p∧RowIs st' p 2 ((U++Ys++V++Xs++W).map Rt.e)):=by
 subst ha hb hnn
 refine aR rfl rfl ?_
 have hlo:=Gs p n c U.length (U++Xs++V).length Xs.length hnl Xs Ys U V W 0 hXY hn rfl rfl (Nat.zero_add _).symm
 generalize hm:((U++Xs++V).length:Nat)=m at*
 repeat' (first
 |(refine al ?_;first
 |refine mI ?_
 |refine Hd ?_)
 |(refine hlo _ _ hR ?_ ?_ ?_ ?_ ?_ _ ?_<;>first|rfl|(intro ρ2 st2 hF hR2))
 |refine He ?_
 |refine Ir ?_
 |refine Hf ?_)
 exact⟨.inl rfl,_,rfl,rfl,hF,hR2⟩
end Go.Bes
/-
  slices' rotate, on a row of routes.
-/
namespace Go.Bes
open Go.Ev
set_option maxHeartbeats 8000000 in
theorem FW (p n c m:Nat) (hnl:n≤1000000) (F:List Rt):∀(N:Nat) (Xs Ys U W:List Rt),Xs.length+Ys.length≤N→0<Xs.length→0<Ys.length→n=(U++Xs++Ys++W).length→m=(U++Xs).length→U++Ys++Xs++W=F→∀(ρ:Nat→D) (st:Store),RowIs st p 2 ((U++Xs++Ys++W).map Rt.e)→
  ρ 0=.rs p 0 2 n c→ρ 2=.int .i64 m→ρ 4=.func 13 []→ρ 10=.int .i64 Xs.length→ρ 11=.int .i64 Ys.length→∀(Q:X→(Nat→D)→Store→Prop),
  (∀ρ' st' U' X' Y' W',X'.length=Y'.length→n=(U'++X'++Y'++W').length→m=(U'++X').length→U'++Y'++X'++W'=F→FrR st st' p→RowIs st' p 2 ((U'++X'++Y'++W').map Rt.e)→ρ' 0=.rs p 0 2 n c→ρ' 2=.int .i64 m→ρ' 4=.func 13 []→ρ' 10=.int .i64 X'.length→Q (.exit 0) ρ' st')→WC Γ (.loop da) ρ st Q:=by
 intro N
 induction N with
 |zero=>intro Xs Ys U W h1 h2 h3;omega
 |succ N ih=>
  intro Xs Ys U W hN hX hY hn hm hF ρ st hR h0 h2 h4 h10 h11 Q hQ
  have hnl':U.length+Xs.length+Ys.length+W.length=n:=by rw[hn];simp;omega
  have hml:m=U.length+Xs.length:=by rw[hm];simp
  by_cases he:Xs.length=Ys.length
  ·rw[←he]at h11
   rw[←aa h0,←aa h2,←aa h4,←aa h10,←aa h11]
   refine Hh ?_
   repeat' (first
 |(refine al ?_;first
 |refine mI ?_
 |refine ca rfl rfl rfl rfl (by omega) ?_
 |refine Hd ?_)
 |refine He ?_
 |refine Ir ?_
 |refine ah rfl ?_
 |refine Hi ?_)
   all_goals first|(exfalso;omega)|skip
   refine hQ _ _ U Xs Ys W he hn hm hF (FrR.refl _ _) hR ?_ ?_ ?_ ?_<;>rfl
  ·have hne:¬(Xs.length:Int)=(Ys.length:Int):=by omega
   have hs1:IntKind.i64.wrap ((m:Int) - (Xs.length:Int))=((U.length:Nat):Int):=by rw[ea (by omega)];omega
   by_cases hgt:Ys.length<Xs.length
   ·have hgt':(Ys.length:Int)<(Xs.length:Int):=by omega
    obtain⟨X1,X2,rfl,hX1⟩:∃X1 X2,Xs=X1++X2∧X1.length=Ys.length:=⟨Xs.take Ys.length,Xs.drop Ys.length,(List.take_append_drop _ _).symm,by rw[List.length_take];omega⟩
    have e1:U++(X1++X2)++Ys++W=U++X1++X2++Ys++W:=by simp
    have hsw:=lH p n c U X1 X2 Ys W st hnl hX1 (by rw[hn,e1]) (by rw[←e1];exact hR) U.length m Ys.length rfl (by rw[hm];simp) (by rw[hX1])
    have hX2:X2.length=(X1++X2).length - Ys.length:=by rw[List.length_append];omega
    have hs2:IntKind.i64.wrap (((X1++X2).length:Int) - (Ys.length:Int))=((X2.length:Nat):Int):=by rw[ea (by omega)];omega
    have hnx:=ih X2 X1 (U++Ys) W (by rw[hX1];omega) (by omega) (by omega) (by rw[hn];simp;omega) (by rw[hm];simp;omega) (by rw[←hF];simp)
    rw[hX1]at hnx
    clear ih
    generalize hL:(X1++X2).length=i at*
    rw[←aa h0,←aa h2,←aa h4,←aa h10,←aa h11]
    refine Hh ?_
    repeat' (first
 |(refine al ?_;first
 |refine cu rfl rfl rfl rfl hne ?_
 |refine gT (p:=hgt') ?_
 |refine aS (s:=((U.length:Nat):Int)) (hs:=hs1) ?_
 |refine aS (s:=((X2.length:Nat):Int)) (hs:=hs2) ?_
 |refine mI ?_
 |refine aB (v:=.func _ _) rfl rfl rfl ?_
 |refine mR ?_
 |(refine a7 rfl rfl rfl hsw ?_<;>intro r1 st1 hp1)
 |refine Hd ?_)
 |refine He ?_
 |refine Ir ?_
 |refine Hg ?_
 |refine aj rfl ?_
 |refine Hf ?_)
    obtain⟨rfl,hF1,hR1⟩:=hp1
    skip
    refine hnx _ _ hR1 ?_ ?_ ?_ ?_ ?_ Q (fun ρ' st' U' X' Y' W' q1 q2 q3 q4 q5 q6 q7 q8 q9=>hQ ρ' st' U' X' Y' W' q1 q2 q3 q4 (hF1.trans q5) q6 q7 q8 q9)<;>rfl
   ·have hgt':(Xs.length:Int)≤(Ys.length:Int):=by omega
    obtain⟨Y1,Y2,rfl,hY2⟩:∃Y1 Y2,Ys=Y1++Y2∧Y2.length=Xs.length:=⟨Ys.take (Ys.length - Xs.length),Ys.drop (Ys.length - Xs.length),(List.take_append_drop _ _).symm,by rw[List.length_drop];omega⟩
    have e1:U++Xs++(Y1++Y2)++W=U++Xs++Y1++Y2++W:=by simp
    have hY1:Y1.length=(Y1++Y2).length - Xs.length:=by rw[List.length_append];omega
    have hb:(((m+(Y1++Y2).length - Xs.length:Nat)):Int)=((U++Xs++Y1).length:Nat):=by rw[hml];simp;omega
    have hsw:=lH p n c U Xs Y1 Y2 W st hnl hY2.symm (by rw[hn,e1]) (by rw[←e1];exact hR) U.length ((m+(Y1++Y2).length - Xs.length:Nat):Int) Xs.length rfl hb rfl
    have hs2:IntKind.i64.wrap (((Y1++Y2).length:Int) - (Xs.length:Int))=((Y1.length:Nat):Int):=by rw[ea (by omega)];omega
    have hs3:IntKind.i64.wrap ((m:Int)+((Y1++Y2).length:Int))=((m+(Y1++Y2).length:Nat):Int):=by rw[ea (by omega)];omega
    have hs4:IntKind.i64.wrap (((m+(Y1++Y2).length:Nat):Int) - (Xs.length:Int))=((m+(Y1++Y2).length - Xs.length:Nat):Int):=by rw[ea (by omega)];omega
    have hnx:=ih Y2 Y1 U (Xs++W) (by rw[hY2];omega) (by omega) (by omega) (by rw[hn];simp;omega) (by rw[hm];simp;omega) (by rw[←hF];simp)
    rw[hY2]at hnx
    clear ih
    generalize hL:(Y1++Y2).length=j at*
    rw[←aa h0,←aa h2,←aa h4,←aa h10,←aa h11]
    refine Hh ?_
    repeat' (first
 |(refine al ?_;first
 |refine cu rfl rfl rfl rfl hne ?_
 |refine gF (p:=hgt') ?_
 |refine aS (s:=((U.length:Nat):Int)) (hs:=hs1) ?_
 |refine aS (s:=((Y1.length:Nat):Int)) (hs:=hs2) ?_
 |refine aD (s:=((m+j:Nat):Int)) (hs:=hs3) ?_
 |refine aS (s:=((m+j - Xs.length:Nat):Int)) (hs:=hs4) ?_
 |refine mI ?_
 |refine aB (v:=.func _ _) rfl rfl rfl ?_
 |refine mR ?_
 |(refine a7 rfl rfl rfl hsw ?_<;>intro r1 st1 hp1)
 |refine Hd ?_)
 |refine He ?_
 |refine Ir ?_
 |refine Hg ?_
 |refine aj rfl ?_
 |refine ah rfl ?_
 |refine Hf ?_)
    obtain⟨rfl,hF1,hR1⟩:=hp1
    have hR2:RowIs st1 p 2 ((U++Y2++Y1++(Xs++W)).map Rt.e):=by simpa using hR1
    skip
    refine hnx _ _ hR2 ?_ ?_ ?_ ?_ ?_ Q (fun ρ' st' U' X' Y' W' q1 q2 q3 q4 q5 q6 q7 q8 q9=>hQ ρ' st' U' X' Y' W' q1 q2 q3 q4 (hF1.trans q5) q6 q7 q8 q9)<;>rfl
theorem AB (p n c:Nat) (U Xs Ys W:List Rt) (st:Store) (hnl:n≤1000000) (hX:0<Xs.length) (hY:0<Ys.length) (hn:n=(U++Xs++Ys++W).length) (hR:RowIs st p 2 ((U++Xs++Ys++W).map Rt.e)) (a m b:Int) (ha:a=U.length) (hm:m=((U++Xs).length:Nat)) (hb:b=((U++Xs++Ys).length:Nat)):
  EvRWX Γ 98 [.rs p 0 2 n c,.int .i64 a,.int .i64 m,.int .i64 b,.func 13 []] st (fun r st'=>r=.tuple []∧FrR st st' p∧RowIs st' p 2 ((U++Ys++Xs++W).map Rt.e)):=by
 subst ha hm hb
 refine aR rfl rfl ?_
 have hnl':U.length+Xs.length+Ys.length+W.length=n:=by rw[hn];simp;omega
 have hlo:=FW p n c (U++Xs).length hnl (U++Ys++Xs++W) (Xs.length+Ys.length) Xs Ys U W (Nat.le_refl _) hX hY hn rfl rfl
 have hs1:IntKind.i64.wrap (((U++Xs).length:Int) - (U.length:Int))=((Xs.length:Nat):Int):=by rw[ea (by simp;omega)];simp;omega
 have hs2:IntKind.i64.wrap (((U++Xs++Ys).length:Int) - ((U++Xs).length:Int))=((Ys.length:Nat):Int):=by rw[ea (by simp;omega)];simp;omega
 have hml:(U++Xs).length≤n:=by rw[List.length_append];omega
 generalize hmm:((U++Xs).length:Nat)=m at*
 generalize hbb:((U++Xs++Ys).length:Nat)=b at*
 repeat' (first
 |(refine al ?_;first
 |refine aS (s:=((Xs.length:Nat):Int)) (hs:=hs1) ?_
 |refine aS (s:=((Ys.length:Nat):Int)) (hs:=hs2) ?_
 |refine mI ?_
 |refine Hd ?_)
 |(refine hlo _ _ hR ?_ ?_ ?_ ?_ ?_ _ ?_<;>first|rfl|(intro ρ2 st2 U' X' Y' W' q1 q2 q3 q4 q5 q6 q7 q8 q9 q10))
 |refine He ?_
 |refine Ir ?_
 |refine Hf ?_)
 have hs3:IntKind.i64.wrap ((m:Int) - (X'.length:Int))=((U'.length:Nat):Int):=by
  have:m=U'.length+X'.length:=by rw[q3];simp
  rw[ea (by omega)];omega
 have hsw:=lH p n c U' X' [] Y' W' st2 hnl q1 (by simpa using q2) (by simpa using q6) U'.length m X'.length rfl (by rw[q3];simp) rfl
 rw[←aa q7,←aa q8,←aa q9,←aa q10]
 repeat' (first
 |(refine al ?_;first
 |refine aS (s:=((U'.length:Nat):Int)) (hs:=hs3) ?_
 |refine mI ?_
 |refine aB (v:=.func _ _) rfl rfl rfl ?_
 |refine mR ?_
 |(refine a7 rfl rfl rfl hsw ?_<;>intro r3 st3 hp3)
 |refine Hd ?_))
 obtain⟨rfl,hF3,hR3⟩:=hp3
 skip
 exact⟨.inl rfl,_,rfl,rfl,q5.trans hF3,by rw[←q4];simpa using hR3⟩
end Go.Bes
/-
  The loops of slices' symMerge: three searches, two walks of one element to its place. (Printed by gen_s.py.)
-/
namespace Go.Bes
open Go.Ev
theorem Dq (n:Int):n.fdiv (2 ^ (Nat.min (1:Int).toNat IntKind.u64.bits))=n / 2:=by
 rw[Int.fdiv_eq_ediv_of_nonneg _ (by decide)];rfl
structure Cut (g:Nat→Bool) (i j s:Nat):Prop where
 lo:i≤s
 hi:s≤j
 be:∀c,i≤c→c<s→g c=true
 af:∀c,s≤c→c<j→g c=false
def Mono (g:Nat→Bool) (i j:Nat):Prop:=∀c c',i≤c→c≤c'→c'<j→g c'=true→g c=true
theorem Cut.up {g:Nat→Bool} {i j h s:Nat} (hm:Mono g i j) (h1:i≤h) (h2:h<j) (hg:g h=true) (hc:Cut g (h+1) j s):Cut g i j s:=
 ⟨Nat.le_trans h1 (Nat.le_of_succ_le hc.lo),hc.hi,fun c a b=>by
  by_cases hh:c≤h
  ·exact hm c h a hh h2 hg
  ·exact hc.be c (by omega) b,fun c a b=>hc.af c a b⟩
theorem Cut.down {g:Nat→Bool} {i j h s:Nat} (hm:Mono g i j) (h1:i≤h) (h2:h<j) (hg:g h=false) (hc:Cut g i h s):Cut g i j s:=
 ⟨hc.lo,Nat.le_trans hc.hi (Nat.le_of_lt h2),hc.be,fun c a b=>by
  by_cases hh:c<h
  ·exact hc.af c a hh
  ·cases hgc:g c with
   |false=>rfl
   |true=>rw[hm h c h1 (by omega) b hgc]at hg;cases hg⟩
theorem Mono.sub {g:Nat→Bool} {i j i' j':Nat} (hm:Mono g i j) (h1:i≤i') (h2:j'≤j):Mono g i' j':=fun c c' a b d e=>hm c c' (by omega) b (by omega) e
set_option maxHeartbeats 8000000 in
theorem GY (p n c:Nat) (L:List Rt) (hnl:n≤1000000) (hn:n=L.length) (hsh:bA L) (a m b md nn:Nat) (x:Rt) (hx:L[a]?=some x) (g:Nat→Bool):∀(d i j:Nat),j - i≤d→i≤j→j≤n→Mono g i j→(∀c y,i≤c→c<j→L[c]?=some y→g c=eW y x)→∀(ρ:Nat→D) (st:Store),RowIs st p 2 (L.map Rt.e)→
  ρ 0=.rs p 0 2 n c→ρ 1=.int .i64 a→ρ 4=.func 13 []→ρ 10=.int .i64 i→ρ 11=.int .i64 j→∀(Q:X→(Nat→D)→Store→Prop),
  (∀ρ' s,Cut g i j s→ρ' 0=.rs p 0 2 n c→ρ' 1=.int .i64 a→ρ' 4=.func 13 []→ρ' 10=.int .i64 s→Q (.exit 0) ρ' st)→WC Γ (.loop cI) ρ st Q:=by
 intro d
 induction d with
 |zero=>
  intro i j hd hij hj hmo hgd ρ st hR h0 h1 h4 hi1 hj1 Q hQ
  obtain rfl:i=j:=by omega
  rw[←aa h0,←aa h1,←aa h4,←aa hi1,←aa hj1]
  refine Hh ?_
  repeat' (first
 |(refine al ?_;first
 |refine mI ?_
 |refine lF ?_
 |refine Hd ?_)
 |refine He ?_
 |refine Ir ?_
 |refine ah rfl ?_
 |refine Hi ?_)
  refine hQ _ i ⟨Nat.le_refl _,Nat.le_refl _,fun c a b=>absurd b (by omega),fun c a b=>absurd b (by omega)⟩ ?_ ?_ ?_ ?_<;>rfl
 |succ d ih=>
  intro i j hd hij hj hmo hgd ρ st hR h0 h1 h4 hi1 hj1 Q hQ
  by_cases hlt0:i<j
  ·have hij':(i:Int)<(j:Int):=by omega
   have hsum:IntKind.i64.wrap ((i:Int)+(j:Int))=((i+j:Nat):Int):=by rw[ea (by omega)];omega
   have hcv1:IntKind.u64.wrap ((i+j:Nat):Int)=((i+j:Nat):Int):=by
    show ((i+j:Nat):Int)%18446744073709551616=_
    omega
   have hshr:((i+j:Nat):Int).fdiv (2 ^ (Nat.min (1:Int).toNat IntKind.u64.bits))=(((i+j) / 2:Nat):Int):=by rw[Dq];omega
   have hcv2:IntKind.i64.wrap (((i+j) / 2:Nat):Int)=(((i+j) / 2:Nat):Int):=ea (by omega)
   have hsuc:IntKind.i64.wrap ((((i+j) / 2:Nat):Int)+1)=(((i+j) / 2+1:Nat):Int):=by rw[ea (by omega)];omega
   have hhn:(i+j) / 2<n:=by omega
   obtain⟨y,hy⟩:∃y,L[(i+j) / 2]?=some y:=⟨_,List.getElem?_eq_getElem (by omega)⟩
   have hon:a<n:=by rw[hn];exact(List.getElem?_eq_some_iff.mp hx).1
   have hyy:=fy hy
   have hxx:=fy hx
   have hyl:=hsh y (List.mem_of_getElem? hy)
   have hxl:=hsh x (List.mem_of_getElem? hx)
   have hC:=fun t t'=>gl y.hs y.ar x.hs x.ar hyl hxl t t' 3 3 (.inl rfl) (.inl rfl)
   have hgx:=hgd ((i+j) / 2) y (by omega) (by omega) hy
   rw[←aa h0,←aa h1,←aa h4,←aa hi1,←aa hj1]
   refine Hh ?_
   by_cases hc:eW y x=true
   ·have hlt:=gO.1 hc
    rw[hc]at hgx
    have hgt:g ((i+j) / 2)=true:=hgx
    clear hgx
    repeat' (first
 |(refine al ?_;first
 |refine lT (p:=hij') ?_
 |refine aD (s:=((i+j:Nat):Int)) (hs:=hsum) ?_
 |refine aD (s:=(((i+j) / 2+1:Nat):Int)) (hs:=hsuc) ?_
 |refine fV (s:=((i+j:Nat):Int)) rfl rfl rfl hcv1 ?_
 |refine qM (s:=(((i+j) / 2:Nat):Int)) rfl rfl rfl rfl (by decide) hshr ?_
 |refine fV (s:=(((i+j) / 2:Nat):Int)) rfl rfl rfl hcv2 ?_
 |refine aA (j:=(i+j) / 2) rfl rfl rfl rfl hhn ?_
 |refine aA (j:=a) rfl rfl rfl rfl hon ?_
 |refine lT (p:=hlt) ?_
 |refine mI ?_
 |refine aB (v:=.func _ _) rfl rfl rfl ?_
 |refine mR ?_
 |refine aH (j:=(i+j) / 2) rfl rfl hR.at (Nat.zero_add _) aC hyy rfl ?_
 |refine aH (j:=a) rfl rfl hR.at (Nat.zero_add _) aC hxx rfl ?_
 |refine cA rfl (hC _ _) ?_
 |refine Hd ?_)
 |refine au (aE rfl) ?_
 |refine He ?_
 |refine Ir ?_
 |refine ay ?_
 |refine Hg ?_
 |refine aj rfl ?_
 |refine Hf ?_)
    refine ih ((i+j) / 2+1) j (by omega) (by omega) hj (hmo.sub (by omega) (Nat.le_refl _)) (fun c y a b=>hgd c y (by omega) (by omega)) _ st hR ?_ ?_ ?_ ?_ ?_ Q (fun ρ' s hs=>hQ ρ' s (Cut.up hmo (by omega) (by omega) hgt hs))<;>rfl
   ·have hge:¬_:=fun h=>hc (gO.2 h)
    have hge:=Int.not_lt.1 hge
    rw[Bool.not_eq_true]at hc
    rw[hc]at hgx
    have hgt:g ((i+j) / 2)=false:=hgx
    clear hgx
    repeat' (first
 |(refine al ?_;first
 |refine lT (p:=hij') ?_
 |refine aD (s:=((i+j:Nat):Int)) (hs:=hsum) ?_
 |refine fV (s:=((i+j:Nat):Int)) rfl rfl rfl hcv1 ?_
 |refine qM (s:=(((i+j) / 2:Nat):Int)) rfl rfl rfl rfl (by decide) hshr ?_
 |refine fV (s:=(((i+j) / 2:Nat):Int)) rfl rfl rfl hcv2 ?_
 |refine aA (j:=(i+j) / 2) rfl rfl rfl rfl hhn ?_
 |refine aA (j:=a) rfl rfl rfl rfl hon ?_
 |refine lF (p:=hge) ?_
 |refine mI ?_
 |refine aB (v:=.func _ _) rfl rfl rfl ?_
 |refine mR ?_
 |refine aH (j:=(i+j) / 2) rfl rfl hR.at (Nat.zero_add _) aC hyy rfl ?_
 |refine aH (j:=a) rfl rfl hR.at (Nat.zero_add _) aC hxx rfl ?_
 |refine cA rfl (hC _ _) ?_
 |refine Hd ?_)
 |refine au (aE rfl) ?_
 |refine He ?_
 |refine Ir ?_
 |refine ay ?_
 |refine Hg ?_
 |refine aj rfl ?_
 |refine ah rfl ?_
 |refine Hf ?_)
    refine ih i ((i+j) / 2) (by omega) (by omega) (by omega) (hmo.sub (Nat.le_refl _) (by omega)) (fun c y a b=>hgd c y (by omega) (by omega)) _ st hR ?_ ?_ ?_ ?_ ?_ Q (fun ρ' s hs=>hQ ρ' s (Cut.down hmo (by omega) (by omega) hgt hs))<;>rfl
  ·obtain rfl:i=j:=by omega
   rw[←aa h0,←aa h1,←aa h4,←aa hi1,←aa hj1]
   refine Hh ?_
   repeat' (first
 |(refine al ?_;first
 |refine mI ?_
 |refine lF ?_
 |refine Hd ?_)
 |refine He ?_
 |refine Ir ?_
 |refine ah rfl ?_
 |refine Hi ?_)
   refine hQ _ i ⟨Nat.le_refl _,Nat.le_refl _,fun c a b=>absurd b (by omega),fun c a b=>absurd b (by omega)⟩ ?_ ?_ ?_ ?_<;>rfl
set_option maxHeartbeats 8000000 in
theorem GV (p n c:Nat) (L:List Rt) (hnl:n≤1000000) (hn:n=L.length) (hsh:bA L) (a m b md nn:Nat) (x:Rt) (hx:L[m]?=some x) (g:Nat→Bool):∀(d i j:Nat),j - i≤d→i≤j→j≤n→Mono g i j→(∀c y,i≤c→c<j→L[c]?=some y→g c=(!eW x y))→∀(ρ:Nat→D) (st:Store),RowIs st p 2 (L.map Rt.e)→
  ρ 0=.rs p 0 2 n c→ρ 2=.int .i64 m→ρ 4=.func 13 []→ρ 14=.int .i64 i→ρ 15=.int .i64 j→∀(Q:X→(Nat→D)→Store→Prop),
  (∀ρ' s,Cut g i j s→ρ' 0=.rs p 0 2 n c→ρ' 2=.int .i64 m→ρ' 4=.func 13 []→ρ' 14=.int .i64 s→Q (.exit 4) ρ' st)→WC Γ (.loop cF) ρ st Q:=by
 intro d
 induction d with
 |zero=>
  intro i j hd hij hj hmo hgd ρ st hR h0 h2 h4 hi1 hj1 Q hQ
  obtain rfl:i=j:=by omega
  rw[←aa h0,←aa h2,←aa h4,←aa hi1,←aa hj1]
  refine Hh ?_
  repeat' (first
 |(refine al ?_;first
 |refine mI ?_
 |refine lF ?_
 |refine Hd ?_)
 |refine He ?_
 |refine Ir ?_
 |refine ah rfl ?_
 |refine Hi ?_)
  refine hQ _ i ⟨Nat.le_refl _,Nat.le_refl _,fun c a b=>absurd b (by omega),fun c a b=>absurd b (by omega)⟩ ?_ ?_ ?_ ?_<;>rfl
 |succ d ih=>
  intro i j hd hij hj hmo hgd ρ st hR h0 h2 h4 hi1 hj1 Q hQ
  by_cases hlt0:i<j
  ·have hij':(i:Int)<(j:Int):=by omega
   have hsum:IntKind.i64.wrap ((i:Int)+(j:Int))=((i+j:Nat):Int):=by rw[ea (by omega)];omega
   have hcv1:IntKind.u64.wrap ((i+j:Nat):Int)=((i+j:Nat):Int):=by
    show ((i+j:Nat):Int)%18446744073709551616=_
    omega
   have hshr:((i+j:Nat):Int).fdiv (2 ^ (Nat.min (1:Int).toNat IntKind.u64.bits))=(((i+j) / 2:Nat):Int):=by rw[Dq];omega
   have hcv2:IntKind.i64.wrap (((i+j) / 2:Nat):Int)=(((i+j) / 2:Nat):Int):=ea (by omega)
   have hsuc:IntKind.i64.wrap ((((i+j) / 2:Nat):Int)+1)=(((i+j) / 2+1:Nat):Int):=by rw[ea (by omega)];omega
   have hhn:(i+j) / 2<n:=by omega
   obtain⟨y,hy⟩:∃y,L[(i+j) / 2]?=some y:=⟨_,List.getElem?_eq_getElem (by omega)⟩
   have hon:m<n:=by rw[hn];exact(List.getElem?_eq_some_iff.mp hx).1
   have hyy:=fy hy
   have hxx:=fy hx
   have hyl:=hsh y (List.mem_of_getElem? hy)
   have hxl:=hsh x (List.mem_of_getElem? hx)
   have hC:=fun t t'=>gl x.hs x.ar y.hs y.ar hxl hyl t t' 3 3 (.inl rfl) (.inl rfl)
   have hgx:=hgd ((i+j) / 2) y (by omega) (by omega) hy
   rw[←aa h0,←aa h2,←aa h4,←aa hi1,←aa hj1]
   refine Hh ?_
   by_cases hc:eW x y=true
   ·have hlt:=gO.1 hc
    rw[hc]at hgx
    have hgt:g ((i+j) / 2)=false:=hgx
    clear hgx
    repeat' (first
 |(refine al ?_;first
 |refine lT (p:=hij') ?_
 |refine aD (s:=((i+j:Nat):Int)) (hs:=hsum) ?_
 |refine fV (s:=((i+j:Nat):Int)) rfl rfl rfl hcv1 ?_
 |refine qM (s:=(((i+j) / 2:Nat):Int)) rfl rfl rfl rfl (by decide) hshr ?_
 |refine fV (s:=(((i+j) / 2:Nat):Int)) rfl rfl rfl hcv2 ?_
 |refine aA (j:=(i+j) / 2) rfl rfl rfl rfl hhn ?_
 |refine aA (j:=m) rfl rfl rfl rfl hon ?_
 |refine lT (p:=hlt) ?_
 |refine mI ?_
 |refine aB (v:=.func _ _) rfl rfl rfl ?_
 |refine mR ?_
 |refine aH (j:=(i+j) / 2) rfl rfl hR.at (Nat.zero_add _) aC hyy rfl ?_
 |refine aH (j:=m) rfl rfl hR.at (Nat.zero_add _) aC hxx rfl ?_
 |refine cA rfl (hC _ _) ?_
 |refine nT ?_
 |refine Hd ?_)
 |refine au (aE rfl) ?_
 |refine He ?_
 |refine Ir ?_
 |refine ay ?_
 |refine Hg ?_
 |refine aj rfl ?_
 |refine ah rfl ?_
 |refine Hf ?_)
    refine ih i ((i+j) / 2) (by omega) (by omega) (by omega) (hmo.sub (Nat.le_refl _) (by omega)) (fun c y a b=>hgd c y (by omega) (by omega)) _ st hR ?_ ?_ ?_ ?_ ?_ Q (fun ρ' s hs=>hQ ρ' s (Cut.down hmo (by omega) (by omega) hgt hs))<;>rfl
   ·have hge:¬_:=fun h=>hc (gO.2 h)
    have hge:=Int.not_lt.1 hge
    rw[Bool.not_eq_true]at hc
    rw[hc]at hgx
    have hgt:g ((i+j) / 2)=true:=hgx
    clear hgx
    repeat' (first
 |(refine al ?_;first
 |refine lT (p:=hij') ?_
 |refine aD (s:=((i+j:Nat):Int)) (hs:=hsum) ?_
 |refine aD (s:=(((i+j) / 2+1:Nat):Int)) (hs:=hsuc) ?_
 |refine fV (s:=((i+j:Nat):Int)) rfl rfl rfl hcv1 ?_
 |refine qM (s:=(((i+j) / 2:Nat):Int)) rfl rfl rfl rfl (by decide) hshr ?_
 |refine fV (s:=(((i+j) / 2:Nat):Int)) rfl rfl rfl hcv2 ?_
 |refine aA (j:=(i+j) / 2) rfl rfl rfl rfl hhn ?_
 |refine aA (j:=m) rfl rfl rfl rfl hon ?_
 |refine lF (p:=hge) ?_
 |refine mI ?_
 |refine aB (v:=.func _ _) rfl rfl rfl ?_
 |refine mR ?_
 |refine aH (j:=(i+j) / 2) rfl rfl hR.at (Nat.zero_add _) aC hyy rfl ?_
 |refine aH (j:=m) rfl rfl hR.at (Nat.zero_add _) aC hxx rfl ?_
 |refine cA rfl (hC _ _) ?_
 |refine nT ?_
 |refine Hd ?_)
 |refine au (aE rfl) ?_
 |refine He ?_
 |refine Ir ?_
 |refine ay ?_
 |refine Hg ?_
 |refine aj rfl ?_
 |refine Hf ?_)
    refine ih ((i+j) / 2+1) j (by omega) (by omega) hj (hmo.sub (by omega) (Nat.le_refl _)) (fun c y a b=>hgd c y (by omega) (by omega)) _ st hR ?_ ?_ ?_ ?_ ?_ Q (fun ρ' s hs=>hQ ρ' s (Cut.up hmo (by omega) (by omega) hgt hs))<;>rfl
  ·obtain rfl:i=j:=by omega
   rw[←aa h0,←aa h2,←aa h4,←aa hi1,←aa hj1]
   refine Hh ?_
   repeat' (first
 |(refine al ?_;first
 |refine mI ?_
 |refine lF ?_
 |refine Hd ?_)
 |refine He ?_
 |refine Ir ?_
 |refine ah rfl ?_
 |refine Hi ?_)
   refine hQ _ i ⟨Nat.le_refl _,Nat.le_refl _,fun c a b=>absurd b (by omega),fun c a b=>absurd b (by omega)⟩ ?_ ?_ ?_ ?_<;>rfl
set_option maxHeartbeats 8000000 in
theorem G1 (p n c:Nat) (L:List Rt) (hnl:n≤1000000) (hn:n=L.length) (hsh:bA L) (a m b md nn:Nat) (pp:Nat) (hpn:pp≤2000000) (g:Nat→Bool):∀(d i j:Nat),j - i≤d→i≤j→j≤n→Mono g i j→(∀c y x,i≤c→c<j→L[c]?=some y→L[pp - c]?=some x→g c=(!eW x y))→(∀c,i≤c→c<j→pp - c<n∧c≤pp)→∀(ρ:Nat→D) (st:Store),RowIs st p 2 (L.map Rt.e)→
  ρ 0=.rs p 0 2 n c→ρ 1=.int .i64 a→ρ 2=.int .i64 m→ρ 3=.int .i64 b→ρ 4=.func 13 []→ρ 18=.int .i64 md→ρ 19=.int .i64 nn→ρ 22=.int .i64 pp→ρ 20=.int .i64 i→ρ 21=.int .i64 j→∀(Q:X→(Nat→D)→Store→Prop),
  (∀ρ' s,Cut g i j s→ρ' 0=.rs p 0 2 n c→ρ' 1=.int .i64 a→ρ' 2=.int .i64 m→ρ' 3=.int .i64 b→ρ' 4=.func 13 []→ρ' 18=.int .i64 md→ρ' 19=.int .i64 nn→ρ' 22=.int .i64 pp→ρ' 20=.int .i64 s→Q (.exit 8) ρ' st)→WC Γ (.loop cE) ρ st Q:=by
 intro d
 induction d with
 |zero=>
  intro i j hd hij hj hmo hgd hdom ρ st hR h0 h1 h2 h3 h4 h18 h19 h22 hi1 hj1 Q hQ
  obtain rfl:i=j:=by omega
  rw[←aa h0,←aa h1,←aa h2,←aa h3,←aa h4,←aa h18,←aa h19,←aa h22,←aa hi1,←aa hj1]
  refine Hh ?_
  repeat' (first
 |(refine al ?_;first
 |refine mI ?_
 |refine lF ?_
 |refine Hd ?_)
 |refine He ?_
 |refine Ir ?_
 |refine ah rfl ?_
 |refine Hi ?_)
  refine hQ _ i ⟨Nat.le_refl _,Nat.le_refl _,fun c a b=>absurd b (by omega),fun c a b=>absurd b (by omega)⟩ ?_ ?_ ?_ ?_ ?_ ?_ ?_ ?_ ?_<;>rfl
 |succ d ih=>
  intro i j hd hij hj hmo hgd hdom ρ st hR h0 h1 h2 h3 h4 h18 h19 h22 hi1 hj1 Q hQ
  by_cases hlt0:i<j
  ·have hij':(i:Int)<(j:Int):=by omega
   have hsum:IntKind.i64.wrap ((i:Int)+(j:Int))=((i+j:Nat):Int):=by rw[ea (by omega)];omega
   have hcv1:IntKind.u64.wrap ((i+j:Nat):Int)=((i+j:Nat):Int):=by
    show ((i+j:Nat):Int)%18446744073709551616=_
    omega
   have hshr:((i+j:Nat):Int).fdiv (2 ^ (Nat.min (1:Int).toNat IntKind.u64.bits))=(((i+j) / 2:Nat):Int):=by rw[Dq];omega
   have hcv2:IntKind.i64.wrap (((i+j) / 2:Nat):Int)=(((i+j) / 2:Nat):Int):=ea (by omega)
   have hsuc:IntKind.i64.wrap ((((i+j) / 2:Nat):Int)+1)=(((i+j) / 2+1:Nat):Int):=by rw[ea (by omega)];omega
   have hhn:(i+j) / 2<n:=by omega
   obtain⟨y,hy⟩:∃y,L[(i+j) / 2]?=some y:=⟨_,List.getElem?_eq_getElem (by omega)⟩
   obtain⟨hon,hcp⟩:=hdom ((i+j) / 2) (by omega) (by omega)
   obtain⟨x,hx⟩:∃x,L[pp - (i+j) / 2]?=some x:=⟨_,List.getElem?_eq_getElem (by omega)⟩
   have hsub:IntKind.i64.wrap ((pp:Int) - (((i+j) / 2:Nat):Int))=((pp - (i+j) / 2:Nat):Int):=by rw[ea (by omega)];omega
   have hyy:=fy hy
   have hxx:=fy hx
   have hyl:=hsh y (List.mem_of_getElem? hy)
   have hxl:=hsh x (List.mem_of_getElem? hx)
   have hC:=fun t t'=>gl x.hs x.ar y.hs y.ar hxl hyl t t' 3 3 (.inl rfl) (.inl rfl)
   have hgx:=hgd ((i+j) / 2) y x (by omega) (by omega) hy hx
   rw[←aa h0,←aa h1,←aa h2,←aa h3,←aa h4,←aa h18,←aa h19,←aa h22,←aa hi1,←aa hj1]
   refine Hh ?_
   by_cases hc:eW x y=true
   ·have hlt:=gO.1 hc
    rw[hc]at hgx
    have hgt:g ((i+j) / 2)=false:=hgx
    clear hgx
    repeat' (first
 |(refine al ?_;first
 |refine lT (p:=hij') ?_
 |refine aD (s:=((i+j:Nat):Int)) (hs:=hsum) ?_
 |refine aS (s:=((pp - (i+j) / 2:Nat):Int)) (hs:=hsub) ?_
 |refine fV (s:=((i+j:Nat):Int)) rfl rfl rfl hcv1 ?_
 |refine qM (s:=(((i+j) / 2:Nat):Int)) rfl rfl rfl rfl (by decide) hshr ?_
 |refine fV (s:=(((i+j) / 2:Nat):Int)) rfl rfl rfl hcv2 ?_
 |refine aA (j:=(i+j) / 2) rfl rfl rfl rfl hhn ?_
 |refine aA (j:=(pp - (i+j) / 2)) rfl rfl rfl rfl hon ?_
 |refine lT (p:=hlt) ?_
 |refine mI ?_
 |refine aB (v:=.func _ _) rfl rfl rfl ?_
 |refine mR ?_
 |refine aH (j:=(i+j) / 2) rfl rfl hR.at (Nat.zero_add _) aC hyy rfl ?_
 |refine aH (j:=(pp - (i+j) / 2)) rfl rfl hR.at (Nat.zero_add _) aC hxx rfl ?_
 |refine cA rfl (hC _ _) ?_
 |refine nT ?_
 |refine Hd ?_)
 |refine au (aE rfl) ?_
 |refine He ?_
 |refine Ir ?_
 |refine ay ?_
 |refine Hg ?_
 |refine aj rfl ?_
 |refine ah rfl ?_
 |refine Hf ?_)
    refine ih i ((i+j) / 2) (by omega) (by omega) (by omega) (hmo.sub (Nat.le_refl _) (by omega)) (fun c y x a b=>hgd c y x (by omega) (by omega)) (fun c a b=>hdom c (by omega) (by omega)) _ st hR ?_ ?_ ?_ ?_ ?_ ?_ ?_ ?_ ?_ ?_ Q (fun ρ' s hs=>hQ ρ' s (Cut.down hmo (by omega) (by omega) hgt hs))<;>rfl
   ·have hge:¬_:=fun h=>hc (gO.2 h)
    have hge:=Int.not_lt.1 hge
    rw[Bool.not_eq_true]at hc
    rw[hc]at hgx
    have hgt:g ((i+j) / 2)=true:=hgx
    clear hgx
    repeat' (first
 |(refine al ?_;first
 |refine lT (p:=hij') ?_
 |refine aD (s:=((i+j:Nat):Int)) (hs:=hsum) ?_
 |refine aD (s:=(((i+j) / 2+1:Nat):Int)) (hs:=hsuc) ?_
 |refine aS (s:=((pp - (i+j) / 2:Nat):Int)) (hs:=hsub) ?_
 |refine fV (s:=((i+j:Nat):Int)) rfl rfl rfl hcv1 ?_
 |refine qM (s:=(((i+j) / 2:Nat):Int)) rfl rfl rfl rfl (by decide) hshr ?_
 |refine fV (s:=(((i+j) / 2:Nat):Int)) rfl rfl rfl hcv2 ?_
 |refine aA (j:=(i+j) / 2) rfl rfl rfl rfl hhn ?_
 |refine aA (j:=(pp - (i+j) / 2)) rfl rfl rfl rfl hon ?_
 |refine lF (p:=hge) ?_
 |refine mI ?_
 |refine aB (v:=.func _ _) rfl rfl rfl ?_
 |refine mR ?_
 |refine aH (j:=(i+j) / 2) rfl rfl hR.at (Nat.zero_add _) aC hyy rfl ?_
 |refine aH (j:=(pp - (i+j) / 2)) rfl rfl hR.at (Nat.zero_add _) aC hxx rfl ?_
 |refine cA rfl (hC _ _) ?_
 |refine nT ?_
 |refine Hd ?_)
 |refine au (aE rfl) ?_
 |refine He ?_
 |refine Ir ?_
 |refine ay ?_
 |refine Hg ?_
 |refine aj rfl ?_
 |refine Hf ?_)
    refine ih ((i+j) / 2+1) j (by omega) (by omega) hj (hmo.sub (by omega) (Nat.le_refl _)) (fun c y x a b=>hgd c y x (by omega) (by omega)) (fun c a b=>hdom c (by omega) (by omega)) _ st hR ?_ ?_ ?_ ?_ ?_ ?_ ?_ ?_ ?_ ?_ Q (fun ρ' s hs=>hQ ρ' s (Cut.up hmo (by omega) (by omega) hgt hs))<;>rfl
  ·obtain rfl:i=j:=by omega
   rw[←aa h0,←aa h1,←aa h2,←aa h3,←aa h4,←aa h18,←aa h19,←aa h22,←aa hi1,←aa hj1]
   refine Hh ?_
   repeat' (first
 |(refine al ?_;first
 |refine mI ?_
 |refine lF ?_
 |refine Hd ?_)
 |refine He ?_
 |refine Ir ?_
 |refine ah rfl ?_
 |refine Hi ?_)
   refine hQ _ i ⟨Nat.le_refl _,Nat.le_refl _,fun c a b=>absurd b (by omega),fun c a b=>absurd b (by omega)⟩ ?_ ?_ ?_ ?_ ?_ ?_ ?_ ?_ ?_<;>rfl
end Go.Bes
/-
  slices' symMerge: one element's way to its place.
-/
namespace Go.Bes
open Go.Ev
set_option maxHeartbeats 8000000 in
theorem GU (p n c i:Nat) (hnl:n≤1000000) (x:Rt) (W:List Rt):∀(Y U:List Rt),n=(U++x::(Y++W)).length→i=(U++Y).length+1→∀(ρ:Nat→D) (st:Store),RowIs st p 2 ((U++x::(Y++W)).map Rt.e)→
  ρ 0=.rs p 0 2 n c→ρ 10=.int .i64 i→ρ 13=.int .i64 U.length→∀(Q:X→(Nat→D)→Store→Prop),
  (∀ρ' st',FrR st st' p→RowIs st' p 2 ((U++Y++x::W).map Rt.e)→Q (.exit 2) ρ' st')→WC Γ (.loop cH) ρ st Q:=by
 intro Y
 induction Y with
 |nil=>
  intro U hn hi ρ st hR h0 h10 h13 Q hQ
  have hil:U.length+1≤n:=by rw[hn];simp
  rw[List.append_nil]at hi
  have hsub:IntKind.i64.wrap ((i:Int) - 1)=((U.length:Nat):Int):=by rw[ea (by omega)];omega
  rw[←aa h0,←aa h10,←aa h13]
  refine Hh ?_
  repeat' (first
 |(refine al ?_;first
 |refine aS (s:=((U.length:Nat):Int)) (hs:=hsub) ?_
 |refine mI ?_
 |refine lF ?_
 |refine Hd ?_)
 |refine He ?_
 |refine Ir ?_
 |refine ah rfl ?_
 |refine Hi ?_)
  exact hQ _ _ (FrR.refl _ _) (by simpa using hR)
 |cons y Y ih=>
  intro U hn hi ρ st hR h0 h10 h13 Q hQ
  have e1:U++x::(y::Y++W)=U++x::([]++y::(Y++W)):=rfl
  have e2:U++y::([]++x::(Y++W))=(U++[y])++x::(Y++W):=by simp
  have hnx:=ih (U++[y]) (by rw[hn];simp<;>omega) (by rw[hi];simp<;>omega)
  have hsw:=@D4 U [] (Y++W) x y
  have hUn:U.length+1<n:=by rw[hn];simp<;>omega
  have hU0:U.length<n:=by omega
  have hil:i=U.length+Y.length+2:=by rw[hi];simp<;>omega
  have hin:i≤n:=by rw[hn,hi];simp<;>omega
  have hsub:IntKind.i64.wrap ((i:Int) - 1)=((i - 1:Nat):Int):=by rw[ea (by omega)];omega
  have hlt:((U.length:Nat):Int)<((i - 1:Nat):Int):=by omega
  have hadd:IntKind.i64.wrap ((U.length:Int)+1)=((U.length+1:Nat):Int):=by rw[ea (by omega)];omega
  rw[e1]at hR hn
  have hx:(U++x::([]++y::(Y++W)))[U.length]?=some x:=by simp
  have hy:(U++x::([]++y::(Y++W)))[U.length+1]?=some y:=by
   rw[List.getElem?_append_right (by omega)];simp
  have hx':=fy hx
  have hy':=fy hy
  clear ih
  generalize hL:U++x::([]++y::(Y++W))=L at*
  have hi1:U.length<(L.map Rt.e).length:=by rw[List.length_map,←hn];exact hU0
  have hi2:U.length+1<((L.map Rt.e).set U.length (.agg [.slice .no 3 (y.hs.map Hp.e),.int .i64 y.ar])).length:=by rw[List.length_set,List.length_map,←hn];exact hUn
  have hcel:∀d∈((L.map Rt.e).set U.length (.agg [.slice .no 3 (y.hs.map Hp.e),.int .i64 y.ar])),d.cells.length=2:=by
   intro d hd
   rcases List.mem_or_eq_of_mem_set hd with hd|rfl
   ·exact aC d hd
   ·rfl
  rw[←aa h0,←aa h10,←aa h13]
  refine Hh ?_
  repeat' (first
 |(refine al ?_;first
 |refine lT (p:=hlt) ?_
 |refine aS (s:=((i - 1:Nat):Int)) (hs:=hsub) ?_
 |refine aD (s:=((U.length+1:Nat):Int)) (hs:=hadd) ?_
 |refine aA (j:=U.length) rfl rfl rfl rfl hU0 ?_
 |refine aA (j:=U.length+1) rfl rfl rfl rfl hUn ?_
 |refine mI ?_
 |refine mR ?_
 |refine aH (j:=U.length) rfl rfl hR.at (Nat.zero_add _) aC hx' rfl ?_
 |refine aH (j:=U.length+1) rfl rfl hR.at (Nat.zero_add _) aC hy' rfl ?_
 |(refine ck (j:=U.length) rfl rfl rfl hR (Nat.zero_add _) aC hi1 rfl rfl rfl ?_<;>intro st1 f1 f2 f3 f4 f5 hR1 hb2)
 |refine Hd ?_)
 |refine He ?_
 |refine Ir ?_
 |refine ay ?_
 |refine Hg ?_
 |refine aj rfl ?_
 |refine Hf ?_)
  refine ck (j:=U.length+1) rfl rfl rfl hR1 (Nat.zero_add _) hcel hi2 rfl rfl rfl ?_
  intro st2 g1 g2 g3 g4 g5 hR2 hb3
  have hR3:RowIs st2 p 2 (((U++[y])++x::(Y++W)).map Rt.e):=by rw[←e2,←hsw];exact hR2
  have hz:D.int .i64 ((U.length+1:Nat):Int)=D.int .i64 ((U++[y]).length:Nat):=by simp
  repeat' (first
 |(refine al ?_;first
 |refine aD (s:=((U.length+1:Nat):Int)) (hs:=hadd) ?_
 |refine mI ?_
 |refine Hd ?_)
 |refine au (by simp[bB,List.range,List.range.loop,Fl.clash]) ?_
 |refine Ir ?_)
  refine hnx _ _ hR3 ?_ ?_ ?_ Q (fun ρ' st' hF hR'=>hQ ρ' st' (FrR.trans ⟨g1.trans f1,g2.trans f2,g3.trans f3,g4.trans f4,g5.trans f5,fun q hq=>(hb3 q hq).trans (hb2 q hq)⟩ hF) (by simpa using hR'))<;>first|rfl|exact hz
set_option maxHeartbeats 8000000 in
theorem G9 (p n c:Nat) (hnl:n≤1000000) (x:Rt) (U:List Rt):∀(m:Nat) (Y W:List Rt),Y.length=m→n=(U++Y++x::W).length→∀(ρ:Nat→D) (st:Store),RowIs st p 2 ((U++Y++x::W).map Rt.e)→
  ρ 0=.rs p 0 2 n c→ρ 14=.int .i64 U.length→ρ 17=.int .i64 ((U++Y).length:Nat)→∀(Q:X→(Nat→D)→Store→Prop),
  (∀ρ' st',FrR st st' p→RowIs st' p 2 ((U++x::(Y++W)).map Rt.e)→Q (.exit 6) ρ' st')→WC Γ (.loop cG) ρ st Q:=by
 intro m
 induction m with
 |zero=>
  intro Y W hY hn ρ st hR h0 h14 h17 Q hQ
  obtain rfl:=List.length_eq_zero_iff.1 hY
  rw[List.append_nil]at h17
  rw[←aa h0,←aa h14,←aa h17]
  refine Hh ?_
  repeat' (first
 |(refine al ?_;first
 |refine mI ?_
 |refine gF ?_
 |refine Hd ?_)
 |refine He ?_
 |refine Ir ?_
 |refine ah rfl ?_
 |refine Hi ?_)
  exact hQ _ _ (FrR.refl _ _) (by simpa using hR)
 |succ m ih=>
  intro Y1 W hY hn ρ st hR h0 h14 h17 Q hQ
  obtain⟨Y,y,rfl⟩:∃S y,Y1=S++[y]:=by
   rcases List.eq_nil_or_concat Y1 with h|⟨S,y,h⟩
   ·subst h;simp at hY
   ·exact⟨S,y,by rw[h,List.concat_eq_append]⟩
  have e1:U++(Y++[y])++x::W=(U++Y)++y::x::W:=by simp
  have e2:((U++(Y++[y])).length:Nat)=(U++Y).length+1:=by rw[←List.append_assoc,List.length_append];rfl
  rw[e1]at hn hR
  rw[e2]at h17
  have hnx:=ih Y (y::W) (by simpa using hY) (by rw[hn];simp)
  have hUA:U.length≤(U++Y).length:=by simp
  have hx:((U++Y)++y::x::W)[(U++Y).length+1]?=some x:=by
   rw[List.getElem?_append_right (by omega)];simp
  have hy:((U++Y)++y::x::W)[(U++Y).length]?=some y:=by
   rw[List.getElem?_append_right (by omega)];simp
  have hsw:=@y7 (U++Y) W x y
  have hAn:(U++Y).length+1<n:=by rw[hn,@List.length_append _ (U++Y) _];simp
  clear ih
  have hgoal:U++x::(Y++[y]++W)=U++x::(Y++y::W):=by simp
  rw[hgoal]at hQ
  generalize hA:U++Y=A at*
  generalize hL:A++y::x::W=L at*
  have hgt:(U.length:Int)<((A.length+1:Nat):Int):=by omega
  have hsub:IntKind.i64.wrap (((A.length+1:Nat):Int) - 1)=((A.length:Nat):Int):=by rw[ea (by omega)];omega
  have hx':=fy hx
  have hy':=fy hy
  have hi1:A.length+1<(L.map Rt.e).length:=by rw[List.length_map];omega
  have hA0:A.length<n:=by omega
  have hi2:A.length<((L.map Rt.e).set (A.length+1) (.agg [.slice .no 3 (y.hs.map Hp.e),.int .i64 y.ar])).length:=by rw[List.length_set,List.length_map];omega
  have hcel:∀d∈((L.map Rt.e).set (A.length+1) (.agg [.slice .no 3 (y.hs.map Hp.e),.int .i64 y.ar])),d.cells.length=2:=by
   intro d hd
   rcases List.mem_or_eq_of_mem_set hd with hd|rfl
   ·exact aC d hd
   ·rfl
  rw[←aa h0,←aa h14,←aa h17]
  refine Hh ?_
  repeat' (first
 |(refine al ?_;first
 |refine aS (s:=((A.length:Nat):Int)) (hs:=hsub) ?_
 |refine gT (p:=hgt) ?_
 |refine aA (j:=A.length+1) rfl rfl rfl rfl hAn ?_
 |refine aA (j:=A.length) rfl rfl rfl rfl hA0 ?_
 |refine mI ?_
 |refine mR ?_
 |refine aH (j:=A.length+1) rfl rfl hR.at (Nat.zero_add _) aC hx' rfl ?_
 |refine aH (j:=A.length) rfl rfl hR.at (Nat.zero_add _) aC hy' rfl ?_
 |(refine ck (j:=A.length+1) rfl rfl rfl hR (Nat.zero_add _) aC hi1 rfl rfl rfl ?_<;>intro st1 f1 f2 f3 f4 f5 hR1 hb2)
 |refine Hd ?_)
 |refine He ?_
 |refine Ir ?_
 |refine ay ?_
 |refine Hg ?_
 |refine aj rfl ?_
 |refine Hf ?_)
  refine ck (j:=A.length) rfl rfl rfl hR1 (Nat.zero_add _) hcel hi2 rfl rfl rfl ?_
  intro st2 g1 g2 g3 g4 g5 hR2 hb3
  have hR3:RowIs st2 p 2 ((A++x::(y::W)).map Rt.e):=by rw[←hsw];exact hR2
  repeat' (first
 |(refine al ?_;first
 |refine aS (s:=((A.length:Nat):Int)) (hs:=hsub) ?_
 |refine mI ?_
 |refine Hd ?_)
 |refine au (by simp[bB,List.range,List.range.loop,Fl.clash]) ?_
 |refine Ir ?_)
  refine hnx _ _ hR3 ?_ ?_ ?_ Q (fun ρ' st' hF hR'=>hQ ρ' st' (FrR.trans ⟨g1.trans f1,g2.trans f2,g3.trans f3,g4.trans f4,g5.trans f5,fun q hq=>(hb3 q hq).trans (hb2 q hq)⟩ hF) hR')<;>rfl
end Go.Bes
/-
  slices' symMerge, where one side has one element.
-/
namespace Go.Bes
open Go.Ev
theorem BZ (x:Rt):pm x x:=by unfold pm;rw[dO];exact Int.le_refl _
theorem lW {B:List Rt} (h:fw B) {i j:Nat} {y z:Rt} (hy:B[i]?=some y) (hz:B[j]?=some z) (hij:i≤j):pm y z:=by
 obtain⟨h1,rfl⟩:=List.getElem?_eq_some_iff.mp hy
 obtain⟨h2,rfl⟩:=List.getElem?_eq_some_iff.mp hz
 rcases Nat.lt_or_eq_of_le hij with h'|rfl
 ·exact List.pairwise_iff_getElem.1 h i j h1 h2 h'
 ·exact BZ _
theorem l6 {U B R:List Rt} {c:Nat} (h1:U.length≤c) (h2:c<U.length+B.length):(U++B++R)[c]?=B[c - U.length]?:=by
 rw[List.getElem?_append_left (by rw[List.length_append];omega),List.getElem?_append_right h1]
theorem sU {U B R:List Rt} {g:Nat→Bool} {f:Rt→Bool} {s:Nat} (hg:∀c y,U.length≤c→c<U.length+B.length→(U++B++R)[c]?=some y→g c=f y) (hc:Cut g U.length (U.length+B.length) s):
  (∀b∈B.take (s - U.length),f b=true)∧(∀b∈B.drop (s - U.length),f b=false):=by
 have h0:=hc.lo
 have h9:=hc.hi
 constructor
 ·intro b hb
  obtain⟨i,hi⟩:=List.mem_iff_getElem?.1 hb
  have hil:i<s - U.length:=by
   have:=(List.getElem?_eq_some_iff.mp hi).1
   rw[List.length_take]at this
   omega
  rw[List.getElem?_take_of_lt hil]at hi
  have hiB:=(List.getElem?_eq_some_iff.mp hi).1
  have hh:=hg (U.length+i) b (by omega) (by omega) (by rw[l6 (by omega) (by omega)];rw[show U.length+i - U.length=i from by omega];exact hi)
  rw[←hh]
  exact hc.be _ (by omega) (by omega)
 ·intro b hb
  obtain⟨i,hi⟩:=List.mem_iff_getElem?.1 hb
  rw[List.getElem?_drop]at hi
  have hiB:=(List.getElem?_eq_some_iff.mp hi).1
  have hh:=hg (s+i) b (by omega) (by omega) (by rw[l6 (by omega) (by omega),show s+i - U.length=s - U.length+i from by omega];exact hi)
  rw[←hh]
  exact hc.af _ (by omega) (by omega)
theorem zP {x:Rt} {B1 B2:List Rt} (h1:∀b∈B1,eW b x=true) (h2:∀b∈B2,eW b x=false):jV [x] (B1++B2)=B1++x::B2:=by
 have e1:=eC _ [] B1 [x] B2 (Nat.le_refl _) (fun b hb a ha=>by rw[List.mem_singleton.1 ha];exact h1 b hb) (fun a ha=>absurd ha List.not_mem_nil)
 have e2:=eC _ [x] [] [] B2 (Nat.le_refl _) (fun b hb=>absurd hb List.not_mem_nil) (fun a ha b hb=>by rw[List.mem_singleton.1 ha];exact cS.2 (h2 b hb))
 simp only[List.nil_append,List.append_nil,gn,gp]at e1 e2
 rw[e1,e2]
 rfl
theorem As {x:Rt} {A1 A2:List Rt} (h1:∀a∈A1,eW x a=false) (h2:∀a∈A2,eW x a=true):jV (A1++A2) [x]=A1++x::A2:=by
 have e1:=eC _ A1 [] A2 [x] (Nat.le_refl _) (fun b hb=>absurd hb List.not_mem_nil) (fun a ha b hb=>by rw[List.mem_singleton.1 hb];exact cS.2 (h1 a ha))
 have e2:=eC _ [] [x] A2 [] (Nat.le_refl _) (fun b hb a ha=>by rw[List.mem_singleton.1 hb];exact h2 a ha) (fun a ha=>absurd ha List.not_mem_nil)
 simp only[List.nil_append,List.append_nil,gn,gp]at e1 e2
 rw[e1,e2]
 rfl
set_option maxHeartbeats 8000000 in
theorem Ek (p n c:Nat) (P:List Rt) (x:Rt) (B R:List Rt) (st:Store) (hnl:n≤1000000) (hB:fw B) (hn:n=(P++[x]++B++R).length) (hsh:bA (P++[x]++B++R)) (hR:RowIs st p 2 ((P++[x]++B++R).map Rt.e)) (m b:Nat) (hm:m=P.length+1) (hb:b=P.length+1+B.length):
  EvRWX Γ 96 [.rs p 0 2 n c,.int .i64 P.length,.int .i64 m,.int .i64 b,.func 13 []] st (fun r st'=>r=.tuple []∧FrR st st' p∧RowIs st' p 2 ((P++jV [x] B++R).map Rt.e)):=by
 refine aR rfl rfl ?_
 have hUl:(P++[x]).length=P.length+1:=by simp
 have hx:(P++[x]++B++R)[P.length]?=some x:=by simp
 have hnb:b≤n:=by rw[hn,hb];simp;omega
 have hsat:∀{c:Nat} {y:Rt},m≤c→c<b→(P++[x]++B++R)[c]?=some y→B[c - m]?=some y:=fun{c y} h1 h2 h=>by
  rw[l6 (by omega) (by omega),hUl,←hm]at h;exact h
 let g:Nat→Bool:=fun c=>match (P++[x]++B++R)[c]? with|some y=>eW y x|none=>false
 have hgd:∀c y,m≤c→c<b→(P++[x]++B++R)[c]?=some y→g c=eW y x:=fun c y _ _ h=>by show (match (P++[x]++B++R)[c]? with|some y=>eW y x|none=>false)=_;rw[h]
 have hmo:Mono g m b:=fun c c' h1 h2 h3 h4=>by
  obtain⟨y,hy⟩:∃y,(P++[x]++B++R)[c]?=some y:=⟨_,List.getElem?_eq_getElem (by omega)⟩
  obtain⟨y',hy'⟩:∃y,(P++[x]++B++R)[c']?=some y:=⟨_,List.getElem?_eq_getElem (by omega)⟩
  rw[hgd c' y' (by omega) h3 hy']at h4
  rw[hgd c y h1 (by omega) hy]
  exact vd (lW hB (hsat h1 (by omega) hy) (hsat (by omega) h3 hy') (by omega)) h4
 have hlo:=GY p n c (P++[x]++B++R) hnl hn hsh P.length m b 0 0 x hx g (b - m) m b (Nat.le_refl _) (by omega) hnb hmo hgd
 have hsub:IntKind.i64.wrap ((m:Int) - (P.length:Int))=1:=by rw[ea (by omega)];omega
 repeat' (first
 |(refine al ?_;first
 |refine aS (s:=1) (hs:=hsub) ?_
 |refine mI ?_
 |refine cb rfl rfl rfl rfl (by omega) ?_
 |refine Hd ?_)
 |(refine hlo _ _ hR ?_ ?_ ?_ ?_ ?_ _ ?_<;>first|rfl|(intro ρ2 s hcut k0 k1 k4 k10))
 |refine He ?_
 |refine Ir ?_
 |refine aj rfl ?_
 |refine Hf ?_)
 have hcp:=sU (U:=P++[x]) (B:=B) (R:=R) (f:=fun y=>eW y x) (s:=s) (fun c y h1 h2 h=>hgd c y (by omega) (by omega) h) (by rw[hUl,←hm,show m+B.length=b from by omega];exact hcut)
 rw[hUl,←hm]at hcp
 have hs0:=hcut.lo
 have hs9:=hcut.hi
 have hmg:=zP hcp.1 hcp.2
 rw[List.take_append_drop]at hmg
 have hBt:(B.take (s - m)).length=s - m:=by rw[List.length_take];omega
 have e1:P++[x]++B++R=P++x::(B.take (s - m)++(B.drop (s - m)++R)):=by
  rw[←List.append_assoc (B.take (s - m)),List.take_append_drop];simp
 have hwm:=GU p n c s hnl x (B.drop (s - m)++R) (B.take (s - m)) P (by rw[hn,e1]) (by rw[List.length_append,hBt];omega)
 rw[e1]at hR
 rw[←aa k0,←aa k1,←aa k4,←aa k10]
 repeat' (first
 |(refine al ?_;first
 |refine mI ?_
 |refine Hd ?_)
 |(refine hwm _ _ hR ?_ ?_ ?_ _ ?_<;>first|rfl|(intro ρ3 st3 hF3 hR3))
 |refine Hf ?_
 |refine an ?_)
 refine⟨.inr rfl,_,rfl,rfl,hF3,?_⟩
 rw[hmg]
 simpa using hR3
set_option maxHeartbeats 8000000 in
theorem E6 (p n c:Nat) (P A:List Rt) (x:Rt) (R:List Rt) (st:Store) (hnl:n≤1000000) (hA2:A.length≠1) (hA:fw A) (hn:n=(P++A++x::R).length) (hsh:bA (P++A++x::R)) (hR:RowIs st p 2 ((P++A++x::R).map Rt.e)) (m b:Nat) (hm:m=P.length+A.length) (hb:b=m+1):
  EvRWX Γ 96 [.rs p 0 2 n c,.int .i64 P.length,.int .i64 m,.int .i64 b,.func 13 []] st (fun r st'=>r=.tuple []∧FrR st st' p∧RowIs st' p 2 ((P++jV A [x]++R).map Rt.e)):=by
 refine aR rfl rfl ?_
 have hx:(P++A++x::R)[m]?=some x:=by rw[List.getElem?_append_right (by simp;omega)];simp[hm]
 have hnb:b≤n:=by rw[hn,hb,hm];simp;omega
 have hsat:∀{c:Nat} {y:Rt},P.length≤c→c<m→(P++A++x::R)[c]?=some y→A[c - P.length]?=some y:=fun{c y} h1 h2 h=>by
  rw[l6 (by omega) (by omega)]at h;exact h
 let g:Nat→Bool:=fun c=>match (P++A++x::R)[c]? with|some y=> !eW x y|none=>false
 have hgd:∀c y,P.length≤c→c<m→(P++A++x::R)[c]?=some y→g c= !eW x y:=fun c y _ _ h=>by show (match (P++A++x::R)[c]? with|some y=> !eW x y|none=>false)=_;rw[h]
 have hmo:Mono g P.length m:=fun c c' h1 h2 h3 h4=>by
  obtain⟨y,hy⟩:∃y,(P++A++x::R)[c]?=some y:=⟨_,List.getElem?_eq_getElem (by omega)⟩
  obtain⟨y',hy'⟩:∃y,(P++A++x::R)[c']?=some y:=⟨_,List.getElem?_eq_getElem (by omega)⟩
  rw[hgd c' y' (by omega) h3 hy']at h4
  rw[hgd c y h1 (by omega) hy]
  have h5:pm y' x:=cS.2 (by simpa using h4)
  have:=cS.1 (cN (lW hA (hsat h1 (by omega) hy) (hsat (by omega) h3 hy') (by omega)) h5)
  rw[this]
  rfl
 have hlo:=GV p n c (P++A++x::R) hnl hn hsh P.length m b 0 0 x hx g (m - P.length) P.length m (Nat.le_refl _) (by omega) (by omega) hmo hgd
 have hsub:IntKind.i64.wrap ((m:Int) - (P.length:Int))=(A.length:Int):=by rw[ea (by omega)];omega
 have hsub2:IntKind.i64.wrap ((b:Int) - (m:Int))=1:=by rw[ea (by omega)];omega
 have hA2':¬((A.length:Nat):Int)=1:=by omega
 repeat' (first
 |(refine al ?_;first
 |refine aS (s:=(A.length:Int)) (hs:=hsub) ?_
 |refine aS (s:=1) (hs:=hsub2) ?_
 |refine b7 rfl rfl rfl rfl hA2' ?_
 |refine mI ?_
 |refine cb rfl rfl rfl rfl (by omega) ?_
 |refine Hd ?_)
 |(refine hlo _ _ hR ?_ ?_ ?_ ?_ ?_ _ ?_<;>first|rfl|(intro ρ2 s hcut k0 k2 k4 k14))
 |refine He ?_
 |refine Ir ?_
 |refine Hg ?_
 |refine aj rfl ?_
 |refine ah rfl ?_
 |refine Hf ?_)
 have hcp:=sU (U:=P) (B:=A) (R:=x::R) (f:=fun y=> !eW x y) (s:=s) (fun c y h1 h2 h=>hgd c y (by omega) (by omega) h) (by rw[←hm];exact hcut)
 have hs0:=hcut.lo
 have hs9:=hcut.hi
 have hmg:=As (x:=x) (A1:=A.take (s - P.length)) (A2:=A.drop (s - P.length)) (fun a ha=>by simpa using hcp.1 a ha) (fun a ha=>by simpa using hcp.2 a ha)
 rw[List.take_append_drop]at hmg
 have hAt:(P++A.take (s - P.length)).length=s:=by rw[List.length_append,List.length_take];omega
 have e1:P++A++x::R=(P++A.take (s - P.length))++A.drop (s - P.length)++x::R:=by
  rw[List.append_assoc P (A.take _),List.take_append_drop]
 have hwm:=G9 p n c hnl x (P++A.take (s - P.length)) _ (A.drop (s - P.length)) R rfl (by rw[hn,e1])
 have hml:((P++A.take (s - P.length)++A.drop (s - P.length)).length:Nat)=m:=by rw[List.append_assoc P,List.take_append_drop,List.length_append,hm]
 rw[e1]at hR
 rw[hAt,hml]at hwm
 rw[←aa k0,←aa k2,←aa k4,←aa k14]
 repeat' (first
 |(refine al ?_;first
 |refine mI ?_
 |refine Hd ?_)
 |(refine hwm _ _ hR ?_ ?_ ?_ _ ?_<;>first|rfl|(intro ρ3 st3 hF3 hR3))
 |refine Hf ?_
 |refine an ?_)
 refine⟨.inr rfl,_,rfl,rfl,hF3,?_⟩
 rw[hmg]
 simpa using hR3
end Go.Bes
/-
  slices' symMerge, on a row of routes.
-/
namespace Go.Bes
open Go.Ev
section
variable {Γ:Nat→Option FD} {ρ:Nat→D} {st:Store} {Q:X→(Nat→D)→Store→Prop}
theorem qT {dr:Bool} {ops:List Op1} {x:A} {a b r:C} (Φ:(Nat→D)→Store→Prop) (h1:WC Γ (.seq (.ops dr ops) (.cond x a b)) ρ st (fun X ρ2 st2=>X=.normal∧Φ ρ2 st2)) (h2:∀ρ2 st2,Φ ρ2 st2→WC Γ r ρ2 st2 Q):WC Γ (.seq (.seq (.ops dr ops) (.cond x a b)) r) ρ st Q:=by
 refine He (h1.mono ?_)
 rintro X ρ1 st1 ⟨rfl,h⟩
 exact h2 ρ1 st1 h
theorem CZ {dr dr2:Bool} {ops ops2:List Op1} {x:A} {a b bb rr:C} {i:Nat} (Φ:(Nat→D)→Store→Prop) (h1:WC Γ (.seq (.ops dr ops) (.cond x a b)) ρ st (fun X ρ2 st2=>X=.normal∧Φ ρ2 st2)) (h2:∀ρ2 st2,Φ ρ2 st2→WC Γ (.seq (.ops dr2 ops2) (.seq (.block i bb) rr)) ρ2 st2 Q):WC Γ (.seq (.seq (.ops dr ops) (.cond x a b)) (.seq (.ops dr2 ops2) (.seq (.block i bb) rr))) ρ st Q:=qT Φ h1 h2
end
theorem DX {A B:List Rt} (h:A=[]∨B=[]):jV A B=A++B:=by
 rcases h with rfl|rfl
 ·rw[gn];rfl
 ·rw[gp,List.append_nil]
theorem GZ {P A B R:List Rt} (h:A=[]∨B=[]):P++A++B++R=P++B++A++R:=by
 rcases h with rfl|rfl<;>simp
theorem zZ {P A B R:List Rt} {a m b md i0 j0 s:Nat} (ha:a=P.length) (hm:m=a+A.length) (hb:b=m+B.length) (h1:a<m) (h2:m<b) (hmd:2*md≤a+b∧a+b≤2*md+1) (hij:(md<m∧i0=md+m - b∧j0=md)∨(m≤md∧i0=a∧j0=m))
  (hA:fw A) (hB:fw B) {g:Nat→Bool} (hg:∀c y x,i0≤c→c<j0→(P++A++B++R)[c]?=some y→(P++A++B++R)[md+m - 1 - c]?=some x→g c= !eW x y) (hc:Cut g i0 j0 s):
  (∀y∈B.take (md+m - s - m),∀x∈A.drop (s - a),eW y x=true)∧(∀x∈A.take (s - a),∀y∈B.drop (md+m - s - m),pm x y):=by
 have h0:=hc.lo
 have h9:=hc.hi
 have hAat:∀{c:Nat},a≤c→c<m→(P++A++B++R)[c]?=A[c - a]?:=fun{c} q1 q2=>by
  rw[List.append_assoc (P++A),ha];exact l6 (by omega) (by omega)
 have hBat:∀{c:Nat},m≤c→c<b→(P++A++B++R)[c]?=B[c - m]?:=fun{c} q1 q2=>by
  have hl:(P++A).length=m:=by rw[List.length_append];omega
  have:=l6 (U:=P++A) (B:=B) (R:=R) (c:=c) (by omega) (by omega)
  rw[hl]at this
  exact this
 constructor
 ·intro y hy x hx
  obtain⟨i,hi⟩:=List.mem_iff_getElem?.1 hy
  have hil:i<md+m - s - m:=by
   have:=(List.getElem?_eq_some_iff.mp hi).1
   rw[List.length_take]at this
   omega
  rw[List.getElem?_take_of_lt hil]at hi
  have hiB:=(List.getElem?_eq_some_iff.mp hi).1
  obtain⟨k,hk⟩:=List.mem_iff_getElem?.1 hx
  rw[List.getElem?_drop]at hk
  have hkA:=(List.getElem?_eq_some_iff.mp hk).1
  have hs:s<j0:=by omega
  have hs1:a≤s:=by omega
  obtain⟨u,hu⟩:∃u,A[s - a]?=some u:=⟨_,List.getElem?_eq_getElem (by omega)⟩
  obtain⟨v,hv⟩:∃v,B[md+m - 1 - s - m]?=some v:=⟨_,List.getElem?_eq_getElem (by omega)⟩
  have hgs:=hg s u v h0 hs ((hAat (by omega) (by omega)).trans hu) ((hBat (by omega) (by omega)).trans hv)
  rw[hc.af s (Nat.le_refl _) hs]at hgs
  have hvu:eW v u=true:=by simpa using hgs.symm
  exact rk (vd (lW hB hi hv (by omega)) hvu) (lW hA hu hk (by omega))
 ·intro x hx y hy
  obtain⟨i,hi⟩:=List.mem_iff_getElem?.1 hx
  have hil:i<s - a:=by
   have:=(List.getElem?_eq_some_iff.mp hi).1
   rw[List.length_take]at this
   omega
  rw[List.getElem?_take_of_lt hil]at hi
  have hiA:=(List.getElem?_eq_some_iff.mp hi).1
  obtain⟨k,hk⟩:=List.mem_iff_getElem?.1 hy
  rw[List.getElem?_drop]at hk
  have hkB:=(List.getElem?_eq_some_iff.mp hk).1
  have hs:i0<s:=by omega
  obtain⟨u,hu⟩:∃u,A[s - 1 - a]?=some u:=⟨_,List.getElem?_eq_getElem (by omega)⟩
  obtain⟨v,hv⟩:∃v,B[md+m - 1 - (s - 1) - m]?=some v:=⟨_,List.getElem?_eq_getElem (by omega)⟩
  have hgs:=hg (s - 1) u v (by omega) (by omega) ((hAat (by omega) (by omega)).trans hu) ((hBat (by omega) (by omega)).trans hv)
  rw[hc.be (s - 1) (by omega) (by omega)]at hgs
  have huv:pm u v:=cS.2 (by simpa using hgs.symm)
  exact cN (cN (lW hA hi hu (by omega)) huv) (lW hB hv hk (by omega))
end Go.Bes
/-
  slices' symMerge, on a row of routes: the walk.
-/
namespace Go.Bes
open Go.Ev
def D6 (p n c sz:Nat):Prop:=∀(P A B R:List Rt) (st:Store),A.length+B.length≤sz→0<A.length→0<B.length→fw A→fw B→n=(P++A++B++R).length→bA (P++A++B++R)→RowIs st p 2 ((P++A++B++R).map Rt.e)→∀a m b:Nat,a=P.length→m=a+A.length→b=m+B.length→
 EvRWX Γ 96 [.rs p 0 2 n c,.int .i64 a,.int .i64 m,.int .i64 b,.func 13 []] st (fun r st'=>r=.tuple []∧FrR st st' p∧RowIs st' p 2 ((P++jV A B++R).map Rt.e))
set_option maxHeartbeats 16000000 in
theorem E4 (p n c sz:Nat) (hnl:n≤1000000) (ih:D6 p n c sz) (P A B R:List Rt) (st:Store) (hsz:A.length+B.length≤sz+1) (hA1:1<A.length) (hB1:1<B.length) (hA:fw A) (hB:fw B) (hn:n=(P++A++B++R).length) (hsh:bA (P++A++B++R)) (hR:RowIs st p 2 ((P++A++B++R).map Rt.e)) (a m b:Nat) (ha:a=P.length) (hm:m=a+A.length) (hb:b=m+B.length):
  EvRWX Γ 96 [.rs p 0 2 n c,.int .i64 a,.int .i64 m,.int .i64 b,.func 13 []] st (fun r st'=>r=.tuple []∧FrR st st' p∧RowIs st' p 2 ((P++jV A B++R).map Rt.e)):=by
 refine aR rfl rfl ?_
 have hnb:b≤n:=by rw[hn];simp;omega
 have hsub1:IntKind.i64.wrap ((m:Int) - (a:Int))=((m - a:Nat):Int):=by rw[ea (by omega)];omega
 have hsub2:IntKind.i64.wrap ((b:Int) - (m:Int))=((b - m:Nat):Int):=by rw[ea (by omega)];omega
 have hne1:¬((m - a:Nat):Int)=1:=by omega
 have hne2:¬((b - m:Nat):Int)=1:=by omega
 have hsum:IntKind.i64.wrap ((a:Int)+(b:Int))=((a+b:Nat):Int):=by rw[ea (by omega)];omega
 have hcv1:IntKind.u64.wrap ((a+b:Nat):Int)=((a+b:Nat):Int):=by
  show ((a+b:Nat):Int)%18446744073709551616=_
  omega
 have hmd:2*((a+b) / 2)≤a+b∧a+b≤2*((a+b) / 2)+1:=by omega
 have hshr:((a+b:Nat):Int).fdiv (2 ^ (Nat.min (1:Int).toNat IntKind.u64.bits))=(((a+b) / 2:Nat):Int):=by rw[Dq];omega
 have hcv2:IntKind.i64.wrap (((a+b) / 2:Nat):Int)=(((a+b) / 2:Nat):Int):=ea (by omega)
 generalize hmdd:(a+b) / 2=md at*
 have hnn:IntKind.i64.wrap ((md:Int)+(m:Int))=((md+m:Nat):Int):=by rw[ea (by omega)];omega
 have hpp:IntKind.i64.wrap (((md+m:Nat):Int) - 1)=((md+m - 1:Nat):Int):=by rw[ea (by omega)];omega
 obtain⟨i0,j0,hij⟩:∃i0 j0,(md<m∧i0=md+m - b∧j0=md)∨(m≤md∧i0=a∧j0=m):=by
  by_cases h:md<m
  ·exact⟨_,_,.inl ⟨h,rfl,rfl⟩⟩
  ·exact⟨_,_,.inr ⟨by omega,rfl,rfl⟩⟩
 let g:Nat→Bool:=fun c=>match (P++A++B++R)[c]?,(P++A++B++R)[md+m - 1 - c]? with|some y,some x=> !eW x y|_,_=>false
 have hgd:∀c y x,i0≤c→c<j0→(P++A++B++R)[c]?=some y→(P++A++B++R)[md+m - 1 - c]?=some x→g c= !eW x y:=fun c y x _ _ h h'=>by
  show (match (P++A++B++R)[c]?,(P++A++B++R)[md+m - 1 - c]? with|some y,some x=> !eW x y|_,_=>false)=_
  rw[h,h']
 have hAat:∀{c:Nat},a≤c→c<m→(P++A++B++R)[c]?=A[c - a]?:=fun{c} q1 q2=>by
  rw[List.append_assoc (P++A),ha];exact l6 (by omega) (by omega)
 have hBat:∀{c:Nat},m≤c→c<b→(P++A++B++R)[c]?=B[c - m]?:=fun{c} q1 q2=>by
  have hl:(P++A).length=m:=by rw[List.length_append];omega
  have:=l6 (U:=P++A) (B:=B) (R:=R) (c:=c) (by omega) (by omega)
  rw[hl]at this
  exact this
 have hmo:Mono g i0 j0:=fun c c' h1 h2 h3 h4=>by
  obtain⟨y,hy⟩:∃y,A[c - a]?=some y:=⟨_,List.getElem?_eq_getElem (by omega)⟩
  obtain⟨y',hy'⟩:∃y,A[c' - a]?=some y:=⟨_,List.getElem?_eq_getElem (by omega)⟩
  obtain⟨x,hx⟩:∃y,B[md+m - 1 - c - m]?=some y:=⟨_,List.getElem?_eq_getElem (by omega)⟩
  obtain⟨x',hx'⟩:∃y,B[md+m - 1 - c' - m]?=some y:=⟨_,List.getElem?_eq_getElem (by omega)⟩
  rw[hgd c' y' x' (by omega) h3 ((hAat (by omega) (by omega)).trans hy') ((hBat (by omega) (by omega)).trans hx')]at h4
  rw[hgd c y x h1 (by omega) ((hAat (by omega) (by omega)).trans hy) ((hBat (by omega) (by omega)).trans hx)]
  have h5:pm y' x':=cS.2 (by simpa using h4)
  have:=cS.1 (cN (cN (lW hA hy hy' (by omega)) h5) (lW hB hx' hx (by omega)))
  rw[this]
  rfl
 have hlo:=G1 p n c (P++A++B++R) hnl hn hsh a m b md (md+m) (md+m - 1) (by omega) g (j0 - i0) i0 j0 (Nat.le_refl _) (by omega) (by omega) hmo hgd (fun c h1 h2=>by omega)
 have hsp:=fun s=>@zZ P A B R a m b md i0 j0 s ha hm hb (by omega) (by omega) hmd hij hA hB g hgd
 clear hgd hmo hAat hBat
 have hi0:md<m→IntKind.i64.wrap (((md+m:Nat):Int) - (b:Int))=(i0:Int):=fun h=>by rw[ea (by omega)];omega
 repeat' (first
 |(refine al ?_;first
 |refine aS (s:=((m - a:Nat):Int)) (hs:=hsub1) ?_
 |refine aS (s:=((b - m:Nat):Int)) (hs:=hsub2) ?_
 |refine b7 rfl rfl rfl rfl hne1 ?_
 |refine b7 rfl rfl rfl rfl hne2 ?_
 |refine aD (s:=((a+b:Nat):Int)) (hs:=hsum) ?_
 |refine aD (s:=((md+m:Nat):Int)) (hs:=hnn) ?_
 |refine fV (s:=((a+b:Nat):Int)) rfl rfl rfl hcv1 ?_
 |refine qM (s:=((md:Nat):Int)) rfl rfl rfl rfl (by decide) hshr ?_
 |refine fV (s:=((md:Nat):Int)) rfl rfl rfl hcv2 ?_
 |refine mI ?_
 |(refine jl rfl rfl rfl rfl ?_ ?_<;>intro _)
 |refine aS ?_
 |refine Hd ?_)
 |refine CZ (Φ:=fun ρ1 st1=>st1=st∧ρ1 0=.rs p 0 2 n c∧ρ1 1=.int .i64 a∧ρ1 2=.int .i64 m∧ρ1 3=.int .i64 b∧ρ1 4=.func 13 []∧ρ1 18=.int .i64 md∧ρ1 19=.int .i64 (md+m:Nat)∧ρ1 20=.int .i64 i0∧ρ1 21=.int .i64 j0) ?_ ?_
 |refine He ?_
 |refine Ir ?_
 |refine Hg ?_
 |refine aj rfl ?_
 |refine ah rfl ?_)
 rotate_left 2
 ·rintro ρ2 st2 ⟨rfl,k0,k1,k2,k3,k4,k18,k19,k20,k21⟩
  rw[←aa k0,←aa k1,←aa k2,←aa k3,←aa k4,←aa k18,←aa k19,←aa k20,←aa k21]
  repeat' (first
 |(refine al ?_;first
 |refine aS (s:=((md+m - 1:Nat):Int)) (hs:=hpp) ?_
 |refine mI ?_
 |refine Hd ?_)
 |(refine hlo _ _ hR ?_ ?_ ?_ ?_ ?_ ?_ ?_ ?_ ?_ ?_ _ ?_<;>first|rfl|(intro ρ3 s hcut q0 q1 q2 q3 q4 q18 q19 q22 q20))
 |refine He ?_
 |refine Ir ?_
 |refine Hf ?_)
  have hcs:=hsp s hcut
  have hs0:=hcut.lo
  have hs9:=hcut.hi
  clear hsp hlo hcut hi0
  have hsa:a≤s:=by omega
  have hsm:s≤m:=by omega
  have hem:m≤md+m - s:=by omega
  have heb:md+m - s≤b:=by omega
  obtain⟨A1,A2,rfl,hA1l,hA1e,hA2e⟩:∃A1 A2,A=A1++A2∧A1.length=s - a∧A.take (s - a)=A1∧A.drop (s - a)=A2:=⟨_,_,(List.take_append_drop (s - a) A).symm,by rw[List.length_take];omega,rfl,rfl⟩
  obtain⟨B1,B2,rfl,hB1l,hB1e,hB2e⟩:∃A1 A2,B=A1++A2∧A1.length=md+m - s - m∧B.take (md+m - s - m)=A1∧B.drop (md+m - s - m)=A2:=⟨_,_,(List.take_append_drop (md+m - s - m) B).symm,by rw[List.length_take];omega,rfl,rfl⟩
  rw[hA1e,hA2e,hB1e,hB2e]at hcs
  have hsplit:=eC _ A1 B1 A2 B2 (Nat.le_refl _) hcs.1 hcs.2
  rw[hsplit]
  rw[List.length_append]at hm hb hA1 hB1
  rw[List.length_append,List.length_append]at hsz
  have hsA1:fw A1:=(List.pairwise_append.1 hA).1
  have hsA2:fw A2:=(List.pairwise_append.1 hA).2.1
  have hsB1:fw B1:=(List.pairwise_append.1 hB).1
  have hsB2:fw B2:=(List.pairwise_append.1 hB).2.1
  have hen:IntKind.i64.wrap (((md+m:Nat):Int) - (s:Int))=((md+m - s:Nat):Int):=by rw[ea (by omega)];omega
  have e1:P++(A1++A2)++(B1++B2)++R=(P++A1)++A2++B1++(B2++R):=by simp
  have e2:(P++A1)++B1++A2++(B2++R)=P++A1++B1++(A2++B2++R):=by simp
  have e3:P++jV A1 B1++(A2++B2++R)=(P++jV A1 B1)++A2++B2++R:=by simp
  have hm1:(jV A1 B1).length=A1.length+B1.length:=uf _ A1 B1 (Nat.le_refl _)
  rw[e1]at hn hsh hR
  have hn2:n=(P++A1++B1++(A2++B2++R)).length:=by rw[hn];simp;omega
  have hn3:n=((P++jV A1 B1)++A2++B2++R).length:=by rw[hn];simp[hm1];omega
  have hsh2:bA (P++A1++B1++(A2++B2++R)):=dD hsh (fun r hr=>by
   simp only[List.mem_append]at hr ⊢
   rcases hr with ((h|h)|h)|(h|h)|h<;>simp[h])
  have hsh3:bA ((P++jV A1 B1)++A2++B2++R):=dD hsh (fun r hr=>by
   simp only[List.mem_append,om r _ A1 B1 (Nat.le_refl _)]at hr ⊢
   rcases hr with (((h|h|h)|h)|h)|h<;>simp[h])
  rw[←aa q0,←aa q1,←aa q2,←aa q3,←aa q4,←aa q18,←aa q19,←aa q20]
  have hA2l:A2.length=m - s:=by omega
  have hB2l:B2.length=b - (md+m - s):=by omega
  generalize hE:md+m - s=en at*
  have hrot:=fun h1 h2=>AB p n c (P++A1) A2 B1 (B2++R) st2 hnl h1 h2 hn hR s m en (by rw[List.length_append];omega) (by rw[List.length_append,List.length_append];omega) (by rw[List.length_append,List.length_append,List.length_append];omega)
  have hnoRot:A2.length=0∨B1.length=0→RowIs st2 p 2 ((P++A1++B1++(A2++B2++R)).map Rt.e):=fun h=>by
   have h':A2=[]∨B1=[]:=h.imp List.length_eq_zero_iff.1 List.length_eq_zero_iff.1
   rw[←e2,←GZ h']
   exact hR
  repeat' (first
 |(refine al ?_;first
 |refine aS (s:=((en:Nat):Int)) (hs:=hen) ?_
 |refine ak rfl ?_
 |refine mI ?_
 |refine mB ?_
 |refine aB (v:=.func _ _) rfl rfl rfl ?_
 |refine mR ?_
 |refine ak rfl ?_
 |(refine gU rfl rfl rfl rfl ?_ ?_<;>intro _)
 |(refine a7 rfl rfl rfl (hrot (by omega) (by omega)) ?_<;>intro r1 st1 hp1)
 |refine pB ?_
 |refine Hd ?_)
 |refine qT (Φ:=fun ρ1 st1=>FrR st2 st1 p∧RowIs st1 p 2 ((P++A1++B1++(A2++B2++R)).map Rt.e)∧ρ1 0=.rs p 0 2 n c∧ρ1 1=.int .i64 a∧ρ1 3=.int .i64 b∧ρ1 4=.func 13 []∧ρ1 18=.int .i64 md∧ρ1 20=.int .i64 s∧ρ1 24=.int .i64 en) ?_ ?_
 |refine He ?_
 |refine Ir ?_
 |refine Hg ?_
 |refine aj rfl ?_
 |refine ah rfl ?_)
  all_goals first
   |exact⟨rfl,hp1.2.1,e2▸hp1.2.2,rfl,rfl,rfl,rfl,rfl,rfl,rfl⟩
   |exact⟨rfl,FrR.refl _ _,hnoRot (by omega),rfl,rfl,rfl,rfl,rfl,rfl,rfl⟩
   |skip
  rintro ρ3 st3 ⟨hF3,hR3,k0,k1,k3,k4,k18,k20,k24⟩
  have hrec1:=fun h1 h2=>ih P A1 B1 (A2++B2++R) st3 (by omega) h1 h2 hsA1 hsB1 hn2 hsh2 hR3 a s md ha (by omega) (by omega)
  have hno1:A1.length=0∨B1.length=0→RowIs st3 p 2 (((P++jV A1 B1)++A2++B2++R).map Rt.e):=fun h=>by
   have h':A1=[]∨B1=[]:=h.imp List.length_eq_zero_iff.1 List.length_eq_zero_iff.1
   rw[←e3,DX h',←List.append_assoc P]
   exact hR3
  rw[←aa k0,←aa k1,←aa k3,←aa k4,←aa k18,←aa k20,←aa k24]
  repeat' (first
 |(refine al ?_;first
 |refine ak rfl ?_
 |refine mI ?_
 |refine mB ?_
 |refine aB (v:=.func _ _) rfl rfl rfl ?_
 |refine mR ?_
 |refine ak rfl ?_
 |(refine gU rfl rfl rfl rfl ?_ ?_<;>intro _)
 |(refine a7 rfl rfl rfl (hrec1 (by omega) (by omega)) ?_<;>intro r1 st1 hp1)
 |refine pB ?_
 |refine Hd ?_)
 |refine qT (Φ:=fun ρ1 st1=>FrR st2 st1 p∧RowIs st1 p 2 (((P++jV A1 B1)++A2++B2++R).map Rt.e)∧ρ1 0=.rs p 0 2 n c∧ρ1 3=.int .i64 b∧ρ1 4=.func 13 []∧ρ1 18=.int .i64 md∧ρ1 24=.int .i64 en) ?_ ?_
 |refine He ?_
 |refine Ir ?_
 |refine Hg ?_
 |refine aj rfl ?_
 |refine ah rfl ?_)
  all_goals first
   |exact⟨rfl,hF3.trans hp1.2.1,e3▸hp1.2.2,rfl,rfl,rfl,rfl,rfl⟩
   |exact⟨rfl,hF3,hno1 (by omega),rfl,rfl,rfl,rfl,rfl⟩
   |skip
  rintro ρ4 st4 ⟨hF4,hR4,k0,k3,k4,k18,k24⟩
  have hrec2:=fun h1 h2=>ih (P++jV A1 B1) A2 B2 R st4 (by omega) h1 h2 hsA2 hsB2 hn3 hsh3 hR4 md en b (by rw[List.length_append,hm1];omega) (by omega) (by omega)
  have hno2:A2.length=0∨B2.length=0→RowIs st4 p 2 ((P++(jV A1 B1++jV A2 B2)++R).map Rt.e):=fun h=>by
   have h':A2=[]∨B2=[]:=h.imp List.length_eq_zero_iff.1 List.length_eq_zero_iff.1
   rw[DX h']
   simpa using hR4
  have e4:(P++jV A1 B1)++jV A2 B2++R=P++(jV A1 B1++jV A2 B2)++R:=by simp
  rw[←aa k0,←aa k3,←aa k4,←aa k18,←aa k24]
  repeat' (first
 |(refine al ?_;first
 |refine ak rfl ?_
 |refine mI ?_
 |refine mB ?_
 |refine aB (v:=.func _ _) rfl rfl rfl ?_
 |refine mR ?_
 |refine ak rfl ?_
 |(refine gU rfl rfl rfl rfl ?_ ?_<;>intro _)
 |(refine a7 rfl rfl rfl (hrec2 (by omega) (by omega)) ?_<;>intro r1 st1 hp1)
 |refine pB ?_
 |refine Hd ?_)
 |refine He ?_
 |refine Ir ?_
 |refine Hg ?_
 |refine aj rfl ?_
 |refine ah rfl ?_)
  all_goals first
   |exact⟨.inl rfl,_,rfl,rfl,hF4.trans hp1.2.1,e4▸hp1.2.2⟩
   |exact⟨.inl rfl,_,rfl,rfl,hF4,hno2 (by omega)⟩
 all_goals rcases hij with⟨h1,h2,h3⟩|⟨h1,h2,h3⟩
 all_goals first|(exfalso;omega)|(refine⟨rfl,rfl,?_,?_,?_,?_,?_,?_,?_,?_,?_⟩<;>first|rfl|exact congrArg (D.int .i64) (by omega))
theorem qu (p n c:Nat) (hnl:n≤1000000):∀sz,D6 p n c sz:=by
 intro sz
 induction sz with
 |zero=>intro P A B R st h1 h2 h3;omega
 |succ sz ih=>
  intro P A B R st hsz hA0 hB0 hA hB hn hsh hR a m b ha hm hb
  by_cases h1:A.length=1
  ·obtain⟨x,rfl⟩:=List.length_eq_one_iff.1 h1
   subst ha
   exact Ek p n c P x B R st hnl hB hn hsh hR m b hm (by rw[hb,hm];rfl)
  ·by_cases h2:B.length=1
   ·obtain⟨x,rfl⟩:=List.length_eq_one_iff.1 h2
    subst ha
    have e:P++A++[x]++R=P++A++x::R:=by simp
    rw[e]at hn hsh hR
    exact E6 p n c P A x R st hnl h1 hA hn hsh hR m b hm hb
   ·exact E4 p n c sz hnl ih P A B R st hsz (by omega) (by omega) hA hB hn hsh hR a m b ha hm hb
end Go.Bes
/-
  slices' stable sort of any length: its loops.
-/
namespace Go.Bes
open Go.Ev
set_option maxHeartbeats 8000000 in
theorem F2 (p n c:Nat) (hnl:n≤1000000) (L:List Rt):∀(N:Nat) (M D':List Rt),M.length≤N→(∀Z',Blk 20 M Z'→Blk 20 L (D'++Z'))→n=(D'++M).length→bA (D'++M)→∀(ρ:Nat→D) (st:Store),RowIs st p 2 ((D'++M).map Rt.e)→
  ρ 0=.rs p 0 2 n c→ρ 1=.int .i64 n→ρ 2=.func 13 []→ρ 6=.int .i64 20→ρ 7=.int .i64 D'.length→ρ 8=.int .i64 ((D'.length+20:Nat):Int)→∀(Q:X→(Nat→D)→Store→Prop),
  (∀ρ' st' D2 M2,FrR st st' p→RowIs st' p 2 ((D2++M2).map Rt.e)→M2.length<20→(∀Z',Blk 20 M2 Z'→Blk 20 L (D2++Z'))→n=(D2++M2).length→bA (D2++M2)→ρ' 0=.rs p 0 2 n c→ρ' 1=.int .i64 n→ρ' 2=.func 13 []→ρ' 6=.int .i64 20→ρ' 7=.int .i64 D2.length→Q (.exit 0) ρ' st')→WC Γ (.loop c8) ρ st Q:=by
 intro N
 induction N with
 |zero=>
  intro M D' hN hZ hn hsh ρ st hR h0 h1 h2 h6 h7 h8 Q hQ
  have hln:n=D'.length+M.length:=by rw[hn,List.length_append]
  have hgt:(n:Int)<((D'.length+20:Nat):Int):=by omega
  rw[←aa h0,←aa h1,←aa h2,←aa h6,←aa h7,←aa h8]
  refine Hh ?_
  repeat' (first
 |(refine al ?_;first
 |refine eH rfl rfl rfl rfl hgt ?_
 |refine mI ?_
 |refine Hd ?_)
 |refine He ?_
 |refine Ir ?_
 |refine ah rfl ?_
 |refine Hi ?_)
  refine hQ _ _ D' M (FrR.refl _ _) hR (by omega) hZ hn hsh ?_ ?_ ?_ ?_ ?_<;>rfl
 |succ N ih=>
  intro M D' hN hZ hn hsh ρ st hR h0 h1 h2 h6 h7 h8 Q hQ
  have hln:n=D'.length+M.length:=by rw[hn,List.length_append]
  by_cases hM:20≤M.length
  ·have hle:((D'.length+20:Nat):Int)≤(n:Int):=by omega
   obtain⟨Xs,M2,rfl,hXl⟩:∃Xs M2,M=Xs++M2∧Xs.length=20:=⟨M.take 20,M.drop 20,(List.take_append_drop _ _).symm,by rw[List.length_take];omega⟩
   have e1:D'++(Xs++M2)=D'++Xs++M2:=by simp
   have e2:D'++bh Xs++M2=(D'++bh Xs)++M2:=rfl
   rw[e1]at hn hsh hR
   rw[List.length_append]at hln hN
   have hin:=sO p n c D' Xs M2 st hnl hn hsh hR D'.length ((D'.length+20:Nat):Int) rfl (by rw[List.length_append,hXl])
   have hlen:(D'++bh Xs).length=D'.length+20:=by rw[List.length_append,cL,hXl]
   have hnx:=ih M2 (D'++bh Xs) (by omega) (fun Z' hz=>by rw[List.append_assoc];exact hZ _ (.cons hXl hz)) (by rw[hn];simp[cL]) (dD hsh (fun r hr=>by
    simp only[List.mem_append,iT]at hr ⊢;exact hr))
   rw[hlen]at hnx
   have hadd:IntKind.i64.wrap (((D'.length+20:Nat):Int)+20)=((D'.length+20+20:Nat):Int):=by rw[ea (by omega)];omega
   clear ih
   rw[←aa h0,←aa h1,←aa h2,←aa h6,←aa h7,←aa h8]
   refine Hh ?_
   repeat' (first
 |(refine al ?_;first
 |refine ek rfl rfl rfl rfl hle ?_
 |refine aD (s:=((D'.length+20+20:Nat):Int)) (hs:=hadd) ?_
 |refine mI ?_
 |refine aB (v:=.func _ _) rfl rfl rfl ?_
 |refine mR ?_
 |(refine a7 rfl rfl rfl hin ?_<;>intro r1 st1 hp1)
 |refine Hd ?_)
 |refine He ?_
 |refine Ir ?_
 |refine Hg ?_
 |refine aj rfl ?_
 |refine Hf ?_)
   obtain⟨rfl,hF1,hR1⟩:=hp1
   skip
   refine hnx _ _ hR1 ?_ ?_ ?_ ?_ ?_ ?_ Q (fun ρ' st' D2 M2 q1 q2 q3 q4 q5 q6 q7 q8 q9 q10 q11=>hQ ρ' st' D2 M2 (hF1.trans q1) q2 q3 q4 q5 q6 q7 q8 q9 q10 q11)<;>rfl
  ·have hgt:(n:Int)<((D'.length+20:Nat):Int):=by omega
   rw[←aa h0,←aa h1,←aa h2,←aa h6,←aa h7,←aa h8]
   refine Hh ?_
   repeat' (first
 |(refine al ?_;first
 |refine eH rfl rfl rfl rfl hgt ?_
 |refine mI ?_
 |refine Hd ?_)
 |refine He ?_
 |refine Ir ?_
 |refine ah rfl ?_
 |refine Hi ?_)
   refine hQ _ _ D' M (FrR.refl _ _) hR (by omega) hZ hn hsh ?_ ?_ ?_ ?_ ?_<;>rfl
set_option maxHeartbeats 8000000 in
theorem Gx (p n c k:Nat) (hnl:n≤1000000) (hk:0<k) (hkn:k<n) (L:List Rt):∀(N:Nat) (M M' D':List Rt),M.length≤N→Blk k M M'→(∀Z',Blk (2*k) M Z'→Blk (2*k) L (D'++Z'))→n=(D'++M').length→bA (D'++M')→∀(ρ:Nat→D) (st:Store),RowIs st p 2 ((D'++M').map Rt.e)→
  ρ 0=.rs p 0 2 n c→ρ 1=.int .i64 n→ρ 2=.func 13 []→ρ 6=.int .i64 k→ρ 7=.int .i64 D'.length→ρ 8=.int .i64 ((D'.length+2*k:Nat):Int)→∀(Q:X→(Nat→D)→Store→Prop),
  (∀ρ' st' D2 M2 M2',FrR st st' p→RowIs st' p 2 ((D2++M2').map Rt.e)→M2.length<2*k→Blk k M2 M2'→(∀Z',Blk (2*k) M2 Z'→Blk (2*k) L (D2++Z'))→n=(D2++M2').length→bA (D2++M2')→ρ' 0=.rs p 0 2 n c→ρ' 1=.int .i64 n→ρ' 2=.func 13 []→ρ' 6=.int .i64 k→ρ' 7=.int .i64 D2.length→Q (.exit 4) ρ' st')→WC Γ (.loop cY) ρ st Q:=by
 intro N
 induction N with
 |zero=>
  intro M M' D' hN hB hZ hn hsh ρ st hR h0 h1 h2 h6 h7 h8 Q hQ
  have hln:n=D'.length+M.length:=by rw[hn,List.length_append,hB.len]
  have hgt:(n:Int)<((D'.length+2*k:Nat):Int):=by omega
  rw[←aa h0,←aa h1,←aa h2,←aa h6,←aa h7,←aa h8]
  refine Hh ?_
  repeat' (first
 |(refine al ?_;first
 |refine eH rfl rfl rfl rfl hgt ?_
 |refine mI ?_
 |refine Hd ?_)
 |refine He ?_
 |refine Ir ?_
 |refine ah rfl ?_
 |refine Hi ?_)
  refine hQ _ _ D' M M' (FrR.refl _ _) hR (by omega) hB hZ hn hsh ?_ ?_ ?_ ?_ ?_<;>rfl
 |succ N ih=>
  intro M M' D' hN hB hZ hn hsh ρ st hR h0 h1 h2 h6 h7 h8 Q hQ
  have hln:n=D'.length+M.length:=by rw[hn,List.length_append,hB.len]
  by_cases hM:2*k≤M.length
  ·have hle:((D'.length+2*k:Nat):Int)≤(n:Int):=by omega
   obtain⟨Xs,Ys,M2,M2',hXl,hYl,rfl,rfl,hB2⟩:=hB.two hk hM
   have e1:D'++(bh Xs++bh Ys++M2')=D'++bh Xs++bh Ys++M2':=by simp
   rw[e1]at hn hsh hR
   rw[List.length_append,List.length_append]at hln hN
   have hX1:=cL Xs
   have hY1:=cL Ys
   have hin:=qu p n c hnl _ D' (bh Xs) (bh Ys) M2' st (Nat.le_refl _) (by omega) (by omega) (jY _) (jY _) hn hsh hR D'.length (D'.length+k) (D'.length+2*k) rfl (by omega) (by omega)
   rw[←sD]at hin
   have hXY:(Xs++Ys).length=2*k:=by rw[List.length_append];omega
   have hlen:(D'++bh (Xs++Ys)).length=D'.length+2*k:=by rw[List.length_append,cL,hXY]
   have hnx:=ih M2 M2' (D'++bh (Xs++Ys)) (by omega) hB2 (fun Z' hz=>by rw[List.append_assoc];exact hZ _ (.cons hXY hz)) (by rw[List.length_append,hlen,hn,List.length_append,List.length_append,List.length_append];omega) (dD hsh (fun r hr=>by
    simp only[List.mem_append,iT]at hr ⊢
    rcases hr with (h|h|h)|h<;>simp[h]))
   rw[hlen]at hnx
   have hs1:IntKind.i64.wrap ((D'.length:Int)+(k:Int))=((D'.length+k:Nat):Int):=by rw[ea (by omega)];omega
   have hs2:IntKind.i64.wrap (2*(k:Int))=((2*k:Nat):Int):=by rw[ea (by omega)];omega
   have hs3:IntKind.i64.wrap (((D'.length+2*k:Nat):Int)+((2*k:Nat):Int))=((D'.length+2*k+2*k:Nat):Int):=by rw[ea (by omega)];omega
   clear ih
   rw[←aa h0,←aa h1,←aa h2,←aa h6,←aa h7,←aa h8]
   refine Hh ?_
   repeat' (first
 |(refine al ?_;first
 |refine ek rfl rfl rfl rfl hle ?_
 |refine aD (s:=((D'.length+k:Nat):Int)) (hs:=hs1) ?_
 |refine tp (s:=((2*k:Nat):Int)) rfl rfl rfl rfl hs2 ?_
 |refine aD (s:=((D'.length+2*k+2*k:Nat):Int)) (hs:=hs3) ?_
 |refine mI ?_
 |refine aB (v:=.func _ _) rfl rfl rfl ?_
 |refine mR ?_
 |(refine a7 rfl rfl rfl hin ?_<;>intro r1 st1 hp1)
 |refine Hd ?_)
 |refine He ?_
 |refine Ir ?_
 |refine Hg ?_
 |refine aj rfl ?_
 |refine Hf ?_)
   obtain⟨rfl,hF1,hR1⟩:=hp1
   skip
   refine hnx _ _ hR1 ?_ ?_ ?_ ?_ ?_ ?_ Q (fun ρ' st' D2 M3 M3' q1 q2 q3 q4 q5 q6 q7 q8 q9 q10 q11 q12=>hQ ρ' st' D2 M3 M3' (hF1.trans q1) q2 q3 q4 q5 q6 q7 q8 q9 q10 q11 q12)<;>rfl
  ·have hgt:(n:Int)<((D'.length+2*k:Nat):Int):=by omega
   rw[←aa h0,←aa h1,←aa h2,←aa h6,←aa h7,←aa h8]
   refine Hh ?_
   repeat' (first
 |(refine al ?_;first
 |refine eH rfl rfl rfl rfl hgt ?_
 |refine mI ?_
 |refine Hd ?_)
 |refine He ?_
 |refine Ir ?_
 |refine ah rfl ?_
 |refine Hi ?_)
   refine hQ _ _ D' M M' (FrR.refl _ _) hR (by omega) hB hZ hn hsh ?_ ?_ ?_ ?_ ?_<;>rfl
end Go.Bes
/-
  slices' stable sort of any length.
-/
namespace Go.Bes
open Go.Ev
set_option maxHeartbeats 8000000 in
theorem FT (p n c:Nat) (hnl:n≤1000000) (L:List Rt) (hLn:n=L.length):∀(N k:Nat) (L1:List Rt),n - k≤N→0<k→Blk k L L1→bA L1→∀(ρ:Nat→D) (st:Store),RowIs st p 2 (L1.map Rt.e)→
  ρ 0=.rs p 0 2 n c→ρ 1=.int .i64 n→ρ 2=.func 13 []→ρ 6=.int .i64 k→∀(Q:X→(Nat→D)→Store→Prop),
  (∀ρ' st',FrR st st' p→RowIs st' p 2 ((bh L).map Rt.e)→Q (.exit 2) ρ' st')→WC Γ (.loop cX) ρ st Q:=by
 intro N
 induction N with
 |zero=>
  intro k L1 hN hk hB hsh ρ st hR h0 h1 h2 h6 Q hQ
  have hge:(n:Int)≤(k:Int):=by omega
  rw[hB.one hk (by omega)]at hR
  rw[←aa h0,←aa h1,←aa h2,←aa h6]
  refine Hh ?_
  repeat' (first
 |(refine al ?_;first
 |refine lF (p:=hge) ?_
 |refine mI ?_
 |refine Hd ?_)
 |refine He ?_
 |refine Ir ?_
 |refine ah rfl ?_
 |refine Hi ?_)
  exact hQ _ _ (FrR.refl _ _) hR
 |succ N ih=>
  intro k L1 hN hk hB hsh ρ st hR h0 h1 h2 h6 Q hQ
  by_cases hkn:k<n
  ·have hlt:(k:Int)<(n:Int):=by omega
   have hL1:L1.length=n:=by rw[hB.len,hLn]
   have hlo:=Gx p n c k hnl hk hkn L L.length L L1 [] (Nat.le_refl _) hB (fun Z' hz=>hz) (by rw[List.nil_append,hL1]) (by rw[List.nil_append];exact hsh)
   have hs2:IntKind.i64.wrap (2*(k:Int))=((([]:List Rt).length+2*k:Nat):Int):=by rw[ea (by omega)];simp
   have hs4:IntKind.i64.wrap ((k:Int)*2)=((2*k:Nat):Int):=by rw[ea (by omega)];omega
   rw[←aa h0,←aa h1,←aa h2,←aa h6]
   refine Hh ?_
   repeat' (first
 |(refine al ?_;first
 |refine lT (p:=hlt) ?_
 |refine tp (s:=((([]:List Rt).length+2*k:Nat):Int)) rfl rfl rfl rfl hs2 ?_
 |refine mI ?_
 |refine Hd ?_)
 |(refine hlo _ _ hR ?_ ?_ ?_ ?_ ?_ ?_ _ ?_<;>first|rfl|(intro ρ2 st2 D2 M2 M2' q1 q2 q3 q4 q5 q6 q7 k0 k1 k2 k6 k7))
 |refine He ?_
 |refine Ir ?_
 |refine Hg ?_
 |refine aj rfl ?_
 |refine Hf ?_)
   have hln:n=D2.length+M2.length:=by rw[q6,List.length_append,q4.len]
   have hs1:IntKind.i64.wrap ((D2.length:Int)+(k:Int))=((D2.length+k:Nat):Int):=by rw[ea (by omega)];omega
   have hB2:Blk (2*k) L (D2++bh M2):=q5 _ (.of (by omega))
   have hnx:=ih (2*k) (D2++bh M2) (by omega) (by omega) hB2
   rw[←aa k0,←aa k1,←aa k2,←aa k6,←aa k7]
   by_cases hm:D2.length+k<n
   ·have hlt2:((D2.length+k:Nat):Int)<(n:Int):=by omega
    obtain⟨Xs,Ys,hXl,hYl,rfl,rfl⟩:=q4.rest hk (by omega) q3
    have hX1:=cL Xs
    have hY1:=cL Ys
    rw[List.length_append]at hln
    have e1:D2++(bh Xs++bh Ys)=D2++bh Xs++bh Ys++[]:=by simp
    rw[e1]at q2 q6 q7
    have hin:=qu p n c hnl _ D2 (bh Xs) (bh Ys) [] st2 (Nat.le_refl _) (by omega) (by omega) (jY _) (jY _) q6 q7 q2 D2.length (D2.length+k) n rfl (by omega) (by omega)
    rw[←sD,List.append_nil]at hin
    have hsh':bA (D2++bh (Xs++Ys)):=dD q7 (fun r hr=>by
     simp only[List.mem_append,iT]at hr ⊢
     rcases hr with h|h|h<;>simp[h])
    repeat' (first
 |(refine al ?_;first
 |refine aD (s:=((D2.length+k:Nat):Int)) (hs:=hs1) ?_
 |refine lT (p:=hlt2) ?_
 |refine tp (s:=((2*k:Nat):Int)) rfl rfl rfl rfl hs4 ?_
 |refine mI ?_
 |refine aB (v:=.func _ _) rfl rfl rfl ?_
 |refine mR ?_
 |(refine a7 rfl rfl rfl hin ?_<;>intro r1 st3 hp1)
 |refine Hd ?_)
 |refine He ?_
 |refine Ir ?_
 |refine aj rfl ?_)
    obtain⟨rfl,hF3,hR3⟩:=hp1
    skip
    refine hnx hsh' _ _ hR3 ?_ ?_ ?_ ?_ Q (fun ρ' st' hF hR'=>hQ ρ' st' ((q1.trans hF3).trans hF) hR')<;>rfl
   ·have hge2:(n:Int)≤((D2.length+k:Nat):Int):=by omega
    have hM2:=q4.one hk (by omega)
    subst hM2
    repeat' (first
 |(refine al ?_;first
 |refine aD (s:=((D2.length+k:Nat):Int)) (hs:=hs1) ?_
 |refine lF (p:=hge2) ?_
 |refine tp (s:=((2*k:Nat):Int)) rfl rfl rfl rfl hs4 ?_
 |refine mI ?_
 |refine Hd ?_)
 |refine He ?_
 |refine Ir ?_
 |refine Hg ?_
 |refine ah rfl ?_)
    refine hnx q7 _ _ q2 ?_ ?_ ?_ ?_ Q (fun ρ' st' hF hR'=>hQ ρ' st' (q1.trans hF) hR')<;>rfl
  ·have hge:(n:Int)≤(k:Int):=by omega
   rw[hB.one hk (by omega)]at hR
   rw[←aa h0,←aa h1,←aa h2,←aa h6]
   refine Hh ?_
   repeat' (first
 |(refine al ?_;first
 |refine lF (p:=hge) ?_
 |refine mI ?_
 |refine Hd ?_)
 |refine He ?_
 |refine Ir ?_
 |refine ah rfl ?_
 |refine Hi ?_)
   exact hQ _ _ (FrR.refl _ _) hR
set_option maxHeartbeats 4000000 in
theorem BT:xH 1000000:=by
 intro L p c n st hL hsh hR hn hne
 refine aR rfl rfl ?_
 have hlo:=F2 p n c (by omega) L L.length L [] (Nat.le_refl _) (fun Z' hz=>hz) (by rw[List.nil_append,hn]) (by rw[List.nil_append];exact hsh)
 repeat' (first
 |(refine al ?_;first
 |refine mI ?_
 |refine Hd ?_)
 |(refine hlo _ _ hR ?_ ?_ ?_ ?_ ?_ ?_ _ ?_<;>first|rfl|(intro ρ2 st2 D2 M2 q1 q2 q3 q4 q5 q6 k0 k1 k2 k6 k7))
 |refine He ?_
 |refine Ir ?_
 |refine Hf ?_)
 have e1:D2++M2=D2++M2++[]:=(List.append_nil _).symm
 have hin:=sO p n c D2 M2 [] st2 (by omega) (by rw[q5,←e1]) (by rw[←e1];exact q6) (by rw[←e1];exact q2) D2.length n rfl (by rw[q5])
 rw[List.append_nil]at hin
 have hB:=q4 _ (.of (Nat.le_of_lt q3))
 have hlo2:=FT p n c (by omega) L hn n 20 (D2++bh M2) (by omega) (by decide) hB (dD q6 (fun r hr=>by
  simp only[List.mem_append,iT]at hr ⊢;exact hr))
 rw[←aa k0,←aa k1,←aa k2,←aa k6,←aa k7]
 repeat' (first
 |(refine al ?_;first
 |refine mI ?_
 |refine aB (v:=.func _ _) rfl rfl rfl ?_
 |refine mR ?_
 |(refine a7 rfl rfl rfl hin ?_<;>intro r1 st3 hp1)
 |refine Hd ?_)
 |(refine hlo2 _ _ hp1.2.2 ?_ ?_ ?_ ?_ _ ?_<;>first|rfl|(intro ρ4 st4 hF4 hR4))
 |refine Hf ?_)
 exact⟨.inl rfl,_,rfl,rfl,(q1.trans hp1.2.1).trans hF4,hR4⟩
end Go.Bes
/-
  Sort of nothing; Sort of any routes.
-/
namespace Go.Bes
open Go.Ev
theorem Fk (t:Tok) (s:Nat) (st:Store):EvRWX Γ 95 [.slice t s [],.int .i64 0,.int .i64 0,.func 13 []] st (fun r st'=>r=.tuple []∧st'=st):=by
 refine aR rfl rfl ?_
 repeat' (first
 |(refine al ?_;first
 |refine mI ?_
 |refine lF ?_
 |refine aD ?_
 |refine Hd ?_)
 |refine Hh ?_
 |refine He ?_
 |refine Ir ?_
 |refine ah rfl ?_
 |refine Hf ?_
 |refine Hi ?_)
 exact⟨.inl rfl,_,rfl,rfl,rfl⟩
theorem Fb (t:Tok) (s:Nat) (st:Store):EvRWX Γ 89 [.slice t s [],.int .i64 0,.func 13 []] st (fun r st'=>r=.tuple []∧st'=st):=by
 refine aR rfl rfl ?_
 have h:=fun t=>Fk t s st
 repeat' (first
 |(refine al ?_;first
 |refine mI ?_
 |refine mS ?_
 |refine aB (v:=.func _ _) rfl rfl rfl ?_
 |refine lF ?_
 |refine eH rfl rfl rfl rfl (by omega) ?_
 |(refine jm rfl rfl (h _) ?_<;>intro r1 st1 hp1)
 |refine Hd ?_)
 |refine Hh ?_
 |refine He ?_
 |refine Ir ?_
 |refine ah rfl ?_
 |refine Hf ?_
 |refine Hi ?_)
 obtain⟨rfl,rfl⟩:=hp1
 skip
 exact⟨.inl rfl,_,rfl,rfl,rfl⟩
theorem D7 (t:Tok) (s:Nat) (st:Store):EvRWX Γ 71 [.slice t s [],.func 13 []] st (fun r st'=>r=.tuple []∧st'=st):=by
 refine aR rfl rfl ?_
 have h:=fun t=>Fb t s st
 have hz:([]:List D).length=0:=rfl
 repeat' (first
 |(refine al ?_;first
 |refine mS ?_
 |refine aB (v:=.func _ _) rfl rfl rfl ?_
 |(refine jm rfl rfl (h _) ?_<;>intro r1 st1 hp1)
 |refine cn rfl rfl rfl ?_
 |refine Hd ?_)
 |refine Ir ?_)
 obtain⟨rfl,rfl⟩:=hp1
 skip
 exact⟨.inl rfl,_,rfl,rfl,rfl⟩
theorem Cg (t:Tok) (ht:t.strip.strip=.no) (s:Nat) (st:Store):EvRWX Γ 72 [.slice t s [],.func 73 []] st (fun r st'=>r=.slice .no s []∧st'=st):=by
 refine aR rfl rfl ?_
 have hz:([]:List D).length=0:=rfl
 repeat' (first
 |(refine al ?_;first
 |refine mS ?_
 |refine lT ?_
 |refine cn rfl rfl rfl ?_
 |refine Hd ?_)
 |refine He ?_
 |refine Ir ?_
 |refine aj rfl ?_
 |refine an ?_)
 exact⟨.inr rfl,_,rfl,congrArg (D.slice · s []) ht,rfl⟩
theorem Dr (t:Tok) (s:Nat):EvX Γ 54 [.slice t s []] (IsR Rt.e 2 []):=by
 refine bR rfl rfl ?_
 have hcl:=fun t=>sc t s
 have h2:=D7 .exact 2 Store.empty
 have h2':=D7 .no 2 Store.empty
 have h3:=Cg .exact rfl 2 Store.empty
 have h3':=Cg .no rfl 2 Store.empty
 repeat' (first
 |(refine al ?_;first
 |refine mS ?_
 |refine vI rfl rfl rfl (hcl _) rfl ?_
 |(refine jm rfl rfl h2 ?_<;>intro r2 st2 hp2)
 |refine Hd ?_)
 |refine He ?_
 |refine Ir ?_)
 obtain⟨rfl,rfl⟩:=hp2
 repeat' (first
 |(refine al ?_;first
 |(refine jm rfl rfl h3 ?_<;>intro r2 st2 hp2)))
 obtain⟨rfl,rfl⟩:=hp2
 repeat' (first
 |(refine al ?_;first
 |refine mS ?_
 |refine Hd ?_)
 |refine an ?_)
 exact⟨.inr rfl,_,rfl,.inl ⟨rfl,_,_,rfl,.inr (.inl rfl)⟩⟩
theorem Dk (L:List Rt) (hL:L.length≤1000000) (hsh:bA L) (t:Tok) (s:Nat) (hs:s=2∨L=[]):EvX Γ 54 [.slice t s (L.map Rt.e)] (IsR Rt.e 2 (cQ L)):=by
 by_cases hne:L=[]
 ·subst hne
  exact Dr t s
 ·exact E2 BT L hL (Nat.le_refl _) hsh hne t s hs
end Go.Bes
/-
  The law OrderSorts, run.
-/
namespace Go.Bes
open Go.Ev
theorem zJ {L:List Rt} {y:Rt} (h:y∈cQ L):y∈L:=by
 have:=pd L h
 exact List.mem_of_find?_eq_some this
theorem Cj:∀(l:List Rt) (z:Rt),(dd z l).length≤l.length
 |[],_=>Nat.le_refl _
 |x::l,z=>by
  rw[dd]
  split
  ·exact Nat.le_trans (Cj l _) (Nat.le_succ _)
  ·exact Nat.succ_le_succ (Cj l _)
theorem wa (L:List Rt):(cQ L).length≤L.length:=by
 unfold cQ
 rw[←cL L]
 cases bh L with
 |nil=>exact Nat.le_refl _
 |cons x l=>exact Nat.succ_le_succ (Cj l x)
end Go.Bes
/-
  What is inserted one by one, as many as are kept, is what is sorted, and its first ones. Plain.
-/
namespace Go.Bes
open Go.Ev
theorem AA (r:Rt) (L:List Rt):(cQ L).find? (fx r)=L.find? (fx r):=by
 unfold cQ
 rw[Bk,vp]
theorem Ad {L:List Rt} {y:Rt}:y∈cQ L↔L.find? (fx y)=some y:=
 ⟨fun h=>pd L h,fun h=>List.mem_of_find?_eq_some ((AA y L).trans h)⟩
theorem nN {x:Rt}:¬eW x x=true:=by
 rw[jE,dO]
 decide
theorem AC {x y:Rt} (h:eW x y=true):¬eW y x=true:=by
 rw[jE]at h ⊢
 have:=iU x.hs x.ar y.hs y.ar
 omega
theorem yi:∀{a b:List Rt},rj a→rj b→(∀y,y∈a↔y∈b)→a=b
 |[],[],_,_,_=>rfl
 |[],y::b,_,_,h=>absurd ((h y).2 List.mem_cons_self) List.not_mem_nil
 |x::a,[],_,_,h=>absurd ((h x).1 List.mem_cons_self) List.not_mem_nil
 |x::a,y::b,ha,hb,h=>by
  have h1:=List.pairwise_cons.1 ha
  have h2:=List.pairwise_cons.1 hb
  have hxy:x=y:=by
   rcases List.mem_cons.1 ((h x).1 List.mem_cons_self)with e|e
   ·exact e
   ·rcases List.mem_cons.1 ((h y).2 List.mem_cons_self)with e'|e'
    ·exact e'.symm
    ·exact absurd (h1.1 y e') (AC (h2.1 x e))
  subst hxy
  rw[yi h1.2 h2.2 (fun z=>⟨fun hz=>by
   rcases List.mem_cons.1 ((h z).1 (List.mem_cons_of_mem _ hz))with e|e
   ·subst e;exact absurd (h1.1 z hz) nN
   ·exact e,fun hz=>by
   rcases List.mem_cons.1 ((h z).2 (List.mem_cons_of_mem _ hz))with e|e
   ·subst e;exact absurd (h2.1 z hz) nN
   ·exact e⟩)]
def oB:List Rt→Rt→List Rt
 |[],r=>[r]
 |x::S,r=>if fx x r then x::S else if eW r x then r::x::S else x::oB S r
theorem wq {r y:Rt}:∀{S:List Rt},y∈oB S r→y∈S∨y=r
 |[],h=>.inr (List.mem_singleton.1 h)
 |x::S,h=>by
  rw[oB]at h
  split at h
  ·exact .inl h
  ·split at h
   ·rcases List.mem_cons.1 h with e|e
    ·exact .inr e
    ·exact .inl e
   ·rcases List.mem_cons.1 h with e|e
    ·exact .inl (by rw[e];exact List.mem_cons_self)
    ·rcases wq e with e|e
     ·exact .inl (List.mem_cons_of_mem _ e)
     ·exact .inr e
theorem oh {r y:Rt}:∀{S:List Rt},y∈S→y∈oB S r
 |[],h=>absurd h List.not_mem_nil
 |x::S,h=>by
  rw[oB]
  split
  ·exact h
  ·split
   ·exact List.mem_cons_of_mem _ h
   ·rcases List.mem_cons.1 h with e|e
    ·rw[e];exact List.mem_cons_self
    ·exact List.mem_cons_of_mem _ (oh e)
theorem qL {r:Rt}:∀{S:List Rt},(∀x∈S,¬fx x r=true)→r∈oB S r
 |[],_=>List.mem_cons_self
 |x::S,h=>by
  rw[oB,if_neg (h x List.mem_cons_self)]
  split
  ·exact List.mem_cons_self
  ·exact List.mem_cons_of_mem _ (qL (fun z hz=>h z (List.mem_cons_of_mem _ hz)))
theorem rT {x y z:Rt} (h:eW x y=true) (h2:eW y z=true):eW x z=true:=vd (gm h) h2
theorem qe {r:Rt}:∀{S:List Rt},rj S→rj (oB S r)
 |[],_=>List.pairwise_singleton _ _
 |x::S,h=>by
  have h1:=List.pairwise_cons.1 h
  rw[oB]
  split
  ·exact h
  ·rename_i hne
   split
   ·rename_i hlt
    refine List.pairwise_cons.2 ⟨fun y hy=>?_,h⟩
    rcases List.mem_cons.1 hy with e|e
    ·rw[e];exact hlt
    ·exact rT hlt (h1.1 y e)
   ·rename_i hnl
    refine List.pairwise_cons.2 ⟨fun y hy=>?_,qe h1.2⟩
    rcases wq hy with e|e
    ·exact h1.1 y e
    ·subst e
     have h3:=iU x.hs x.ar y.hs y.ar
     rw[df]at hne
     rw[jE]at hnl ⊢
     omega
theorem wy {r y:Rt}:∀{S:List Rt},rj S→y∈oB S r→y∈S∨(y=r∧∀x∈S,¬fx x r=true)
 |[],_,h=>.inr ⟨List.mem_singleton.1 h,fun x hx=>absurd hx List.not_mem_nil⟩
 |x::S,hS,h=>by
  have h1:=List.pairwise_cons.1 hS
  rw[oB]at h
  split at h
  ·exact .inl h
  ·rename_i hne
   split at h
   ·rename_i hlt
    rcases List.mem_cons.1 h with e|e
    ·refine .inr ⟨e,fun z hz hez=>?_⟩
     rcases List.mem_cons.1 hz with e2|e2
     ·subst e2;exact hne hez
     ·have h3:=jE.1 (rT hlt (h1.1 z e2))
      have h4:=df.1 (jx hez)
      omega
    ·exact .inl e
   ·rcases List.mem_cons.1 h with e|e
    ·exact .inl (by rw[e];exact List.mem_cons_self)
    ·rcases wy h1.2 e with e|⟨e,e2⟩
     ·exact .inl (List.mem_cons_of_mem _ e)
     ·refine .inr ⟨e,fun z hz=>?_⟩
      rcases List.mem_cons.1 hz with e3|e3
      ·subst e3;exact hne
      ·exact e2 z e3
theorem vx {r y:Rt} {S:List Rt} (hS:rj S):y∈oB S r↔y∈S∨(y=r∧∀x∈S,¬fx x r=true):=
 ⟨wy hS,fun h=>by
  rcases h with h|⟨rfl,h⟩
  ·exact oh h
  ·exact qL h⟩
theorem B5 (x:Rt):fx x x=true:=by rw[df];exact dO _ _
theorem Ak {S:List Rt} (hS:rj S) (r:Rt):cQ (S++[r])=oB S r:=
 yi (s8 _) (qe hS) (fun y=>by
  rw[Ad,vx hS,List.find?_append,uF]
  constructor
  ·intro h
   cases h1:S.find? (fx y)with
   |some z=>
    rw[h1]at h
    simp only[Option.some_or,Option.some.injEq]at h
    subst h
    exact .inl (List.mem_of_find?_eq_some h1)
   |none=>
    rw[h1]at h
    simp only[Option.none_or]at h
    split at h
    ·cases h
     exact .inr ⟨rfl,fun x hx he=>absurd (jx he) (by simpa using List.find?_eq_none.1 h1 x hx)⟩
    ·cases h
  ·intro h
   rcases h with h|⟨rfl,h⟩
   ·rw[xj hS h]
    rfl
   ·have h1:S.find? (fx y)=none:=List.find?_eq_none.2 (fun x hx he=>h x hx (jx he))
    rw[h1,if_pos (B5 y)]
    rfl)
theorem B4 {S:List Rt} (h:rj S) (m:Nat):rj (S.take m):=h.sublist (List.take_sublist m S)
end Go.Bes
/-
  Rows of routes are the same.
-/
namespace Go.Bes
open Go.Ev
instance:DecidableEq Rt:=fun a b=>decidable_of_iff (a.ar=b.ar∧a.hs=b.hs) (by
 cases a
 cases b
 simp
 exact and_comm)
theorem Rt.ext' {a b:Rt}:(a.ar=b.ar∧a.hs=b.hs)↔a=b:=by
 cases a
 cases b
 simp
 exact and_comm
set_option maxHeartbeats 4000000 in
theorem Gf (a b:List Rt) (hl:a.length≤1000000) (hsh:bA a) (hab:a.length=b.length) (t t' t2:Tok) (sa sb:Nat) (ha:sa=2∨a=[]) (hb:sb=2∨b=[]):∀(m i:Nat),a.length - i=m→i≤a.length→a.take i=b.take i→
  ∀(ρ:Nat→D) (st:Store) (hlim:st.lim≤st.next) (h1:ρ 1=.slice t' sb (b.map Rt.e)) (h2:ρ 2=.func 12 []) (h15:ρ 15=.slice t2 sa (a.map Rt.e)) (h16:ρ 16=.int .i64 a.length) (h17:ρ 17=.int .i64 i) (Q:X→(Nat→D)→Store→Prop),
  (a=b→∀ρ' st',Q (.exit 0) ρ' st')→(a≠b→∀ρ' st',ρ' 6=.bool false→Q .ret ρ' st')→WC Γ (.loop dZ) ρ st Q:=by
 intro m
 induction m with
 |zero=>
  intro i hm hi he ρ st hlim h1 h2 h15 h16 h17 Q hQ hQ2
  rw[←aa h1,←aa h2,←aa h15,←aa h16,←aa h17]
  refine Hh ?_
  repeat' (first
 |(refine al ?_;first
 |refine lF ?_
 |refine Hd ?_)
 |refine He ?_
 |refine Ir ?_
 |refine ah rfl ?_
 |refine Hi ?_)
  refine hQ ?_ _ _
  rw[List.take_of_length_le (by omega),List.take_of_length_le (by omega)]at he
  exact he
 |succ m ih=>
  intro i hm hi he ρ st hlim h1 h2 h15 h16 h17 Q hQ hQ2
  have hlim2:st.lim≤st.next+1:=Nat.le_succ_of_le hlim
  have hn1:st.next≠st.next+1:=by omega
  have hlim3:st.lim≤st.next+1+1:=Nat.le_succ_of_le hlim2
  obtain⟨x,hx⟩:∃v,a[i]?=some v:=⟨_,List.getElem?_eq_getElem (by omega)⟩
  obtain⟨y,hy⟩:∃v,b[i]?=some v:=⟨_,List.getElem?_eq_getElem (by omega)⟩
  have hz:sa=2:=ha.resolve_right (by rintro rfl;simp at hx)
  have hz2:sb=2:=hb.resolve_right (by rintro rfl;simp at hy)
  subst hz hz2
  have hpa:i<(a.map Rt.e).length:=by simp;omega
  have hpb:i<(b.map Rt.e).length:=by simp;omega
  have hltl:(i:Int)<a.length:=by omega
  have hS:=fun t t'=>uI x.hs y.hs x.ar y.ar (Nat.le_trans (hsh x (List.mem_of_getElem? hx)) (by decide)) t t' 3 3 (.inl rfl) (.inl rfl)
  have hadd:IntKind.i64.wrap ((i:Int)+1)=((i+1:Nat):Int):=by rw[ea (by omega)];omega
  rw[←aa h1,←aa h2,←aa h15,←aa h16,←aa h17]
  refine Hh ?_
  by_cases hxy:x.ar=y.ar∧x.hs=y.hs
  ·rw[decide_eq_true hxy]at hS
   have hnx:=ih (i+1) (by omega) (by omega) (by rw[List.take_add_one,List.take_add_one,he,hx,hy,Rt.ext'.1 hxy])
   clear ih
   repeat' (first
 |(refine al ?_;first
 |refine lT (p:=hltl) ?_
 |refine aD (s:=((i+1:Nat):Int)) (hs:=hadd) ?_
 |refine iA i hpa ?_
 |refine iA i hpb ?_
 |refine mI ?_
 |refine mS ?_
 |refine aB (v:=.func _ _) rfl rfl rfl ?_
 |refine lE (d:=.agg [_,_]) hx ?_
 |refine lE (d:=.agg [_,_]) hy ?_
 |refine ai (agg:=true) (d:=.agg [_,_]) rfl rfl rfl (eG hn1 (eG hn1 (aY rfl))) hlim rfl ?_
 |refine ai (agg:=true) (d:=.agg [_,_]) rfl rfl rfl (aY rfl) hlim2 rfl ?_
 |refine cA rfl (hS _ _) ?_
 |refine am (cs':=[_,_]) rfl rfl (ae _ _ _) rfl (by first|exact Nat.zero_le _|assumption|exact Nat.le_trans hlim (Nat.zero_le _)|omega) rfl rfl rfl ?_
 |refine nT ?_
 |refine av rfl rfl ?_
 |refine Hd ?_)
 |refine He ?_
 |refine Ir ?_
 |refine Hg ?_
 |refine aj rfl ?_
 |refine ah rfl ?_
 |refine Hf ?_)
   refine hnx _ _ ?_ ?_ ?_ ?_ ?_ ?_ Q hQ hQ2<;>first|exact hlim3|rfl
  ·rw[decide_eq_false hxy]at hS
   clear ih
   have hne:a≠b:=fun hab=>hxy (by
    subst hab
    rw[hx]at hy
    cases hy
    exact⟨rfl,rfl⟩)
   repeat' (first
 |(refine al ?_;first
 |refine lT (p:=hltl) ?_
 |refine iA i hpa ?_
 |refine iA i hpb ?_
 |refine mI ?_
 |refine mB ?_
 |refine mS ?_
 |refine aB (v:=.func _ _) rfl rfl rfl ?_
 |refine lE (d:=.agg [_,_]) hx ?_
 |refine lE (d:=.agg [_,_]) hy ?_
 |refine ai (agg:=true) (d:=.agg [_,_]) rfl rfl rfl (eG hn1 (eG hn1 (aY rfl))) hlim rfl ?_
 |refine ai (agg:=true) (d:=.agg [_,_]) rfl rfl rfl (aY rfl) hlim2 rfl ?_
 |refine cA rfl (hS _ _) ?_
 |refine am (cs':=[_,_]) rfl rfl (ae _ _ _) rfl (by first|exact Nat.zero_le _|assumption|exact Nat.le_trans hlim (Nat.zero_le _)|omega) rfl rfl rfl ?_
 |refine nT ?_
 |refine av rfl rfl ?_
 |refine Hd ?_)
 |refine He ?_
 |refine Ir ?_
 |refine Hg ?_
 |refine aj rfl ?_
 |refine Hf ?_
 |refine an ?_)
   exact hQ2 hne _ _ rfl
theorem FQ (a b:List Rt) (hl:a.length≤1000000) (hsh:bA a) (t t':Tok) (sa sb:Nat) (ha:sa=2∨a=[]) (hb:sb=2∨b=[]):EvP Γ 18 [.slice t sa (a.map Rt.e),.slice t' sb (b.map Rt.e),.func 12 []] (.bool (decide (a=b))):=by
 refine aJ rfl rfl ?_
 by_cases hab:a.length=b.length
 ·have hab':(a.length:Int)=b.length:=by omega
  have hlo:=fun t t' t2=>Gf a b hl hsh hab t t' t2 sa sb ha hb a.length 0 (by omega) (by omega) rfl
  repeat' (first
 |(refine al ?_;first
 |refine lN ?_
 |refine mI ?_
 |refine mB ?_
 |refine mS ?_
 |refine ca rfl rfl rfl rfl (by omega) ?_
 |refine Hd ?_)
 |(refine hlo t t' t _ _ ?_ ?_ ?_ ?_ ?_ ?_ _ ?_ ?_<;>first|rfl|exact Nat.le_refl _|skip)
 |refine He ?_
 |refine Ir ?_
 |refine Hg ?_
 |refine ah rfl ?_
 |refine Hf ?_)
  rotate_left
  ·intro h9 ρ2 st2 h6
   rw[decide_eq_false h9,←aa h6]
   exact aK (.inr rfl) rfl rfl
  ·intro h9 ρ2 st2
   rw[decide_eq_true h9]
   repeat' (first
 |(refine al ?_;first
 |refine mB ?_
 |refine Hd ?_)
 |refine He ?_
 |refine Ir ?_
 |refine an ?_)
   exact aK (.inr rfl) rfl rfl
 ·have hab':(a.length:Int)≠b.length:=by omega
  rw[decide_eq_false (fun h=>hab (by rw[h]))]
  repeat' (first
 |(refine al ?_;first
 |refine lN ?_
 |refine mB ?_
 |refine mS ?_
 |refine cu rfl rfl rfl rfl (by omega) ?_
 |refine Hd ?_)
 |refine He ?_
 |refine Ir ?_
 |refine aj rfl ?_
 |refine an ?_)
  exact aK (.inr rfl) rfl rfl
theorem Fw (a b:List Rt) (hl:a.length≤1000000) (hsh:bA a) (t t':Tok) (sa sb:Nat) (ha:sa=2∨a=[]) (hb:sb=2∨b=[]):EvP Γ 9 [.slice t sa (a.map Rt.e),.slice t' sb (b.map Rt.e)] (.bool (decide (a=b))):=by
 have h:=fun t t'=>FQ a b hl hsh t t' sa sb ha hb
 refine aJ rfl rfl ?_
 repeat' (first
 |(refine al ?_;first
 |refine mB ?_
 |refine mS ?_
 |refine cA rfl (h _ _) ?_
 |refine Hd ?_)
 |refine He ?_
 |refine Ir ?_
 |refine an ?_)
 exact aK (.inr rfl) rfl rfl
end Go.Bes
