/-
  What goes into the queue from a node.
-/
import Derived.Test.YtjcilbnbciclpaaLeaEarP
import Derived.Test.YtjcilbnbciclpaaLeaEarP
set_option linter.unusedVariables false
set_option linter.unusedSimpArgs false
set_option linter.unnecessarySimpa false
namespace Go.Lea
open Go.Ev
def gX (sz:Int) (e:Eg) (t:Int):Option Int:=if di e t sz then some (aJ e t sz)else none
def KVA (kv:List (Int×D)) (out:List Rd):Prop:=∀n,∃u,(aL n kv).getD (.int .i64 0)=.int .i64 u∧(aL n kv).isSome=i6 out n
def KVC (kv:List (Int×D)) (cl:Int→Bool):Prop:=∀n,(aL n kv).getD (.bool false)=.bool (cl n)
set_option maxHeartbeats 8000000 in
theorem Bx (sz:Int) (cl:Int→Bool) (out:List Rd) (kvc kva:List (Int×D)) (hkc:KVC kvc cl) (hka:KVA kva out) (t:Int) (es:List Eg) (hel:es.length≤1000000) (te:Tok) (se:Nat) (hse:se=8∨es=[]) (h b:Nat) (st0:Store) (Kp:Nat→Prop) (hK0:Kp 0) (hK1:Kp 1) (hKb:Kp b) (hKn:∀q,Kp q→q<st0.next∧q≠h)
  (hb0:st0.boxes 0=some (.map kvc)) (hb1:st0.boxes 1=some (.map kva)) (n0:Int) (hbb:(st0.boxes b).bind Box.cs=some [.int .i64 n0,.int .i64 t]) (v0 v4 v10:D):∀(post pre:List Eg),es=pre++post→
  ∀(ρ:Nat→D) (st:Store) (s:List Rd) (o:Option Nat),s.length≤1000000+pre.length→st.lim≤0→st0.next≤st.next→AH st h o s→(∀q,Kp q→some q≠o)→(∀q,Kp q→st.boxes q=st0.boxes q)→
  ρ 0=v0→ρ 3=.int .i64 sz→ρ 4=v4→ρ 10=v10→ρ 11=.map 0→ρ 14=.map 1→ρ 15=.ptr h 0→ρ 16=.ptr b 0→ρ 77=.slice te se (es.map Eg.e)→ρ 78=.int .i64 es.length→ρ 79=.int .i64 pre.length→∀(Q:X→(Nat→D)→Store→Prop),
  (∀ρ' st' o',st'.lim≤0→st0.next≤st'.next→AH st' h o' (cF (gX sz) cl out t post s)→(∀q,Kp q→some q≠o')→(∀q,Kp q→st'.boxes q=st0.boxes q)→(o'=o∨∃r,o'=some r∧st.next≤r)→ρ' 0=v0→ρ' 3=.int .i64 sz→ρ' 4=v4→ρ' 10=v10→ρ' 11=.map 0→ρ' 14=.map 1→ρ' 15=.ptr h 0→Q (.exit 4) ρ' st')→WC Γ (.loop ee) ρ st Q:=by
 intro post
 induction post with
 |nil=>
  intro pre hpp ρ st s o hsl hlim hnx H hKo hKs h0 h3 h4 h10 h11 h14 h15 h16 h77 h78 h79 Q hQ
  rw[List.append_nil]at hpp
  subst hpp
  rw[←aa h0,←aa h3,←aa h4,←aa h10,←aa h11,←aa h14,←aa h15,←aa h77,←aa h78,←aa h79]
  refine WC_loop ?_
  repeat' (first
 |(refine ai ?_;first
 |refine lF ?_
 |refine WS_nil ?_)
 |refine WC_seq ?_
 |refine WC_opsS ?_
 |refine af rfl ?_
 |refine WC_exit ?_)
  exact hQ _ _ o hlim hnx H hKo hKs (.inl rfl) rfl rfl rfl rfl rfl rfl rfl
 |cons e post ih=>
  intro pre hpp ρ st s o hsl hlim hnx H hKo hKs h0 h3 h4 h10 h11 h14 h15 h16 h77 h78 h79 Q hQ
  have hv:=jb hpp
  have hlen:es.length=pre.length+(post.length+1):=by rw[hpp];simp
  have hz:se=8:=hse.resolve_right (by rintro rfl;simp at hlen)
  subst hz
  have hpl:pre.length<(es.map Eg.e).length:=by simp;omega
  have hltl:(pre.length:Int)<es.length:=by omega
  have hlim2:st.lim≤st.next:=by omega
  have hlb:st.lim≤b:=by omega
  have hKn2:∀q,Kp q→q<st.next:=fun q hq=>Nat.lt_of_lt_of_le (hKn q hq).1 hnx
  have q0:(0:Nat)≠st.next:=Nat.ne_of_lt (hKn2 0 hK0)
  have q1:(1:Nat)≠st.next:=Nat.ne_of_lt (hKn2 1 hK1)
  have qb:b≠st.next:=Nat.ne_of_lt (hKn2 b hKb)
  have hc0:=(hKs 0 hK0).trans hb0
  have hc1:=(hKs 1 hK1).trans hb1
  have hcb:(st.boxes b).bind Box.cs=some [.int .i64 n0,.int .i64 t]:=by rw[hKs b hKb];exact hbb
  obtain⟨u,hu1,hu2⟩:=hka e.to
  have hu3:=hkc e.to
  have hP:=sN e t sz
  unfold rq at hP
  have hA:∀{x y:Option Box},AH {st with boxes:=ap (ap st.boxes st.next x) st.next y,next:=st.next+1} h o s:=fun{x y}=>H.of rfl (Nat.le_succ _) (fun q hq _=>(ab _ _ (Nat.ne_of_lt hq)).trans (ab _ _ (Nat.ne_of_lt hq)))
  have hps:=fun{u v:Option Box}=>uR (hA (x:=u) (y:=v)) (by omega) ⟨e.to,aJ e t sz⟩
  have hnext:∀(ρ':Nat→D) (st':Store) (o':Option Nat),st'.lim≤0→st0.next≤st'.next→st.next≤st'.next→AH st' h o' (eH (gX sz) cl out t s e)→(∀q,Kp q→some q≠o')→(∀q,Kp q→st'.boxes q=st0.boxes q)→(o'=o∨∃r,o'=some r∧st.next≤r)→ρ' 0=v0→ρ' 3=.int .i64 sz→ρ' 4=v4→ρ' 10=v10→ρ' 11=.map 0→ρ' 14=.map 1→ρ' 15=.ptr h 0→ρ' 16=.ptr b 0→ρ' 77=.slice te 8 (es.map Eg.e)→ρ' 78=.int .i64 es.length→ρ' 79=.int .i64 ((pre.length:Int)+1)→WC Γ (.loop ee) ρ' st' Q:=fun ρ' st' o' e1 e2 e2' e3 e4 e5 e6 k0 k3 k4 k10 k11 k14 k15 k16 k77 k78 k79=>
   ih (pre++[e]) (by simp[hpp]) ρ' st' (eH (gX sz) cl out t s e) o' (by have:=oO (ps:=gX sz) (cl:=cl) (out:=out) (t:=t) (s:=s) (e:=e);simp;omega) e1 e2 e3 e4 e5 k0 k3 k4 k10 k11 k14 k15 k16 k77 k78 (by rw[List.length_append];exact k79) Q
    (fun ρ'' st'' o'' f1 f2 f3 f4 f5 f6=>hQ ρ'' st'' o'' f1 f2 (by rw[cF,List.foldl_cons];exact f3) f4 f5 (by
     rcases f6 with rfl|⟨r,hr,hr2⟩
     ·exact e6
     ·exact .inr ⟨r,hr,Nat.le_trans e2' hr2⟩))
  have hkeep:∀{x y:Option Box},∀q,Kp q→(ap (ap st.boxes st.next x) st.next y) q=st0.boxes q:=fun{x y} q hq=>((ab _ _ (Nat.ne_of_lt (hKn2 q hq))).trans (ab _ _ (Nat.ne_of_lt (hKn2 q hq)))).trans (hKs q hq)
  clear ih hQ hpp
  rw[←aa h0,←aa h3,←aa h4,←aa h10,←aa h11,←aa h14,←aa h15,←aa h16,←aa h77,←aa h78,←aa h79]
  refine WC_loop ?_
  by_cases hc:di e t sz
  ·rw[if_pos hc]at hP
   have hps1:gX sz e t=some (aJ e t sz):=by unfold gX;rw[if_pos hc]
   generalize aJ e t sz=w at*
   generalize mx t e.op=w2 at*
   by_cases hvc:i6 out e.to=false∧cl e.to=false
   ·obtain⟨hv1,hv2⟩:=hvc
    have hpush:eH (gX sz) cl out t s e=vw ⟨e.to,w⟩ s:=by simp[eH,hps1,hv1,hv2]
    rw[hv1]at hu2
    rw[hv2]at hu3
    rw[hpush]at hnext
    repeat' (first
 |(refine ai ?_;first
 |refine iA (pre.length) hpl ?_
 |refine an (cs':=[_,_,_,_,_,_,_,_]) rfl rfl (ae _ _ _) rfl hlim2 rfl rfl rfl ?_
 |refine aP rfl rfl rfl ((ab _ _ q1).trans ((ab _ _ q1).trans hc1)) hu1 hu2 rfl ?_
 |refine gW rfl rfl rfl ((ab _ _ q0).trans ((ab _ _ q0).trans hc0)) hu3 rfl ?_
 |refine mI ?_
 |refine mB ?_
 |refine mP ?_
 |refine mT ?_
 |refine mM ?_
 |refine lT ?_
 |refine aD ?_
 |refine lE (d:=.agg [_,_,_,_,_,_,_,_]) hv ?_
 |refine am (agg:=false) (d:=.int _ _) rfl rfl rfl ((congrArg (fun x=>Option.bind x Box.cs) ((ab _ _ qb).trans (ab _ _ qb))).trans hcb) hlb rfl ?_
 |refine am (agg:=false) (d:=.int _ _) rfl rfl rfl (dV rfl) (by first|exact Nat.zero_le _|assumption|exact Nat.le_trans hlim (Nat.zero_le _)|omega) rfl ?_
 |refine am (agg:=true) (d:=.agg [_,_,_,_,_,_,_,_]) rfl rfl rfl (dV rfl) (by first|exact Nat.zero_le _|assumption|exact Nat.le_trans hlim (Nat.zero_le _)|omega) rfl ?_
 |refine cA rfl hP ?_
 |(refine dF rfl rfl rfl hps ?_<;>intro r1 st1 hp1)
 |refine pB ?_
 |refine eI ?_
 |refine eB ?_
 |refine bi (cs:=[_,_]) rfl rfl rfl ?_
 |refine nT ?_
 |refine fD ?_
 |refine aq rfl rfl ?_
 |refine WS_nil ?_)
 |refine WC_seq ?_
 |refine WC_opsS ?_
 |refine WC_skip ?_
 |refine ah rfl ?_
 |refine WC_block ?_)
    obtain⟨rfl,o',H1,F1⟩:=hp1
    have hn1:st.next+1≤st1.next:=F1.next
    skip
    refine hnext _ st1 o' ?_ ?_ ?_ H1 (fun q hq=>?_) (fun q hq=>?_) ?_ rfl rfl rfl rfl rfl rfl rfl rfl rfl rfl rfl
    ·rw[F1.lim];exact hlim
    ·omega
    ·omega
    ·rcases F1.own with e'|⟨r',e',hr'⟩
     ·rw[e'];exact hKo q hq
     ·rw[e']
      intro e2
      cases e2
      have:=hKn2 q hq
      have hr':st.next+1≤q:=hr'
      omega
    ·rw[F1.box q (Nat.lt_succ_of_lt (hKn2 q hq)) (hKn q hq).2 (hKo q hq)]
     exact hkeep q hq
    ·rcases F1.own with e'|⟨r',e',hr'⟩
     ·exact .inl e'
     ·exact .inr ⟨r',e',Nat.le_of_succ_le hr'⟩
   ·have hpush:eH (gX sz) cl out t s e=s:=by
     simp only[eH,hps1]
     rw[if_pos]
     cases h1:i6 out e.to<;>cases h2:cl e.to<;>simp[h1,h2]at hvc ⊢
    rw[hpush]at hnext
    clear hpush hps
    cases hv1:i6 out e.to with
    |true=>
     rw[hv1]at hu2
     repeat' (first
 |(refine ai ?_;first
 |refine iA (pre.length) hpl ?_
 |refine an (cs':=[_,_,_,_,_,_,_,_]) rfl rfl (ae _ _ _) rfl hlim2 rfl rfl rfl ?_
 |refine aP rfl rfl rfl ((ab _ _ q1).trans ((ab _ _ q1).trans hc1)) hu1 hu2 rfl ?_
 |refine aj rfl ?_
 |refine mI ?_
 |refine mB ?_
 |refine mT ?_
 |refine mM ?_
 |refine lT ?_
 |refine aD ?_
 |refine aj rfl ?_
 |refine lE (d:=.agg [_,_,_,_,_,_,_,_]) hv ?_
 |refine am (agg:=false) (d:=.int _ _) rfl rfl rfl ((congrArg (fun x=>Option.bind x Box.cs) ((ab _ _ qb).trans (ab _ _ qb))).trans hcb) hlb rfl ?_
 |refine am (agg:=false) (d:=.int _ _) rfl rfl rfl (dV rfl) (by first|exact Nat.zero_le _|assumption|exact Nat.le_trans hlim (Nat.zero_le _)|omega) rfl ?_
 |refine am (agg:=true) (d:=.agg [_,_,_,_,_,_,_,_]) rfl rfl rfl (dV rfl) (by first|exact Nat.zero_le _|assumption|exact Nat.le_trans hlim (Nat.zero_le _)|omega) rfl ?_
 |refine cA rfl hP ?_
 |refine pB ?_
 |refine eI ?_
 |refine eB ?_
 |refine nT ?_
 |refine fD ?_
 |refine aq rfl rfl ?_
 |refine aj rfl ?_
 |refine WS_nil ?_)
 |refine WC_seq ?_
 |refine WC_opsS ?_
 |refine WC_skip ?_
 |refine ah rfl ?_
 |refine af rfl ?_
 |refine WC_block ?_)
     exact hnext _ _ o hlim (Nat.le_succ_of_le hnx) (Nat.le_succ _) hA hKo hkeep (.inl rfl) rfl rfl rfl rfl rfl rfl rfl rfl rfl rfl rfl
    |false=>
     have hv2:cl e.to=true:=by cases h:cl e.to<;>simp[hv1,h]at hvc ⊢
     rw[hv1]at hu2
     rw[hv2]at hu3
     repeat' (first
 |(refine ai ?_;first
 |refine iA (pre.length) hpl ?_
 |refine an (cs':=[_,_,_,_,_,_,_,_]) rfl rfl (ae _ _ _) rfl hlim2 rfl rfl rfl ?_
 |refine aP rfl rfl rfl ((ab _ _ q1).trans ((ab _ _ q1).trans hc1)) hu1 hu2 rfl ?_
 |refine gW rfl rfl rfl ((ab _ _ q0).trans ((ab _ _ q0).trans hc0)) hu3 rfl ?_
 |refine mI ?_
 |refine mB ?_
 |refine mT ?_
 |refine mM ?_
 |refine lT ?_
 |refine aD ?_
 |refine lE (d:=.agg [_,_,_,_,_,_,_,_]) hv ?_
 |refine am (agg:=false) (d:=.int _ _) rfl rfl rfl ((congrArg (fun x=>Option.bind x Box.cs) ((ab _ _ qb).trans (ab _ _ qb))).trans hcb) hlb rfl ?_
 |refine am (agg:=false) (d:=.int _ _) rfl rfl rfl (dV rfl) (by first|exact Nat.zero_le _|assumption|exact Nat.le_trans hlim (Nat.zero_le _)|omega) rfl ?_
 |refine am (agg:=true) (d:=.agg [_,_,_,_,_,_,_,_]) rfl rfl rfl (dV rfl) (by first|exact Nat.zero_le _|assumption|exact Nat.le_trans hlim (Nat.zero_le _)|omega) rfl ?_
 |refine cA rfl hP ?_
 |refine pB ?_
 |refine eI ?_
 |refine eB ?_
 |refine nT ?_
 |refine fD ?_
 |refine aq rfl rfl ?_
 |refine WS_nil ?_)
 |refine WC_seq ?_
 |refine WC_opsS ?_
 |refine WC_skip ?_
 |refine ah rfl ?_
 |refine af rfl ?_
 |refine WC_block ?_)
     exact hnext _ _ o hlim (Nat.le_succ_of_le hnx) (Nat.le_succ _) hA hKo hkeep (.inl rfl) rfl rfl rfl rfl rfl rfl rfl rfl rfl rfl rfl
  ·rw[if_neg hc]at hP
   have hpush:eH (gX sz) cl out t s e=s:=by simp[eH,gX,hc]
   rw[hpush]at hnext
   clear hpush hps
   generalize i6 out e.to=vv at hu2
   repeat' (first
 |(refine ai ?_;first
 |refine iA (pre.length) hpl ?_
 |refine an (cs':=[_,_,_,_,_,_,_,_]) rfl rfl (ae _ _ _) rfl hlim2 rfl rfl rfl ?_
 |refine aP rfl rfl rfl ((ab _ _ q1).trans ((ab _ _ q1).trans hc1)) hu1 hu2 rfl ?_
 |refine aj rfl ?_
 |refine mI ?_
 |refine mB ?_
 |refine mT ?_
 |refine mM ?_
 |refine lT ?_
 |refine aD ?_
 |refine aj rfl ?_
 |refine lE (d:=.agg [_,_,_,_,_,_,_,_]) hv ?_
 |refine am (agg:=false) (d:=.int _ _) rfl rfl rfl ((congrArg (fun x=>Option.bind x Box.cs) ((ab _ _ qb).trans (ab _ _ qb))).trans hcb) hlb rfl ?_
 |refine am (agg:=false) (d:=.int _ _) rfl rfl rfl (dV rfl) (by first|exact Nat.zero_le _|assumption|exact Nat.le_trans hlim (Nat.zero_le _)|omega) rfl ?_
 |refine am (agg:=true) (d:=.agg [_,_,_,_,_,_,_,_]) rfl rfl rfl (dV rfl) (by first|exact Nat.zero_le _|assumption|exact Nat.le_trans hlim (Nat.zero_le _)|omega) rfl ?_
 |refine cA rfl hP ?_
 |refine pB ?_
 |refine eI ?_
 |refine eB ?_
 |refine fD ?_
 |refine aq rfl rfl ?_
 |refine aj rfl ?_
 |refine WS_nil ?_)
 |refine WC_seq ?_
 |refine WC_opsS ?_
 |refine WC_skip ?_
 |refine ah rfl ?_
 |refine af rfl ?_
 |refine WC_block ?_)
   exact hnext _ _ o hlim (Nat.le_succ_of_le hnx) (Nat.le_succ _) hA hKo hkeep (.inl rfl) rfl rfl rfl rfl rfl rfl rfl rfl rfl rfl rfl
end Go.Lea
/-
  The times: the earliest node goes on first.
-/
namespace Go.Lea
open Go.Ev
theorem zi (a:Rd):gL 2 a.e:=⟨rfl,rfl⟩
def OutR (st:Store) (h:Nat) (o:Option Nat) (d:D) (out:List Rd):Prop:=(out=[]∧d=.slice .isnil 0 [])∨∃q n c,2≤q∧q≠h∧some q≠o∧n=out.length∧out≠[]∧d=.rs q 0 2 n c∧RowIs st q 2 (out.map Rd.e)
theorem OutR.ne {st:Store} {h:Nat} {o:Option Nat} {d:D} {out:List Rd} (H:OutR st h o d out) {x:Nat} (hx:x<2∨x=h∨some x=o∨st.next≤x):∀n c,d≠.rs x 0 2 n c:=by
 rintro n c rfl
 rcases H with⟨_,h⟩|⟨q,n',c',h1,h2,h3,_,_,h4,hR⟩
 ·cases h
 ·cases h4
  have:=hR.2.1
  rcases hx with hx|hx|hx|hx
  ·omega
  ·exact h2 hx
  ·exact h3 hx
  ·omega
theorem OutR.of {st st':Store} {h:Nat} {o o':Option Nat} {d:D} {out:List Rd} (H:OutR st h o d out) (hl:st'.lim≤0) (hn:st.next≤st'.next) (hb:∀q n c,d=.rs q 0 2 n c→st'.boxes q=st.boxes q∧some q≠o'):OutR st' h o' d out:=by
 rcases H with h|⟨q,n,c,h1,h2,h3,h4,h5,rfl,hR⟩
 ·exact .inl h
 ·obtain⟨e1,e2⟩:=hb q n c rfl
  exact .inr ⟨q,n,c,h1,h2,e2,h4,h5,rfl,hR.of (by omega) (Nat.lt_of_lt_of_le hR.2.1 hn) e1⟩
section
variable {Γ:Nat→Option FD} {ρ:Nat→D} {st:Store} {dr:Bool} {R:(Nat→D)→Store→List Fl→Prop} {l:List Op1} {g:Option (Nat×Bool)} {mv:Bool} {k:Nat} {x y:A}
theorem wg {bytes h:Nat} {o:Option Nat} {d:D} {out:List Rd} {r:Rd} {t:Tok} (hg:ak ρ g=some true) (hx:x.ev ρ=d) (hy:y.ev ρ=.slice t 2 [r.e]) (hm:mv=true) (hO:OutR st h o d out) (hb:(out.length+1)*bytes≤140737488355328) (hl:st.lim≤st.next) (h2:2≤st.next) (hh:h<st.next) (ho:∀r,o=some r→r<st.next)
  (H:∀st' d',st'.lim=st.lim→st.next≤st'.next→OutR st' h o d' (out++[r])→(∀x,x<st.next→(∀n c,d≠.rs x 0 2 n c)→st'.boxes x=st.boxes x)→WS Γ dr l (ap ρ k d') st' (nx .f R)):WS Γ dr (⟨some k,g,mv,.append 2 bytes x y⟩::l) ρ st R:=by
 have hys:∀d∈[r.e],gL 2 d:=fun d hd=>by rw[List.mem_singleton.mp hd];exact zi r
 rcases hO with⟨rfl,rfl⟩|⟨q,n,c,h1,h2',h3,rfl,h5,rfl,hR⟩
 ·refine kH hg hx (.inr rfl) (.inr rfl) hy hm (.inl rfl) (by simp) (by simp) hys (by simpa using hb) hl (fun st' e1 _ _ _ hR' hoth hn=>?_)
  refine H st' _ e1 (by omega) (.inr ⟨st.next,_,_,h2,by omega,fun e=>by have:=ho st.next e.symm;omega,rfl,by simp,rfl,by simpa using hR'⟩) (fun x hx _=>hoth x hx)
 ·refine rb hg hx hy hR (by simp) (.inl rfl) (fun d hd=>by
   obtain⟨a,_,rfl⟩:=List.mem_map.mp hd
   rfl) hys (by simpa using hb) (fun p' c' st' e1 _ _ _ hR' hoth hn hp=>?_)
  refine H st' _ e1 hn (.inr ⟨p',_,c',?_,?_,?_,by simp,by simp,rfl,by simpa using hR'⟩) (fun x hx hne=>hoth x (fun e=>by subst e;exact hne _ _ rfl) hx)
  ·rcases hp with rfl|hp
   ·exact h1
   ·omega
  ·rcases hp with rfl|hp
   ·exact h2'
   ·omega
  ·rcases hp with rfl|hp
   ·exact h3
   ·intro e
    have:=ho p' e.symm
    omega
end
theorem KVA.set {kv:List (Int×D)} {out:List Rd} (h:KVA kv out) (r:Rd):KVA (bM r.node (.int .i64 r.at') kv) (out++[r]):=fun n=>by
 rw[fy,kC]
 by_cases e:n=r.node
 ·rw[if_pos e]
  exact⟨r.at',rfl,by simp[e]⟩
 ·rw[if_neg e]
  obtain⟨u,h1,h2⟩:=h n
  refine⟨u,h1,?_⟩
  rw[h2]
  have:¬r.node=n:=fun x=>e x.symm
  simp[this]
set_option maxHeartbeats 8000000 in
theorem Ay (l:List Eg) (hll:l.length≤1000) (t0:Tok) (s0:Nat) (hs0:s0=8∨l=[]) (sz:Int) (cl:Int→Bool) (kvc:List (Int×D)) (hkc:KVC kvc cl):∀(n:Nat) (out s:List Rd),j7 l out s≤n→n+out.length≤100000→∀(kva:List (Int×D)),KVA kva out→∀(ρ:Nat→D) (st:Store) (h:Nat) (o:Option Nat) (d v4:D),
  st.lim≤0→2≤h→(∀r,o=some r→2≤r)→AH st h o s→st.boxes 0=some (.map kvc)→st.boxes 1=some (.map kva)→OutR st h o d out→
  ρ 0=.slice t0 s0 (l.map Eg.e)→ρ 3=.int .i64 sz→ρ 4=v4→ρ 10=d→ρ 11=.map 0→ρ 14=.map 1→ρ 15=.ptr h 0→∀(Q:X→(Nat→D)→Store→Prop),
  (∀ρ' st' d' h' o',st'.lim≤0→OutR st' h' o' d' (qk (gX sz) cl l n out s)→ρ' 10=d'→Q (.exit 2) ρ' st')→WC Γ (.loop eh) ρ st Q:=by
 intro n
 induction n with
 |zero=>
  intro out s hm hno kva hka ρ st h o d v4 hlim hh2 ho2 H hb0 hb1 hO h0 h3 h4 h10 h11 h14 h15 Q hQ
  have hs:s=[]:=List.length_eq_zero_iff.mp (by unfold j7 at hm;omega)
  subst hs
  have hLen:EvRO Γ 40 [.ptr h 0] st (.int .i64 0):=tp H (by simp)
  rw[←aa h0,←aa h3,←aa h4,←aa h10,←aa h11,←aa h14,←aa h15]
  refine WC_loop ?_
  repeat' (first
 |(refine ai ?_;first
 |refine mP ?_
 |refine gF ?_
 |refine cB rfl rfl rfl hLen rfl rfl ?_
 |refine WS_nil ?_)
 |refine WC_seq ?_
 |refine WC_opsS ?_
 |refine af rfl ?_
 |refine WC_exit ?_)
  exact hQ _ _ d h o hlim hO rfl
 |succ n ih=>
  intro out s hm hno kva hka ρ st h o d v4 hlim hh2 ho2 H hb0 hb1 hO h0 h3 h4 h10 h11 h14 h15 Q hQ
  cases s with
  |nil=>
   have hLen:EvRO Γ 40 [.ptr h 0] st (.int .i64 0):=tp H (by simp)
   rw[←aa h0,←aa h3,←aa h4,←aa h10,←aa h11,←aa h14,←aa h15]
   refine WC_loop ?_
   repeat' (first
 |(refine ai ?_;first
 |refine mP ?_
 |refine gF ?_
 |refine cB rfl rfl rfl hLen rfl rfl ?_
 |refine WS_nil ?_)
 |refine WC_seq ?_
 |refine WC_opsS ?_
 |refine af rfl ?_
 |refine WC_exit ?_)
   exact hQ _ _ d h o hlim hO rfl
  |cons r s=>
   have hsl:s.length+1≤n+1:=by unfold j7 at hm;simp at hm;omega
   have hLen:EvRO Γ 40 [.ptr h 0] st (.int .i64 ((s.length:Int)+1)):=by
    have:=tp H (by simp;omega)
    simpa using this
   have hPop:EvRWX Γ 41 [.ptr h 0] st (fun r0 st'=>r0=.tuple [r.e,.bool true]∧AH st' h o s∧Fr st st' h o o):=by
    have:=zV H (by simp;omega)
    simpa[Bj]using this
   have hnh:=H.nx
   have hne0:some 0≠o:=fun e=>by have:=ho2 0 e.symm;omega
   have hne1:some 1≠o:=fun e=>by have:=ho2 1 e.symm;omega
   rw[←aa h0,←aa h3,←aa h4,←aa h10,←aa h11,←aa h14,←aa h15]
   refine WC_loop ?_
   repeat' (first
 |(refine ai ?_;first
 |refine mP ?_
 |refine gT ?_
 |refine cB rfl rfl rfl hLen rfl rfl ?_
 |(refine dF rfl rfl rfl hPop ?_<;>intro r0 st1 hp0)
 |refine WS_nil ?_)
 |refine WC_seq ?_
 |refine WC_opsS ?_
 |refine WC_skip ?_
 |refine ah rfl ?_
 |refine WC_block ?_)
   obtain⟨rfl,H1,F1⟩:=hp0
   have hlim1:st1.lim≤0:=by rw[F1.lim];exact hlim
   have hll1:st1.lim≤st1.next:=by omega
   have hnx1:st.next≤st1.next:=F1.next
   have h31:2<st1.next:=by omega
   have hc0:st1.boxes 0=some (.map kvc):=by rw[F1.box 0 (by omega) (by omega) hne0];exact hb0
   have hc1:st1.boxes 1=some (.map kva):=by rw[F1.box 1 (by omega) (by omega) hne1];exact hb1
   have hO1:OutR st1 h o d out:=by
    rcases hO with hO|⟨q,n',c,k1,k2,k3,k4,k5,rfl,hR⟩
    ·exact .inl hO
    ·exact .inr ⟨q,n',c,k1,k2,k3,k4,k5,rfl,hR.of (by omega) (Nat.lt_of_lt_of_le hR.2.1 hnx1) (F1.box q hR.2.1 k2 k3)⟩
   have ho3:∀r,o=some r→r<st1.next:=fun r hr=>by subst hr;exact H1.onx
   obtain⟨u,hu1,hu2⟩:=hka r.node
   have q1:(1:Nat)≠st1.next:=by omega
   have q0:(0:Nat)≠st1.next:=by omega
   clear hb0 hb1 hO H hLen hPop F1 hnh
   cases hv:i6 out r.node with
   |true=>
    rw[hv]at hu2
    have hd:qk (gX sz) cl l (n+1) out (r::s)=qk (gX sz) cl l n out s:=by rw[qk,if_pos hv]
    have hms:j7 l out s≤n:=by have:=oG (l:=l) (out:=out) (s:=s) (r:=r);omega
    have hnext:∀(ρ':Nat→D) (x y:Option Box),ρ' 0=.slice t0 s0 (l.map Eg.e)→ρ' 3=.int .i64 sz→ρ' 4=v4→ρ' 10=d→ρ' 11=.map 0→ρ' 14=.map 1→ρ' 15=.ptr h 0→WC Γ (.loop eh) ρ' {st1 with boxes:=ap (ap st1.boxes st1.next x) st1.next y,next:=st1.next+1} Q:=fun ρ' x y k0 k3 k4 k10 k11 k14 k15=>
     ih out s hms (by omega) kva hka ρ' {st1 with boxes:=ap (ap st1.boxes st1.next x) st1.next y,next:=st1.next+1} h o d v4 hlim1 hh2 ho2 (H1.of rfl (Nat.le_succ _) (fun q hq _=>(ab _ _ (Nat.ne_of_lt hq)).trans (ab _ _ (Nat.ne_of_lt hq))))
      ((ab _ _ q0).trans ((ab _ _ q0).trans hc0)) ((ab _ _ q1).trans ((ab _ _ q1).trans hc1))
      (by
       rcases hO1 with hO|⟨q,n',c,k1,k2,k3,k4,k5,rfl,hR⟩
       ·exact .inl hO
       ·have hq:=hR.2.1
        exact .inr ⟨q,n',c,k1,k2,k3,k4,k5,rfl,hR.of hR.1 (Nat.lt_succ_of_lt hq) ((ab _ _ (Nat.ne_of_lt hq)).trans (ab _ _ (Nat.ne_of_lt hq)))⟩)
      k0 k3 k4 k10 k11 k14 k15 Q (fun ρ'' st'' d' h' o' f1 f2 f3=>hQ ρ'' st'' d' h' o' f1 (by rw[hd];exact f2) f3)
    clear ih hQ
    repeat' (first
 |(refine ai ?_;first
 |refine an (cs':=[_,_]) rfl rfl (ae _ _ _) rfl hll1 rfl rfl rfl ?_
 |refine aP rfl rfl rfl ((ab _ _ q1).trans ((ab _ _ q1).trans hc1)) hu1 hu2 rfl ?_
 |refine mI ?_
 |refine mB ?_
 |refine mT ?_
 |refine mM ?_
 |refine am (agg:=false) (d:=.int _ _) rfl rfl rfl (dV rfl) (by first|exact Nat.zero_le _|assumption|exact Nat.le_trans hlim (Nat.zero_le _)|omega) rfl ?_
 |refine eI ?_
 |refine eB ?_
 |refine eA ?_
 |refine fD ?_
 |refine aq rfl rfl ?_
 |refine WS_nil ?_)
 |refine WC_seq ?_
 |refine WC_opsS ?_
 |refine ah rfl ?_
 |refine WC_exit ?_)
    refine hnext _ _ _ ?_ ?_ ?_ ?_ ?_ ?_ ?_<;>rfl
   |false=>
    rw[hv]at hu2
    have hd:qk (gX sz) cl l (n+1) out (r::s)=qk (gX sz) cl l n (out++[r]) (cF (gX sz) cl (out++[r]) r.at' (bD r.node l) s):=by rw[qk,if_neg (by simp[hv])]
    have hms:j7 l (out++[r]) (cF (gX sz) cl (out++[r]) r.at' (bD r.node l) s)≤n:=by have:=tY (ps:=gX sz) (cl:=cl) (l:=l) (s:=s) hv;omega
    have hF:=fun t=>xC r.node l (by omega) t s0 hs0
    have hfl:(bD r.node l).length≤l.length:=by unfold bD;exact List.length_filter_le _ _
    have hkv':=hka.set r
    have hbd:(out.length+1)*16≤140737488355328:=by omega
    have hqb1:st1.next≠1:=by omega
    have hl01:st1.lim≤1:=by omega
    have hneb:∀n c,d≠.rs st1.next 0 2 n c:=hO1.ne (.inr (.inr (.inr (Nat.le_refl _))))
    have hO2:∀{x y z:Option Box},OutR {st1 with boxes:=ap (ap (ap st1.boxes st1.next x) st1.next y) 1 z,next:=st1.next+1} h o d out:=fun{x y z}=>hO1.of hlim1 (Nat.le_succ _) (fun q n c e=>by
     have h1:¬q<2:=fun hq=>hO1.ne (.inl hq) n c e
     have h2:some q≠o:=fun hq=>hO1.ne (.inr (.inr (.inl hq))) n c e
     have h3:¬st1.next≤q:=fun hq=>hO1.ne (.inr (.inr (.inr hq))) n c e
     exact⟨(ab _ _ (by omega)).trans ((ab _ _ (by omega)).trans (ab _ _ (by omega))),h2⟩)
    have hkeep2:∀{x y z:Option Box} (q:Nat),q<st1.next→q≠1→(ap (ap (ap st1.boxes st1.next x) st1.next y) 1 z) q=st1.boxes q:=fun{x y z} q hq hq1=>(ab _ _ hq1).trans ((ab _ _ (Nat.ne_of_lt hq)).trans (ab _ _ (Nat.ne_of_lt hq)))
    have hhn1:h<st1.next+1:=Nat.lt_succ_of_lt H1.nx
    have ho4:∀r,o=some r→r<st1.next+1:=fun r hr=>Nat.lt_succ_of_lt (ho3 r hr)
    have h2n:2≤st1.next+1:=by omega
    have hll2:st1.lim≤st1.next+1:=by omega
    repeat' (first
 |(refine ai ?_;first
 |refine an (cs':=[_,_]) rfl rfl (ae _ _ _) rfl hll1 rfl rfl rfl ?_
 |refine aP rfl rfl rfl ((ab _ _ q1).trans ((ab _ _ q1).trans hc1)) hu1 hu2 rfl ?_
 |refine dk (v:=.int .i64 r.at') rfl rfl rfl ((ab _ _ q1).trans ((ab _ _ q1).trans hc1)) hl01 rfl rfl ?_
 |refine bL (v:=d3) rfl rfl rfl ?_
 |refine bL (v:=d) rfl rfl rfl ?_
 |(refine wg rfl rfl rfl rfl hO2 hbd hll2 h2n hhn1 ho4 ?_;intro st3 d3 e1 e2 hO3 hoth3;have hbb3:(st3.boxes st1.next).bind Box.cs=some [.int .i64 r.node,.int .i64 r.at']:=(congrArg (fun x=>Option.bind x Box.cs) (hoth3 st1.next (Nat.lt_succ_self _) hneb)).trans (xZ hqb1 (dV rfl));have hlb3:st3.lim≤st1.next:=Nat.le_trans (Nat.le_of_eq e1) hll1)
 |refine lN ?_
 |refine mI ?_
 |refine mB ?_
 |refine mS ?_
 |refine mT ?_
 |refine mM ?_
 |refine am (agg:=false) (d:=.int _ _) rfl rfl rfl hbb3 hlb3 rfl ?_
 |refine am (agg:=true) (d:=.agg [_,_]) rfl rfl rfl (xZ hqb1 (dV rfl)) hll1 rfl ?_
 |refine am (agg:=false) (d:=.int _ _) rfl rfl rfl (dV rfl) hll1 rfl ?_
 |(refine ui rfl rfl rfl (hF _) rfl ?_;intro tf sf hsf1 tk5 nt5)
 |refine eI ?_
 |refine eB ?_
 |refine eA ?_
 |refine fD ?_
 |refine aq rfl rfl ?_
 |refine bh (ys:=[_]) rfl rfl rfl (by decide) rfl ?_
 |refine WS_nil ?_)
 |refine WC_seq ?_
 |refine WC_opsS ?_
 |refine WC_skip ?_
 |refine af rfl ?_
 |refine WC_block ?_)
    have e1':st3.lim=st1.lim:=e1
    have e2':st1.next+1≤st3.next:=e2
    have hlim3:st3.lim≤0:=by rw[e1'];exact hlim1
    have hb03:st3.boxes 0=some (.map kvc):=by
     rw[hoth3 0 (by show 0<st1.next+1;omega) (hO1.ne (.inl (by omega)))]
     exact(hkeep2 (z:=none) 0 (by omega) (by omega)).trans hc0
    have hb13:st3.boxes 1=some (.map (bM r.node (.int .i64 r.at') kva)):=(hoth3 1 (by show 1<st1.next+1;omega) (hO1.ne (.inl (by omega)))).trans rfl
    have H3:AH st3 h o s:=H1.of e1' (by omega) (fun q hq hqo=>by
     rw[hoth3 q (Nat.lt_succ_of_lt hq) (hO1.ne (by
      rcases hqo with h'|h'
      ·exact .inr (.inl h')
      ·exact .inr (.inr (.inl h'))))]
     refine hkeep2 q hq ?_
     rcases hqo with rfl|h'
     ·omega
     ·have:=ho2 q h'.symm
      omega)
    have hKn:∀q,(q=0∨q=1∨q=st1.next∨∃n c,d3=.rs q 0 2 n c)→q<st3.next∧q≠h:=by
     have:=H1.nx
     rintro q (rfl|rfl|rfl|⟨n',c',e⟩)
     ·omega
     ·omega
     ·omega
     ·exact⟨Nat.lt_of_not_le fun hq=>hO3.ne (.inr (.inr (.inr hq))) n' c' e,fun hq=>hO3.ne (.inr (.inl hq)) n' c' e⟩
    have hKo:∀q,(q=0∨q=1∨q=st1.next∨∃n c,d3=.rs q 0 2 n c)→some q≠o:=by
     rintro q (rfl|rfl|rfl|⟨n',c',e⟩)
     ·exact hne0
     ·exact hne1
     ·intro e
      have:=ho3 _ e.symm
      omega
     ·exact fun hq=>hO3.ne (.inr (.inr (.inl hq))) n' c' e
    refine Bx sz cl (out++[r]) kvc (bM r.node (.int .i64 r.at') kva) hkc hkv' r.at' (bD r.node l) (by omega) tf sf hsf1 h st1.next {st3 with toks:=tk5,ntok:=nt5} (fun q=>q=0∨q=1∨q=st1.next∨∃n c,d3=.rs q 0 2 n c) (.inl rfl) (.inr (.inl rfl)) (.inr (.inr (.inl rfl))) hKn hb03 hb13 r.node hbb3 (.slice t0 s0 (l.map Eg.e)) v4 d3 (bD r.node l) [] rfl _ {st3 with toks:=tk5,ntok:=nt5} s o (by simp;omega) hlim3 (Nat.le_refl _) (H3.of rfl (Nat.le_refl _) (fun _ _ _=>rfl)) hKo (fun _ _=>rfl) ?_ ?_ ?_ ?_ ?_ ?_ ?_ ?_ ?_ ?_ ?_ _ (fun ρ' st4 o' f1 f2 f3 f4 f5 f6 k0 k3 k4 k10 k11 k14 k15=>?_)
    all_goals first|rfl|skip
    rw[←aa k0,←aa k3,←aa k4,←aa k10,←aa k11,←aa k14,←aa k15]
    skip
    refine ih (out++[r]) _ hms (by simp;omega) _ hkv' _ st4 h o' d3 v4 f1 hh2 (fun r' hr'=>?_) f3 ((f5 0 (.inl rfl)).trans hb03) ((f5 1 (.inr (.inl rfl))).trans hb13) (hO3.of f1 f2 (fun q n' c' e=>⟨f5 q (.inr (.inr (.inr ⟨n',c',e⟩))),f4 q (.inr (.inr (.inr ⟨n',c',e⟩)))⟩)) ?_ ?_ ?_ ?_ ?_ ?_ ?_ Q (fun ρ'' st'' d' h' o'' g1 g2 g3=>hQ ρ'' st'' d' h' o'' g1 (by rw[hd];exact g2) g3)
    ·rcases f6 with rfl|⟨r2,hr2,hr3⟩
     ·exact ho2 r' hr'
     ·have hr4:st3.next≤r2:=hr3
      rw[hr2]at hr'
      cases hr'
      omega
    all_goals rfl
end Go.Lea
/-
  Sorting by nodes, as the known function does it, and as plain lists.
-/
namespace Go.Ev
theorem fQ {Γ:Nat→Option FD} {st st':Store} {f:Nat} {F:List D→Store→Option (D×Store)} {ds:List D} {r:D} (hf:Γ f=some (.primS F)) (hF:F (ds.map D.strip) st=some (r,st')):EvRW Γ f ds st r st':=by
 refine⟨2,fun n hn=>?_⟩
 obtain⟨n,rfl⟩:∃m,n=m+2:=⟨n - 2,by omega⟩
 have hp:az Γ (n+1) f (ds.map D.strip)=none:=by simp[az,hf]
 have hp2:az Γ (n+1) f (ds.map (seen st))=none:=by simp[az,hf]
 refine⟨?_,by simp[aE,hf,hF]⟩
 simp only[aV,hf,hp,hp2]
 split
 ·rfl
 ·split
  ·split<;>rfl
  ·rfl
end Go.Ev
namespace Go.Lea
open Go.Ev
def l6 {α:Type} (key:α→Int) (x:α):List α→List α
 |[]=>[x]
 |y::s=>if key y<key x then y::l6 key x s else x::y::s
def dW {α:Type} (key:α→Int):List α→List α
 |[]=>[]
 |x::s=>l6 key x (dW key s)
theorem lp {α:Type} (key:α→Int) (x:α):∀l:List α,(l6 key x l).Perm (x::l)
 |[]=>List.Perm.refl _
 |y::s=>by
  simp only[l6]
  split
  ·exact((lp key x s).cons y).trans (List.Perm.swap x y s)
  ·exact List.Perm.refl _
theorem cd {α:Type} (key:α→Int):∀l:List α,(dW key l).Perm l
 |[]=>List.Perm.refl _
 |x::s=>(lp key x _).trans ((cd key s).cons x)
theorem qL {α β:Type} (key:β→Int) (f:α→β) (x:α):∀l:List α,l6 key (f x) (l.map f)=(l6 (fun a=>key (f a)) x l).map f
 |[]=>rfl
 |y::s=>by
  simp only[List.map_cons,l6]
  split
  ·rw[qL key f x s];rfl
  ·rfl
theorem nH {α β:Type} (key:β→Int) (f:α→β):∀l:List α,dW key (l.map f)=(dW (fun a=>key (f a)) l).map f
 |[]=>rfl
 |x::s=>by
  simp only[List.map_cons,dW]
  rw[nH key f s,qL]
theorem uw (x:List Int):∀l:List (List Int),s6 0 x l=l6 (fun a=>a.getD 0 0) x l
 |[]=>rfl
 |y::s=>by simp only[s6,l6,uw x s]
theorem m9:∀l:List (List Int),kF 0 l=dW (fun a=>a.getD 0 0) l
 |[]=>rfl
 |x::s=>by simp only[kF,dW,m9 s,uw]
theorem lV {α:Type} (key:α→Int) (x:α):∀l:List α,(l.Pairwise fun a b=>key a≤key b)→(l6 key x l).Pairwise fun a b=>key a≤key b
 |[],_=>by simp[l6]
 |y::s,h=>by
  have h':=List.pairwise_cons.mp h
  simp only[l6]
  split
  ·rename_i hlt
   refine List.pairwise_cons.mpr ⟨fun z hz=>?_,lV key x s h'.2⟩
   rcases List.mem_cons.mp ((lp key x s).mem_iff.mp hz)with rfl|hz
   ·omega
   ·exact h'.1 z hz
  ·rename_i hlt
   refine List.pairwise_cons.mpr ⟨fun z hz=>?_,h⟩
   rcases List.mem_cons.mp hz with rfl|hz
   ·omega
   ·have:=h'.1 z hz
    omega
theorem jc {α:Type} (key:α→Int):∀l:List α,(dW key l).Pairwise fun a b=>key a≤key b
 |[]=>List.Pairwise.nil
 |x::s=>lV key x _ (jc key s)
def Rd.row (e:Rd):List Int:=[e.node,e.at']
theorem ka (es:List Rd):(es.map Rd.e).flatMap D.cells=(es.flatMap Rd.row).map (D.int .i64):=by
 induction es with
 |nil=>rfl
 |cons e es ih=>rw[List.map_cons,List.flatMap_cons,ih,List.flatMap_cons,List.map_append];rfl
theorem ib:∀l:List Int,dN (l.map (D.int .i64))=some l
 |[]=>rfl
 |x::l=>by simp only[List.map_cons,dN,ib l]
theorem j9:∀es:List Rd,kS 2 es.length (es.flatMap Rd.row)=es.map Rd.row
 |[]=>rfl
 |e::es=>by
  rw[List.flatMap_cons,List.length_cons,List.map_cons]
  simp only[kS]
  rw[List.take_left' (show e.row.length=2 from rfl),List.drop_left' (show e.row.length=2 from rfl),j9 es]
theorem nm:∀l:List Int,l.Nodup→om l=true
 |[],_=>rfl
 |x::l,h=>by
  have h':=List.nodup_cons.mp h
  simp only[om,nm l h'.2,Bool.and_true,Bool.not_eq_true']
  simpa using h'.1
theorem BA {es:List Rd}:∀d∈es.map Rd.e,d.cells.length=2:=fun d hd=>by
 obtain⟨e,_,rfl⟩:=List.mem_map.mp hd
 rfl
theorem Ap (es:List Rd) (hn:(es.map Rd.node).Nodup) (hlen:es.length<4611686018427387904) (st:Store) (p c:Nat) (hR:RowIs st p 2 (es.map Rd.e)):
  ∃st',EvRW Γ 45 [.rs p 0 2 es.length c,.func 46 []] st (.tuple []) st'∧RowIs st' p 2 ((dW Rd.node es).map Rd.e):=by
 obtain⟨hl,hp,cs,hb,hlc,htk,hpl⟩:=hR
 rw[List.length_map]at hlc htk
 have e1:kF 0 (es.map Rd.row)=(dW Rd.node es).map Rd.row:=by rw[m9,nH];rfl
 have e2:((dW Rd.node es).map Rd.row).flatMap (fun x=>x.map (D.int .i64))=((dW Rd.node es).map Rd.e).flatMap D.cells:=by
  rw[List.flatMap_map,List.flatMap_map];rfl
 have hpm:=(cd Rd.node es).length_eq
 have e3:(((dW Rd.node es).map Rd.e).flatMap D.cells).length=es.length*2:=by
  rw[bz BA,List.length_map,hpm]
 refine⟨{st with boxes:=ap st.boxes p (some (.row (((dW Rd.node es).map Rd.e).flatMap D.cells++cs.drop (es.length*2))))},fQ (F:=gN 2 0 46) rfl ?_,hl,hp,_,ae _ _ _,?_,?_,?_⟩
 ·show gN 2 0 46 [.rs p 0 2 es.length c,.func 46 []] st=_
  simp only[gN,hb]
  rw[htk,ka,ib]
  simp only[j9,e1,e2]
  rw[if_pos ⟨trivial,trivial,trivial,hl,hlc,hlen,by
   rw[List.map_map]
   exact nm _ hn⟩]
 ·rw[List.length_map,List.length_append,e3,hpm];omega
 ·rw[List.length_map,hpm,List.take_left' e3]
 ·rw[List.all_append,Bool.and_eq_true]
  refine⟨?_,?_⟩
  ·rw[ka]
   simp[D.plain]
  ·rw[List.all_eq_true]at hpl ⊢
   exact fun x hx=>hpl x (List.mem_of_mem_drop hx)
end Go.Lea
/-
  The times, by nodes.
-/
namespace Go.Lea
open Go.Ev
theorem jt {e:Eg} {t sz:Int} (h:di e t sz):t≤aJ e t sz:=by
 have h1:=jQ (a:=t) (b:=e.op)
 have h2:=gH e sz
 have h3:=h.1.2.2.2.1.2.2
 unfold aJ
 omega
theorem yn {e:Eg} {t sz:Int} (h:di e t sz):1≤e.to∧e.to≤255:=h.1.2.2.1.2.1
theorem xy {e:Eg} {t sz:Int} (h:di e t sz):aJ e t sz≤4294967294:=by
 have h2:=gH e sz
 have h3:=h.1.2.2.2.1.2.2
 have h4:=h.1.2.2.2.1.2.1
 have h5:=h.2.2
 have h6:=jQ (a:=aT e sz) (b:=1)
 unfold aJ
 omega
theorem tv {a a' b:Int} (ha:0≤a') (h:a'≤a) (hb:1≤b):jW a' b≤jW a b:=by
 have h0:0≤a:=by omega
 unfold jW
 rw[Int.tdiv_eq_ediv_of_nonneg ha,Int.tmod_eq_emod_of_nonneg ha,Int.tdiv_eq_ediv_of_nonneg h0,Int.tmod_eq_emod_of_nonneg h0]
 have d1:=Int.ediv_le_ediv (c:=b) (by omega) h
 have m1:=Int.emod_nonneg a' (show b≠0 by omega)
 have m2:=Int.emod_nonneg a (show b≠0 by omega)
 have e1:=Int.mul_ediv_add_emod a' b
 have e2:=Int.mul_ediv_add_emod a b
 by_cases hd:a' / b=a / b
 ·rw[hd]at e1 ⊢
  split<;>split<;>omega
 ·split<;>split<;>omega
theorem vn {e:Eg} {t t' sz sz':Int} (h:di e t sz) (ht:0≤t') (htt:t'≤t) (hs:0≤sz') (hss:sz'≤sz):di e t' sz'∧aJ e t' sz'≤aJ e t sz:=by
 obtain⟨⟨h1,h2,h3⟩,h4,h5⟩:=h
 have hr:fP e t' sz':=⟨by omega,by omega,h3⟩
 have hm:mx t' e.op≤mx t e.op:=by
  have:=jQ (a:=t) (b:=e.op)
  exact nQ.mpr ⟨by omega,by omega⟩
 have hk:aT e sz'≤aT e sz:=by
  unfold aT
  rw[if_pos ⟨by omega,by omega,h3⟩,if_pos ⟨by omega,h2,h3⟩]
  exact tv hs hss h3.2.2.2.1.1
 have hm1:mx (aT e sz') 1≤mx (aT e sz) 1:=by
  have:=jQ (a:=aT e sz) (b:=1)
  exact nQ.mpr ⟨by omega,by omega⟩
 refine⟨⟨hr,by omega,by omega⟩,?_⟩
 unfold aJ
 omega
theorem dP {sz:Int} {e:Eg} {t u:Int}:gX sz e t=some u↔di e t sz∧u=aJ e t sz:=by
 unfold gX
 by_cases h:di e t sz
 ·rw[if_pos h];simp[h,eq_comm]
 ·rw[if_neg h];simp[h]
theorem xt {sz:Int}:∀e t u,gX sz e t=some u→t≤u:=fun e t u h=>by
 obtain⟨h1,rfl⟩:=dP.mp h
 exact jt h1
theorem rF {sz:Int} {cl:Int→Bool} {l:List Eg} {fr now n t:Int} (h:Reach (gX sz) cl l fr now n t):now≤t:=by
 induction h with
 |here=>exact Int.le_refl _
 |go _ _ _ hp _ ih=>exact Int.le_trans ih (xt _ _ _ hp)
theorem Aa {sz:Int} {cl:Int→Bool} {l:List Eg} {fr now:Int} (hn:0≤now) (hs:0≤sz):∀e t t' u,gX sz e t=some u→t'≤t→(∃a b,Reach (gX sz) cl l fr now a b∧b=t')→∃u',u'≤u∧gX sz e t'=some u':=by
 rintro e t t' u h ht ⟨a,b,hr,rfl⟩
 obtain⟨h1,rfl⟩:=dP.mp h
 have:=rF hr
 obtain⟨h2,h3⟩:=vn h1 (by omega) ht hs (Int.le_refl _)
 exact⟨_,h3,dP.mpr ⟨h2,rfl⟩⟩
def jU (shut:List Int) (n:Int):Bool:=decide (n∈shut)
def cT (l:List Eg) (fr now sz:Int) (shut:List Int):List Rd:=if br l fr now sz then dW Rd.node (qk (gX sz) (jU shut) l (l.length+1) [] [⟨fr,now⟩])else[]
theorem mC (l:List Eg) (r:Rd):j7 l [] [r]≤l.length+1:=by
 have:=List.length_filter_le (fun e:Eg=> !i6 [] e.fr) l
 unfold j7
 simp
 omega
theorem un {l:List Eg} {fr now sz:Int} (ha:br l fr now sz) (shut:List Int):IsT (gX sz) (jU shut) l fr now (qk (gX sz) (jU shut) l (l.length+1) [] [⟨fr,now⟩]):=
 pC xt (Aa ha.2.2.1.1 ha.2.1.1) _ _ _ (mC l _) .start
theorem ma (ps:Eg→Int→Option Int) (cl:Int→Bool) (l:List Eg):∀(n:Nat) (out s:List Rd),(qk ps cl l n out s).length≤out.length+n
 |0,out,s=>by rw[qk];omega
 |n+1,out,[]=>by rw[qk];omega
 |n+1,out,r::s=>by
  rw[qk]
  split
  ·have:=ma ps cl l n out s;omega
  ·have:=ma ps cl l n (out++[r]) (cF ps cl (out++[r]) r.at' (bD r.node l) s)
   simp at this
   omega
theorem oz (l:List Eg) (fr now sz:Int) (shut:List Int):(cT l fr now sz shut).length≤l.length+1:=by
 unfold cT
 split
 ·rw[(cd Rd.node _).length_eq]
  have:=ma (gX sz) (jU shut) l (l.length+1) [] [⟨fr,now⟩]
  simpa using this
 ·simp
theorem By (shut:List Int) (hsl:shut.length≤1073741824) (t:Tok) (sz:Nat) (hs:sz=1∨shut=[]) (v0 v1 v2 v3 v4 v10:D):∀(post pre:List Int),shut=pre++post→∀(kv:List (Int×D)),KVC kv (jU pre)→∀(ρ:Nat→D) (st:Store),st.lim≤0→st.boxes 0=some (.map kv)→
  ρ 0=v0→ρ 1=v1→ρ 2=v2→ρ 3=v3→ρ 4=v4→ρ 10=v10→ρ 11=.map 0→ρ 34=.slice t sz (shut.map (D.int .i64))→ρ 35=.int .i64 shut.length→ρ 36=.int .i64 pre.length→∀(Q:X→(Nat→D)→Store→Prop),
  (∀ρ' st' kv',KVC kv' (jU shut)→st'.lim≤0→st'.next=st.next→st'.boxes 0=some (.map kv')→ρ' 0=v0→ρ' 1=v1→ρ' 2=v2→ρ' 3=v3→ρ' 4=v4→ρ' 10=v10→ρ' 11=.map 0→Q (.exit 0) ρ' st')→WC Γ (.loop eq) ρ st Q:=by
 intro post
 induction post with
 |nil=>
  intro pre hpp kv hk ρ st hlim hb h0 h1 h2 h3 h4 h10 h11 h34 h35 h36 Q hQ
  rw[List.append_nil]at hpp
  subst hpp
  rw[←aa h0,←aa h1,←aa h2,←aa h3,←aa h4,←aa h10,←aa h11,←aa h34,←aa h35,←aa h36]
  refine WC_loop ?_
  repeat' (first
 |(refine ai ?_;first
 |refine lF ?_
 |refine WS_nil ?_)
 |refine WC_seq ?_
 |refine WC_opsS ?_
 |refine af rfl ?_
 |refine WC_exit ?_)
  exact hQ _ _ kv hk hlim rfl hb rfl rfl rfl rfl rfl rfl rfl
 |cons x post ih=>
  intro pre hpp kv hk ρ st hlim hb h0 h1 h2 h3 h4 h10 h11 h34 h35 h36 Q hQ
  have hv:shut[pre.length]?=some x:=by rw[hpp];simp
  have hlen:shut.length=pre.length+(post.length+1):=by rw[hpp];simp
  have hz:sz=1:=hs.resolve_right (by rintro rfl;simp at hlen)
  subst hz
  have hpl:pre.length<(shut.map (D.int .i64)).length:=by simp;omega
  have hltl:(pre.length:Int)<shut.length:=by omega
  have hk2:KVC (bM x (.bool true) kv) (jU (pre++[x])):=fun n=>by
   rw[fy]
   by_cases e:n=x
   ·rw[if_pos e];simp[jU,e]
   ·rw[if_neg e,hk n];simp[jU,e]
  have hnext:∀(ρ':Nat→D) (st':Store),st'.lim≤0→st'.next=st.next→st'.boxes 0=some (.map (bM x (.bool true) kv))→ρ' 0=v0→ρ' 1=v1→ρ' 2=v2→ρ' 3=v3→ρ' 4=v4→ρ' 10=v10→ρ' 11=.map 0→ρ' 34=.slice t 1 (shut.map (D.int .i64))→ρ' 35=.int .i64 shut.length→ρ' 36=.int .i64 ((pre.length:Int)+1)→WC Γ (.loop eq) ρ' st' Q:=fun ρ' st' e1 e2 e3 k0 k1 k2 k3 k4 k10 k11 k34 k35 k36=>
   ih (pre++[x]) (by simp[hpp]) _ hk2 ρ' st' e1 e3 k0 k1 k2 k3 k4 k10 k11 k34 k35 (by rw[List.length_append];exact k36) Q (fun ρ'' st'' kv' f0 f1 f2=>hQ ρ'' st'' kv' f0 f1 (f2.trans e2))
  clear ih hQ hpp
  rw[←aa h0,←aa h1,←aa h2,←aa h3,←aa h4,←aa h10,←aa h11,←aa h34,←aa h35,←aa h36]
  refine WC_loop ?_
  repeat' (first
 |(refine ai ?_;first
 |refine iA (pre.length) hpl ?_
 |refine dk (v:=.bool true) rfl rfl rfl hb hlim rfl rfl ?_
 |refine mI ?_
 |refine mM ?_
 |refine lT ?_
 |refine aD ?_
 |refine lE (d:=.int _ _) hv ?_
 |refine WS_nil ?_)
 |refine WC_seq ?_
 |refine WC_opsS ?_
 |refine WC_skip ?_
 |refine ah rfl ?_
 |refine WC_block ?_)
  refine hnext _ _ hlim rfl rfl ?_ ?_ ?_ ?_ ?_ ?_ ?_ ?_ ?_ ?_<;>rfl
set_option maxHeartbeats 8000000 in
theorem uL (l:List Eg) (hll:l.length≤1000) (fr now sz:Int) (shut:List Int) (hsl:shut.length≤1073741824) (t t':Tok) (s s':Nat) (hs:s=8∨l=[]) (hs':s'=1∨shut=[]):
  EvX Γ 21 [.slice t s (l.map Eg.e),.int .i64 fr,.int .i64 now,.int .i64 sz,.slice t' s' (shut.map (D.int .i64))] (zO Rd.e 2 (cT l fr now sz shut)):=by
 refine cn rfl rfl ?_
 have hA:=fun t=>xY l (by omega) fr now sz t s hs
 unfold cT
 by_cases ha:br l fr now sz
 ·rw[decide_eq_true ha]at hA
  rw[if_pos ha]
  have hT:=un ha shut
  repeat' (first
 |(refine ai ?_;first
 |refine lN ?_
 |refine mI ?_
 |refine mS ?_
 |refine mM ?_
 |refine cA rfl (hA _) ?_
 |refine nT ?_
 |refine eu rfl rfl ?_
 |refine WS_nil ?_)
 |refine WC_seq ?_
 |refine WC_opsS ?_
 |refine WC_skip ?_
 |refine af rfl ?_
 |refine WC_block ?_)
  refine By shut hsl t' s' hs' (.slice t s (l.map Eg.e)) (.int .i64 fr) (.int .i64 now) (.int .i64 sz) (.slice t' s' (shut.map (D.int .i64))) (.slice .isnil 0 []) shut [] rfl [] (fun n=>rfl) _ _ (Nat.le_refl _) ?_ ?_ ?_ ?_ ?_ ?_ ?_ ?_ ?_ ?_ ?_ _ (fun ρ' st' kv hk e1 e2 e3 h0 h1 h2 h3 h4 h10 h11=>?_)
  all_goals first|rfl|skip
  obtain⟨bx,nx1,tk,nt,lm,tl⟩:=st'
  have e2':nx1=1:=e2
  subst e2'
  rw[←aa h0,←aa h1,←aa h2,←aa h3,←aa h4,←aa h10,←aa h11]
  have hlm:lm≤0:=e1
  have hbx:bx 0=some (.map kv):=e3
  have hNew:=AT [⟨fr,now⟩] (by simp) .exact 2 (.inl rfl) ⟨ap bx 1 (some (.map [])),2,tk,nt,lm,tl⟩ (by show lm≤2;omega)
  repeat' (first
 |(refine ai ?_;first
 |refine mI ?_
 |refine mM ?_
 |(refine tJ rfl rfl hNew ?_<;>intro r0 st2 hp0)
 |refine bi (cs:=[_,_]) rfl rfl rfl ?_
 |refine bh (ys:=[_]) rfl rfl rfl (by decide) rfl ?_
 |refine eu rfl rfl ?_
 |refine WS_nil ?_)
 |refine WC_seq ?_
 |refine WC_opsS ?_)
  obtain⟨h,o,rfl,q1,q2,H,N⟩:=hp0
  have N1:st2.lim=lm:=N.lim
  have q1':2≤h:=q1
  have hb0:st2.boxes 0=some (.map kv):=(N.box 0 (by show 0<2;omega)).trans hbx
  have hb1:st2.boxes 1=some (.map []):=N.box 1 (by show 1<2;omega)
  repeat' (first
 |(refine ai ?_;first
 |refine mP ?_
 |refine WS_nil ?_)
 |refine WC_seq ?_
 |refine WC_block ?_)
  refine Ay l hll t s hs sz (jU shut) kv hk (l.length+1) [] [⟨fr,now⟩] (mC l _) (by simp;omega) [] (fun n=>⟨0,rfl,rfl⟩) _ st2 h o (.slice .isnil 0 []) (.slice t' s' (shut.map (D.int .i64))) (by rw[N1];exact hlm) q1' q2 H hb0 hb1 (.inl ⟨rfl,rfl⟩) ?_ ?_ ?_ ?_ ?_ ?_ ?_ _ (fun ρ' st3 d' h' o' g1 g2 g3=>?_)
  all_goals first|rfl|skip
  have hlen:=ma (gX sz) (jU shut) l (l.length+1) [] [⟨fr,now⟩]
  generalize qk (gX sz) (jU shut) l (l.length+1) [] [⟨fr,now⟩]=es at*
  rcases g2 with⟨rfl,rfl⟩|⟨q,n,c,_,_,_,rfl,hne,rfl,hR⟩
  ·have hS:EvRW Γ 45 [.slice .isnil 0 [],.func 46 []] st3 (.tuple []) st3:=fQ (F:=gN 2 0 46) rfl rfl
   rw[←aa g3]
   repeat' (first
 |(refine ai ?_;first
 |(refine bQ rfl rfl rfl hS ?_)
 |refine mS ?_
 |refine WS_nil ?_)
 |refine WC_seq ?_
 |refine WC_opsS ?_
 |refine al ?_)
   exact kj (t:=.isnil) (s:=0) rfl (.inr rfl) ⟨.inr rfl,rfl⟩
  ·obtain⟨st4,hS,hR2⟩:=Ap es hT.t2 (by simp at hlen;omega) st3 q c hR
   rw[←aa g3]
   repeat' (first
 |(refine ai ?_;first
 |(refine bQ rfl rfl rfl hS ?_)
 |refine mR ?_
 |refine WS_nil ?_)
 |refine WC_seq ?_
 |refine WC_opsS ?_
 |refine al ?_)
   exact kj (t:=.row) (s:=2) rfl (.inl rfl) (mq (.inr rfl) rfl (by rw[List.length_map,(cd Rd.node es).length_eq]) (by decide) hR2 (fun d hd=>by
    obtain⟨e,_,rfl⟩:=List.mem_map.mp hd
    exact⟨rfl,rfl⟩))
 ·rw[decide_eq_false ha]at hA
  rw[if_neg ha]
  repeat' (first
 |(refine ai ?_;first
 |refine mI ?_
 |refine mS ?_
 |refine cA rfl (hA _) ?_
 |refine nT ?_
 |refine WS_nil ?_)
 |refine WC_seq ?_
 |refine WC_opsS ?_
 |refine ah rfl ?_
 |refine al ?_)
  exact kj (t:=.isnil) (s:=0) rfl (.inr rfl) ⟨.inr rfl,rfl⟩
end Go.Lea
/-
  Plain laws of the earliest times.
-/
namespace Go.Lea
theorem uk {α:Type} [DecidableEq α]:∀{l m:List α},l.Nodup→(∀x∈l,x∈m)→l.length≤m.length
 |[],m,_,_=>Nat.zero_le _
 |x::l,m,hn,hs=>by
  have hn':=List.nodup_cons.mp hn
  have hx:=hs x List.mem_cons_self
  have ih:=uk (l:=l) (m:=m.erase x) hn'.2 (fun y hy=>(List.mem_erase_of_ne (fun e:y=x=>hn'.1 (by rw[←e];exact hy))).mpr (hs y (List.mem_cons_of_mem _ hy)))
  rw[List.length_erase_of_mem hx]at ih
  have:=List.length_pos_of_mem hx
  rw[List.length_cons]
  omega
theorem dL {n u:Int}:∀{L:List Rd},bP n L=some u→⟨n,u⟩∈L
 |[],h=>by cases h
 |r::L,h=>by
  rw[bP]at h
  split at h
  ·rename_i e
   cases h
   obtain⟨a,b⟩:=r
   cases e
   exact List.mem_cons_self
  ·exact List.mem_cons_of_mem _ (dL h)
theorem mF {L:List Rd} (hn:(L.map Rd.node).Nodup) {r:Rd} (hr:r∈L):bP r.node L=some r.at':=by
 induction L with
 |nil=>cases hr
 |cons x L ih=>
  have hn':=List.nodup_cons.mp hn
  rw[bP]
  rcases List.mem_cons.mp hr with rfl|hr
  ·rw[if_pos rfl]
  ·rw[if_neg (fun e:x.node=r.node=>hn'.1 (by rw[e];exact List.mem_map.mpr ⟨r,hr,rfl⟩))]
   exact ih hn'.2 hr
section
variable {ps:Eg→Int→Option Int} {cl:Int→Bool} {l:List Eg} {fr now:Int}
theorem IsT.perm {es es':List Rd} (h:IsT ps cl l fr now es) (hp:es'.Perm es):IsT ps cl l fr now es':=
 ⟨fun x hx=>h.t1 x (hp.mem_iff.mp hx),(hp.map Rd.node).nodup_iff.mpr h.t2,fun n t hr=>by
  obtain⟨y,hy,h1⟩:=h.t3 n t hr
  exact⟨y,hp.mem_iff.mpr hy,h1⟩⟩
theorem IsT.at_ {es:List Rd} (h:IsT ps cl l fr now es) {n t:Int} (hr:Reach ps cl l fr now n t):∃u,bP n es=some u∧u≤t:=by
 obtain⟨y,hy,rfl,h2⟩:=h.t3 n t hr
 exact⟨y.at',mF h.t2 hy,h2⟩
theorem rN {n t m u:Int} (h:Reach ps cl l fr now n t) (h':Reach ps cl l n t m u):Reach ps cl l fr now m u:=by
 induction h' with
 |here=>exact h
 |go _ he hf hp hc ih=>exact .go ih he hf hp hc
theorem wh {n t:Int} (h:Reach ps cl l fr now n t):n=fr∨cl n=false:=by
 cases h with
 |here=>exact .inl rfl
 |go _ _ _ _ hc=>exact .inr hc
end
theorem ii {sz:Int} {cl:Int→Bool} {l:List Eg} {fr now n t:Int} (hf:1≤fr∧fr≤255) (h:Reach (gX sz) cl l fr now n t):1≤n∧n≤255:=by
 cases h with
 |here=>exact hf
 |go _ _ _ hp _=>exact yn (dP.mp hp).1
theorem oy {sz:Int} {cl:Int→Bool} {l:List Eg} {fr now n t:Int} (hf:now≤1099511627776) (h:Reach (gX sz) cl l fr now n t):t≤1099511627776:=by
 cases h with
 |here=>exact hf
 |go _ _ _ hp _=>
  obtain⟨h1,rfl⟩:=dP.mp hp
  have:=xy h1
  omega
theorem gS {l:List Eg} {fr now sz:Int} (ha:br l fr now sz) (shut:List Int):IsT (gX sz) (jU shut) l fr now (cT l fr now sz shut):=by
 unfold cT
 rw[if_pos ha]
 exact(un ha shut).perm (cd Rd.node _)
theorem wK {l:List Eg} {fr now sz:Int} (ha:¬br l fr now sz) (shut:List Int):cT l fr now sz shut=[]:=by
 unfold cT
 rw[if_neg ha]
theorem vg {l:List Eg} {fr now sz:Int} {shut:List Int} {r:Rd} (hr:r∈cT l fr now sz shut):br l fr now sz:=by
 by_cases ha:br l fr now sz
 ·exact ha
 ·rw[wK ha]at hr
  cases hr
theorem y6:∀{L:List Rd},(L.Pairwise fun a b=>a.node≤b.node)→(L.map Rd.node).Nodup→L.Pairwise fun a b=>a.node<b.node
 |[],_,_=>List.Pairwise.nil
 |x::L,h,hn=>by
  have h':=List.pairwise_cons.mp h
  have hn':=List.nodup_cons.mp hn
  refine List.pairwise_cons.mpr ⟨fun y hy=>?_,y6 h'.2 hn'.2⟩
  have h1:=h'.1 y hy
  have h2:x.node≠y.node:=fun e=>hn'.1 (by rw[e];exact List.mem_map.mpr ⟨y,hy,rfl⟩)
  omega
end Go.Lea
