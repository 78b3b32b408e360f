/-
  The table with what goes over maps; the latest times, and with how few hops.
-/
import Derived.Test.YtjcilbnbciclpaaLeaLatP
import Derived.Test.YtjcilbnbciclpaaLeaLatP
import Derived.Test.YtjcilbnbciclpaaLeaLatP
import Derived.Test.YtjcilbnbciclpaaEvEvN
import Derived.Test.YtjcilbnbciclpaaEvEvG
import Derived.Test.YtjcilbnbciclpaaEvEvP1
import Derived.Test.YtjcilbnbciclpaaLeaLatP
import Derived.Test.YtjcilbnbciclpaaLeaEarP
import Derived.Test.YtjcilbnbciclpaaEvEvX11
set_option linter.unusedVariables false
set_option linter.unusedSimpArgs false
set_option linter.unnecessarySimpa false
namespace Go.Lea
open Go.Ev
def Γ2:Nat→Option FD
 |50=>some (.primS mz)
 |79=>some (.primS rW)
 |f=>Γ f
theorem kz:∀f fd,Γ f=some fd→Γ2 f=some fd:=fun f fd h=>by
 unfold Γ2
 split
 ·cases h
 ·cases h
 ·exact h
def uu (l:List Eg) (to by' sz hops:Int) (shut:List Int):List Rd:=aZ to sz shut l (mn hops l.length).toNat [⟨to,by'⟩]
def iJ (l:List Eg) (to by' sz hops:Int) (shut:List Int):List Rd:=if 0≤hops∧br l to by' sz then dW Rd.node (uu l to by' sz hops shut)else[]
theorem rt (l:List Eg) (hll:l.length≤900) (to sz:Int) (shut:List Int) (hsl:shut.length≤1000000) (t t':Tok) (s s':Nat) (hs:s=8∨l=[]) (hs':s'=1∨shut=[]) (M:List Rd) (st:Store) (p:Nat) (hp:p<st.next) (hlp:st.lim≤p) (hbp:st.boxes p=some (.map (bp M))):
  EvRW Γ2 50 [.map p,.slice t s (l.map Eg.e),.int .i64 to,.int .i64 sz,.slice t' s' (shut.map (D.int .i64))] st (.map st.next) {st with boxes:=ap st.boxes st.next (some (.map (bp (dY to sz shut l M)))),next:=st.next+2+l.length}:=by
 refine fQ (F:=mz) rfl ?_
 show mz [.map p,.slice t.strip s (l.map Eg.e),.int .i64 to,.int .i64 sz,.slice t'.strip s' (shut.map (D.int .i64))] st=_
 simp only[mz,hbp,nA,ou,ib]
 rw[if_pos ⟨hs.imp id (by rintro rfl;rfl),hs'.imp id (by rintro rfl;rfl),by omega,by omega,hlp,hp⟩]
theorem yz (M:List Rd) (h0:0<M.length) (hMl:M.length≤1000000) (st:Store) (p:Nat) (hp:p<st.next) (hlp:st.lim≤p) (hbp:st.boxes p=some (.map (bp M))):
  EvRW Γ2 79 [.map p] st (.rs (st.next+M.length) 0 2 M.length M.length) {st with boxes:=ap st.boxes (st.next+M.length) (some (.row (((dW Rd.node M).map Rd.e).flatMap D.cells))),next:=st.next+M.length+1}:=by
 refine fQ (F:=rW) rfl ?_
 show rW [.map p] st=_
 simp only[rW,hbp,nA]
 rw[if_pos ⟨h0,hMl,hlp,hp⟩]
theorem nU (l:List Eg) (hll:l.length≤1073741824) (fr now sz:Int) (t:Tok) (s:Nat) (hs:s=8∨l=[]):EvP Γ 49 [.slice t s (l.map Eg.e),.int .i64 fr,.int .i64 now,.int .i64 sz] (.bool (decide (br l fr now sz))):=by
 refine aA rfl rfl ?_
 by_cases ha:br l fr now sz
 ·have hw:db l [] fr now sz=some []:=by unfold db;rw[if_pos ha];rfl
  have hW:=fun t=>qf l hll [] (by simp) fr now sz [] hw t s hs .isnil 0 (.inr rfl)
  rw[decide_eq_true ha]
  repeat' (first
 |(refine ai ?_;first
 |refine mI ?_
 |refine mB ?_
 |refine mS ?_
 |refine mT ?_
 |(refine fw rfl rfl rfl (hW _) rfl ?_;intro tm sm hsm tk2 nt2)
 |refine eB ?_
 |refine eS ?_
 |refine WS_nil ?_)
 |refine WC_seq ?_
 |refine WC_opsS ?_
 |refine al ?_)
  exact aK (.inr rfl) rfl rfl
 ·have hw:db l [] fr now sz=none:=by unfold db;rw[if_neg ha]
  have hW:=fun t=>pg l hll [] (by simp) fr now sz hw t s hs .isnil 0 (.inr rfl)
  rw[decide_eq_false ha]
  repeat' (first
 |(refine ai ?_;first
 |refine mI ?_
 |refine mB ?_
 |refine mS ?_
 |refine mT ?_
 |refine cA rfl (hW _) ?_
 |refine eB ?_
 |refine eS ?_
 |refine WS_nil ?_)
 |refine WC_seq ?_
 |refine WC_opsS ?_
 |refine al ?_)
  exact aK (.inr rfl) rfl rfl
theorem ol (l:List Eg) (to by' sz hops:Int) (shut:List Int):(iJ l to by' sz hops shut).length≤1+l.length*l.length:=by
 unfold iJ uu
 split
 ·rw[(cd Rd.node _).length_eq]
  have h1:=qu (to:=to) (sz:=sz) (shut:=shut) (l:=l) (mn hops l.length).toNat [⟨to,by'⟩]
  have h2:=(oj (a:=hops) (b:=l.length)).2
  have h3:(mn hops l.length).toNat*l.length≤l.length*l.length:=Nat.mul_le_mul_right _ (by omega)
  simp at h1
  omega
 ·simp
theorem yT {n:Nat} (h:n≤900):n*n≤810000:=Nat.mul_le_mul h h
theorem ym (l:List Eg) (hll:l.length≤900) (to sz:Int) (shut:List Int) (hsl:shut.length≤1000000) (t t':Tok) (s s':Nat) (hs:s=8∨l=[]) (hs':s'=1∨shut=[]) (n:Nat) (hn:n≤900):∀(m k:Nat),n=k+m→∀(M:List Rd) (ρ:Nat→D) (st:Store) (p:Nat),p<st.next→st.lim≤p→st.boxes p=some (.map (bp M))→
  ρ 0=.slice t s (l.map Eg.e)→ρ 1=.int .i64 to→ρ 3=.int .i64 sz→ρ 5=.slice t' s' (shut.map (D.int .i64))→ρ 13=.map p→ρ 31=.int .i64 n→ρ 32=.int .i64 k→∀(Q:X→(Nat→D)→Store→Prop),
  (∀ρ' st' p',p'<st'.next→st'.lim≤p'→st'.boxes p'=some (.map (bp (aZ to sz shut l m M)))→ρ' 13=.map p'→Q (.exit 0) ρ' st')→WC Γ2 (.loop iI) ρ st Q:=by
 intro m
 induction m with
 |zero=>
  intro k hk M ρ st p hp hlp hbp h0 h1 h3 h5 h13 h31 h32 Q hQ
  have hk':n=k:=hk
  subst hk'
  rw[←aa h0,←aa h1,←aa h3,←aa h5,←aa h13,←aa h31,←aa h32]
  refine WC_loop ?_
  repeat' (first
 |(refine ai ?_;first
 |refine lF ?_
 |refine WS_nil ?_)
 |refine WC_seq ?_
 |refine WC_opsS ?_
 |refine af rfl ?_
 |refine WC_exit ?_)
  exact hQ _ _ p hp hlp hbp rfl
 |succ m ih=>
  intro k hk M ρ st p hp hlp hbp h0 h1 h3 h5 h13 h31 h32 Q hQ
  have hlt:(k:Int)<n:=by omega
  have hS:=fun t t'=>rt l hll to sz shut hsl t t' s s' hs hs' M st p hp hlp hbp
  have hnext:=ih (k+1) (by omega) (dY to sz shut l M)
  clear ih
  rw[←aa h0,←aa h1,←aa h3,←aa h5,←aa h13,←aa h31,←aa h32]
  refine WC_loop ?_
  repeat' (first
 |(refine ai ?_;first
 |(refine bQ rfl rfl rfl (hS _ _) ?_)
 |refine mI ?_
 |refine mS ?_
 |refine mM ?_
 |refine lT ?_
 |refine aD ?_
 |refine WS_nil ?_)
 |refine WC_seq ?_
 |refine WC_opsS ?_
 |refine WC_skip ?_
 |refine ah rfl ?_
 |refine WC_block ?_)
  refine hnext _ _ st.next ?_ ?_ ?_ ?_ ?_ ?_ ?_ ?_ ?_ ?_ Q hQ
  ·show st.next<st.next+2+l.length
   omega
  ·show st.lim≤st.next
   omega
  ·exact ae _ _ _
  all_goals rfl
set_option maxHeartbeats 4000000 in
theorem xJ (l:List Eg) (hll:l.length≤900) (to by' sz hops:Int) (shut:List Int) (hsl:shut.length≤1000000) (t t':Tok) (s s':Nat) (hs:s=8∨l=[]) (hs':s'=1∨shut=[]):
  EvX Γ2 58 [.slice t s (l.map Eg.e),.int .i64 to,.int .i64 by',.int .i64 sz,.int .i64 hops,.slice t' s' (shut.map (D.int .i64))] (zO Rd.e 2 (iJ l to by' sz hops shut)):=by
 refine cn rfl rfl ?_
 have hA:=fun t=>(nU l (by omega) to by' sz t s hs).grow kz
 have hlen:=ol l to by' sz hops shut
 have hsq:=yT hll
 unfold iJ at hlen ⊢
 by_cases h0:0≤hops
 ·by_cases ha:br l to by' sz
  ·rw[decide_eq_true ha]at hA
   rw[if_pos ⟨h0,ha⟩]at hlen ⊢
   unfold uu at hlen ⊢
   have hm1:=oj (a:=hops) (b:=l.length)
   have hm2:0≤mn hops l.length:=uF.2 ⟨h0,by omega⟩
   obtain⟨n,hn⟩:=Int.eq_ofNat_of_zero_le hm2
   rw[hn]at hlen ⊢
   have hn9:n≤900:=by omega
   repeat' (first
 |(refine ai ?_;first
 |refine lN ?_
 |refine Bb rfl rfl rfl rfl hn ?_
 |refine eu rfl rfl ?_
 |refine dk (v:=.int .i64 by') rfl rfl rfl rfl (Nat.le_refl _) rfl rfl ?_
 |refine mI ?_
 |refine mB ?_
 |refine mS ?_
 |refine mM ?_
 |refine lF ?_
 |refine cA rfl (hA _) ?_
 |refine pB ?_
 |refine nT ?_
 |refine WS_nil ?_)
 |refine WC_seq ?_
 |refine WC_opsS ?_
 |refine WC_skip ?_
 |refine af rfl ?_
 |refine WC_block ?_)
   refine ym l hll to sz shut hsl t t' s s' hs hs' n hn9 n 0 (by omega) [⟨to,by'⟩] _ _ 0 ?_ ?_ ?_ ?_ ?_ ?_ ?_ ?_ ?_ ?_ _ (fun ρ' st' p' g1 g2 g3 h13=>?_)
   ·exact Nat.zero_lt_one
   ·exact Nat.le_refl _
   ·rfl
   all_goals first|rfl|skip
   have hto:=p7 (to:=to) (sz:=sz) (shut:=shut) (l:=l) (by':=by') n
   simp only[Int.toNat_natCast,Int.ofNat_eq_natCast]at hlen ⊢
   generalize aZ to sz shut l n [⟨to,by'⟩]=es at*
   have hpos:0<es.length:=by
    rcases es with _|⟨e,es⟩
    ·cases hto
    ·simp
   have hpl:=(cd Rd.node es).length_eq
   have hR:=yz es hpos (by omega) st' p' g1 g2 g3
   rw[←aa h13]
   repeat' (first
 |(refine ai ?_;first
 |(refine bQ rfl rfl rfl hR ?_)
 |refine mR ?_
 |refine mM ?_
 |refine WS_nil ?_)
 |refine WC_seq ?_
 |refine WC_opsS ?_
 |refine al ?_)
   refine kj (t:=.row) (s:=2) rfl (.inl rfl) (mq (.inr rfl) rfl (by rw[List.length_map,hpl]) (by decide) (xs:=(dW Rd.node es).map Rd.e) ⟨?_,?_,_,ae _ _ _,?_,?_,?_⟩ (fun d hd=>by
    obtain⟨e,_,rfl⟩:=List.mem_map.mp hd
    exact⟨rfl,rfl⟩))
   ·show st'.lim≤st'.next+es.length
    omega
   ·show st'.next+es.length<st'.next+es.length+1
    omega
   ·show _≤(cellsOf _).length
    rw[fz]
    simp
   ·show (cellsOf _).take _=cellsOf _
    rw[List.take_of_length_le (by rw[fz];simp)]
   ·rw[List.all_eq_true]
    intro d hd
    obtain⟨x,hx,hd⟩:=List.mem_flatMap.1 hd
    obtain⟨r,_,rfl⟩:=List.mem_map.1 hx
    simp[Rd.e,D.cells]at hd
    rcases hd with rfl|rfl<;>rfl
  ·rw[decide_eq_false ha]at hA
   rw[if_neg (fun h=>ha h.2)]
   repeat' (first
 |(refine ai ?_;first
 |refine mI ?_
 |refine mB ?_
 |refine mS ?_
 |refine lF ?_
 |refine cA rfl (hA _) ?_
 |refine pB ?_
 |refine nT ?_
 |refine WS_nil ?_)
 |refine WC_seq ?_
 |refine WC_opsS ?_
 |refine ah rfl ?_
 |refine al ?_)
   exact kj (t:=.isnil) (s:=0) rfl (.inr rfl) ⟨.inr rfl,rfl⟩
 ·rw[if_neg (fun h=>h0 h.1)]
  repeat' (first
 |(refine ai ?_;first
 |refine aj rfl ?_
 |refine mI ?_
 |refine mB ?_
 |refine mS ?_
 |refine lT ?_
 |refine aj rfl ?_
 |refine pB ?_
 |refine aj rfl ?_
 |refine WS_nil ?_)
 |refine WC_seq ?_
 |refine WC_opsS ?_
 |refine ah rfl ?_
 |refine al ?_)
  exact kj (t:=.isnil) (s:=0) rfl (.inr rfl) ⟨.inr rfl,rfl⟩
end Go.Lea
/-
  The code of late, as the evaluator has it, is the program's; what goes over maps is known to hold.
-/
namespace Go.Lea
open Go.Ev
theorem vM {ds:List D} {st st':Store} {r:D} (h:mz ds st=some (r,st')):∃p t s to sz t' s' M l shut,ds=[.map p,.slice t s (l.map Eg.e),.int .i64 to,.int .i64 sz,.slice t' s' (shut.map (D.int .i64))]∧st.boxes p=some (.map (bp M))∧(s=8∨l=[])∧(s'=1∨shut=[])∧l.length≤1000000∧shut.length≤1000000∧st.lim≤p∧p<st.next∧r=.map st.next∧st'={st with boxes:=ap st.boxes st.next (some (.map (bp (dY to sz shut l M)))),next:=st.next+2+l.length}:=by
 unfold mz at h
 split at h
 ·rename_i p t s xs to sz t' s' ys
  split at h
  ·rename_i kv hb
   split at h
   ·rename_i M l shut h1 h2 h3
    split at h
    ·rename_i hc
     obtain⟨c1,c2,c3,c4,c5,c6⟩:=hc
     cases h
     have e1:=lg h1
     have e2:=oV h2
     have e3:=nc h3
     subst e1 e2 e3
     exact⟨p,t,s,to,sz,t',s',M,l,shut,rfl,hb,c1.imp id (fun h=>by simpa using h),c2.imp id (fun h=>by simpa using h),c3,c4,c5,c6,rfl,rfl⟩
    ·cases h
   ·cases h
  ·cases h
 ·cases h
theorem w3 {ds:List D} {st st':Store} {r:D} (h:rW ds st=some (r,st')):∃p M,ds=[.map p]∧st.boxes p=some (.map (bp M))∧0<M.length∧M.length≤1000000∧st.lim≤p∧p<st.next∧r=.rs (st.next+M.length) 0 2 M.length M.length∧st'={st with boxes:=ap st.boxes (st.next+M.length) (some (.row (((dW Rd.node M).map Rd.e).flatMap D.cells))),next:=st.next+M.length+1}:=by
 unfold rW at h
 split at h
 ·rename_i p
  split at h
  ·rename_i kv hb
   split at h
   ·rename_i M h1
    split at h
    ·rename_i hc
     obtain⟨c1,c2,c3,c4⟩:=hc
     cases h
     have e1:=lg h1
     subst e1
     exact⟨p,M,rfl,hb,c1,c2,c3,c4,rfl,rfl⟩
    ·cases h
   ·cases h
  ·cases h
 ·cases h
end Go.Lea
namespace Go.Proofs.Ytjcilbnbciclpaa
open Go.ChangeShapes Go.WideShapes Go.ChangeAt Go.RowKit Go.Ev Go.Lea
theorem Try.own:ownKnob Try.prog.godebug=none:=by kernel_rfl
theorem Try.laidOut:laidOutB Try.prog=true:=by kernel_rfl
theorem Try.clone_ntmps:Try.f55.ntmps=8:=rfl
set_option maxRecDepth 1000000 in
set_option maxHeartbeats 2000000 in
theorem u3 (w:World) (cap:Nat):Calls Try.prog 55 #[.slice none 0 cap] w fun e w'=>e=.returned (.slice none 0 0)∧w'=w:=by
 have q:∀(w:World) (a:Option Addr) (n c n2 c2:Nat),(binOp .eql 22 (.slice a n c) (.slice none n2 c2)).run Try.prog w=.ok (.bool a.isNone) w:=fun w a n c n2 c2=>Lib.run_eql_slice_nil w _ _ a n c n2 c2 Try.underlying22
 go_enter Try.func55,Try.clone_ntmps
 go_wp2
 go_ret
 exact⟨rfl,rfl⟩
theorem qB:PrimOK Try.prog 55 (iV 8 64):=tu Try.mixed (by kernel_rfl) (by decide) u3
namespace Base
theorem oh:aC Try.prog 13 er.ro er.mv=some er:=by kernel_rfl
theorem jJ:aC Try.prog 30 b7.ro b7.mv=some b7:=by kernel_rfl
theorem jr:aC Try.prog 24 bU.ro bU.mv=some bU:=by kernel_rfl
theorem kg:aC Try.prog 51 cw.ro cw.mv=some cw:=by kernel_rfl
theorem gv:aC Try.prog 11 bv.ro bv.mv=some bv:=by kernel_rfl
theorem pW:aC Try.prog 25 fm.ro fm.mv=some fm:=by kernel_rfl
theorem mD:aC Try.prog 52 dM.ro dM.mv=some dM:=by kernel_rfl
theorem jI:aC Try.prog 28 b8.ro b8.mv=some b8:=by kernel_rfl
theorem pR:aC Try.prog 22 fp.ro fp.mv=some fp:=by kernel_rfl
theorem qK:aC Try.prog 16 gp.ro gp.mv=some gp:=by kernel_rfl
theorem tE:aC Try.prog 17 ia.ro ia.mv=some ia:=by kernel_rfl
theorem qm:aC Try.prog 18 ga.ro ga.mv=some ga:=by kernel_rfl
theorem kr:aC Try.prog 34 cx.ro cx.mv=some cx:=by kernel_rfl
theorem lW:aC Try.prog 19 du.ro du.mv=some du:=by kernel_rfl
theorem iY:aC Try.prog 37 bX.ro bX.mv=some bX:=by kernel_rfl
theorem gu:aC Try.prog 54 bw.ro bw.mv=some bw:=by kernel_rfl
theorem gB:aC Try.prog 78 bB.ro bB.mv=some bB:=by kernel_rfl
theorem pc:aC Try.prog 47 fg.ro fg.mv=some fg:=by kernel_rfl
theorem pY:aC Try.prog 58 eZ.ro eZ.mv=some eZ:=by kernel_rfl
theorem oa:aC Try.prog 23 ew.ro ew.mv=some ew:=by kernel_rfl
theorem pA:aC Try.prog 49 fu.ro fu.mv=some fu:=by kernel_rfl
theorem ke:aC Try.prog 76 cu.ro cu.mv=some cu:=by kernel_rfl
theorem ky:aC Try.prog 101 cp.ro cp.mv=some cp:=by kernel_rfl
theorem iN:aC Try.prog 53 bK.ro bK.mv=some bK:=by kernel_rfl
theorem kw:aC Try.prog 77 cr.ro cr.mv=some cr:=by kernel_rfl
theorem py:aC Try.prog 75 eY.ro eY.mv=some eY:=by kernel_rfl
theorem sg:aC Try.prog 20 hJ.ro hJ.mv=some hJ:=by kernel_rfl
theorem og:aC Try.prog 21 eC.ro eC.mv=some eC:=by kernel_rfl
theorem nZ:aC Try.prog 38 et.ro et.mv=some et:=by kernel_rfl
theorem l7:aC Try.prog 46 dp.ro dp.mv=some dp:=by kernel_rfl
theorem rU:aC Try.prog 48 gl.ro gl.mv=some gl:=by kernel_rfl
theorem pd:aC Try.prog 33 fk.ro fk.mv=some fk:=by kernel_rfl
theorem pu:aC Try.prog 32 fh.ro fh.mv=some fh:=by kernel_rfl
theorem pK:aC Try.prog 64 fq.ro fq.mv=some fq:=by kernel_rfl
theorem tr:aC Try.prog 43 iy.ro iy.mv=some iy:=by kernel_rfl
theorem qO:aC Try.prog 69 fZ.ro fZ.mv=some fZ:=by kernel_rfl
theorem rH:aC Try.prog 70 gq.ro gq.mv=some gq:=by kernel_rfl
theorem ry:aC Try.prog 89 gf.ro gf.mv=some gf:=by kernel_rfl
theorem mQ:aC Try.prog 63 dI.ro dI.mv=some dI:=by kernel_rfl
theorem wA:aC Try.prog 74 kB.ro kB.mv=some kB:=by kernel_rfl
theorem sK:aC Try.prog 90 iE.ro iE.mv=some iE:=by kernel_rfl
theorem rG:aC Try.prog 42 gm.ro gm.mv=some gm:=by kernel_rfl
theorem lY:aC Try.prog 65 dq.ro dq.mv=some dq:=by kernel_rfl
theorem tt:aC Try.prog 39 hZ.ro hZ.mv=some hZ:=by kernel_rfl
theorem lI:aC Try.prog 44 ca.ro ca.mv=some ca:=by kernel_rfl
theorem lX:aC Try.prog 41 bO.ro bO.mv=some bO:=by kernel_rfl
theorem ln:aC Try.prog 66 bt.ro bt.mv=some bt:=by kernel_rfl
theorem l9:aC Try.prog 40 dw.ro dw.mv=some dw:=by kernel_rfl
theorem kR:aC Try.prog 71 cO.ro cO.mv=some cO:=by kernel_rfl
theorem lw:aC Try.prog 67 da.ro da.mv=some da:=by kernel_rfl
theorem lq:aC Try.prog 68 c8.ro c8.mv=some c8:=by kernel_rfl
theorem pM:aC Try.prog 35 ft.ro ft.mv=some ft:=by kernel_rfl
theorem kM:aC Try.prog 36 cL.ro cL.mv=some cL:=by kernel_rfl
theorem known:Known Try.prog Γ:=by
 intro f fd h
 unfold Γ at h
 split at h
 ·cases h;exact oh
 ·cases h;exact jJ
 ·cases h;exact jr
 ·cases h;exact kg
 ·cases h;exact gv
 ·cases h;exact pW
 ·cases h;exact mD
 ·cases h;exact jI
 ·cases h;exact pR
 ·cases h;exact qK
 ·cases h;exact tE
 ·cases h;exact qm
 ·cases h;exact kr
 ·cases h;exact lW
 ·cases h;exact iY
 ·cases h;exact gu
 ·cases h;exact gB
 ·cases h;exact pc
 ·cases h;exact pY
 ·cases h;exact oa
 ·cases h;exact pA
 ·cases h;exact ke
 ·cases h;exact ky
 ·cases h;exact iN
 ·cases h;exact kw
 ·cases h;exact py
 ·cases h;exact sg
 ·cases h;exact og
 ·cases h;exact nZ
 ·cases h;exact l7
 ·cases h;exact rU
 ·cases h;exact pd
 ·cases h;exact pu
 ·cases h;exact pK
 ·cases h;exact tr
 ·cases h;exact qO
 ·cases h;exact rH
 ·cases h;exact ry
 ·cases h;exact mQ
 ·cases h;exact wA
 ·cases h;exact sK
 ·cases h;exact rG
 ·cases h;exact lY
 ·cases h;exact tt
 ·cases h;exact lI
 ·cases h;exact lX
 ·cases h;exact ln
 ·cases h;exact l9
 ·cases h;exact kR
 ·cases h;exact lw
 ·cases h;exact lq
 ·cases h;exact pM
 ·cases h;exact kM
 ·cases h;exact sort_known
 ·cases h;exact qB
 ·cases h
end Base
theorem yN:aC Try.prog 50 bW.ro bW.mv=some bW:=by kernel_rfl
theorem Ak:aC Try.prog 79 cm.ro cm.mv=some cm:=by kernel_rfl
theorem s7:PrimSOK Try.prog 50 mz:=by
 refine Sm.primS_of ⟨Base.known,Try.mixed⟩ yN (fun ds st r st' hno h=>?_)
 obtain⟨p,t,s,to,sz,t',s',M,l,shut,rfl,hb,hs,hs',hll,hsl,hlp,hp,rfl,rfl⟩:=vM h
 refine⟨p,bp M,hb,(ab _ _ (Nat.ne_of_lt hp)).trans hb,fun hn es cl=>?_⟩
 rw[fx]at hn
 refine(zh l hll to sz shut hsl t t' s s' hs hs' M hn st p hp hlp hb hno es cl).mono (fun x ρ1 s1 hq=>?_)
 obtain⟨q1,q2,kv',q3,q4,q5,q6,q7,q8,q9,q10,q11⟩:=hq
 refine⟨q1,q2,.inr q6,q8.symm,q9.symm,q7.symm,q11.symm,q10.symm,fun i x hi hx=>?_,fun i hi hip=>?_⟩
 ·by_cases e:i=st.next
  ·subst e
   have hx:ap st.boxes st.next _ st.next=some x:=hx
   rw[ae]at hx
   cases hx
   exact .inr ⟨kv',_,rfl,q4,q3⟩
  ·have hx:ap st.boxes st.next _ i=some x:=hx
   rw[ab _ _ e]at hx
   have hlt:i<st.next:=by
    rcases Nat.lt_or_ge i st.next with h|h
    ·exact h
    ·rw[hno i h]at hx;cases hx
   exact .inl ((q5 i hlt hi).trans hx)
 ·have:i<st.next:=by omega
  rw[q5 i this hip]
  exact ab _ _ (by omega)
theorem vd:PrimSOK Try.prog 79 rW:=by
 refine Sm.primS_of ⟨yg,Try.mixed⟩ Ak (fun ds st r st' hno h=>?_)
 obtain⟨p,M,rfl,hb,h0,hMl,hlp,hp,rfl,rfl⟩:=w3 h
 refine⟨p,bp M,hb,(ab _ _ (by omega)).trans hb,fun hn es cl=>?_⟩
 rw[fx]at hn
 refine(AL M hn h0 hMl st p hp hlp hb es cl).mono (fun x ρ1 s1 hq=>?_)
 obtain⟨q1,q2,q4,q5,q6,q7,q8,q9,q10,q11⟩:=hq
 refine⟨q1,q2,.inl q6,q8.symm,q9.symm,q7.symm,q11.symm,q10.symm,fun i x hi hx=>?_,fun i hi hip=>?_⟩
 ·by_cases e:i=st.next+M.length
  ·subst e
   have hx:ap st.boxes (st.next+M.length) _ (st.next+M.length)=some x:=hx
   rw[ae]at hx
   cases hx
   exact .inl q4
  ·have hx:ap st.boxes (st.next+M.length) _ i=some x:=hx
   rw[ab _ _ e]at hx
   have hlt:i<st.next:=by
    rcases Nat.lt_or_ge i st.next with h|h
    ·exact h
    ·rw[hno i h]at hx;cases hx
   exact .inl ((q5 i hlt hi).trans hx)
 ·have:i<st.next:=by omega
  rw[q5 i this hip]
  exact ab _ _ (by omega)
theorem known:Known Try.prog Γ2:=by
 intro f fd h
 unfold Γ2 at h
 split at h
 ·cases h;exact s7
 ·cases h;exact vd
 ·exact Base.known f fd h
end Go.Proofs.Ytjcilbnbciclpaa
/-
  With how few hops.
-/
namespace Go.Lea
open Go.Ev
def fV (fr now:Int) (M:List Rd):Bool:=match bP fr M with
 |some a=>decide (now≤a)
 |none=>false
def nI (to sz:Int) (shut:List Int) (l:List Eg) (fr now:Int):Nat→Nat→List Rd→Option Nat
 |0,_,_=>none
 |m+1,k,M=>if fV fr now M then some k else nI to sz shut l fr now m (k+1) (dY to sz shut l M)
def nN (l:List Eg) (fr to now by' sz:Int) (shut:List Int):Option Nat:=if br l fr now sz∧br l to by' sz then nI to sz shut l fr now (l.length+1) 0 [⟨to,by'⟩]else none
def Bt:Option Nat→D
 |some h=>.tuple [.int .i64 h,.bool true]
 |none=>.tuple [.int .i64 0,.bool false]
set_option maxHeartbeats 2000000 in
theorem Bc (l:List Eg) (hll:l.length≤900) (fr to now sz:Int) (shut:List Int) (hsl:shut.length≤1000000) (t t':Tok) (s s':Nat) (hs:s=8∨l=[]) (hs':s'=1∨shut=[]) (n:Nat) (hn:n≤901):∀(m k:Nat),n=k+m→∀(M:List Rd) (ρ:Nat→D) (st:Store) (p:Nat),p<st.next→st.lim≤p→st.boxes p=some (.map (bp M))→
  ρ 0=.slice t s (l.map Eg.e)→ρ 1=.int .i64 fr→ρ 2=.int .i64 to→ρ 3=.int .i64 now→ρ 5=.int .i64 sz→ρ 6=.slice t' s' (shut.map (D.int .i64))→ρ 16=.map p→ρ 40=.int .i64 n→ρ 41=.int .i64 k→∀(Q:X→(Nat→D)→Store→Prop),
  (nI to sz shut l fr now m k M=none→∀ρ' st',Q (.exit 0) ρ' st')→(∀h,nI to sz shut l fr now m k M=some h→∀ρ' st',ρ' 14=.int .i64 h→ρ' 15=.bool true→Q .ret ρ' st')→WC Γ2 (.loop eb) ρ st Q:=by
 intro m
 induction m with
 |zero=>
  intro k hk M ρ st p hp hlp hbp h0 h1 h2 h3 h5 h6 h16 h40 h41 Q hQ hQ2
  have hk':n=k:=hk
  subst hk'
  rw[←aa h0,←aa h1,←aa h2,←aa h3,←aa h5,←aa h6,←aa h16,←aa h40,←aa h41]
  refine WC_loop ?_
  repeat' (first
 |(refine ai ?_;first
 |refine lF ?_
 |refine WS_nil ?_)
 |refine WC_seq ?_
 |refine WC_opsS ?_
 |refine af rfl ?_
 |refine WC_exit ?_)
  exact hQ rfl _ _
 |succ m ih=>
  intro k hk M ρ st p hp hlp hbp h0 h1 h2 h3 h5 h6 h16 h40 h41 Q hQ hQ2
  have hlt:(k:Int)<n:=by omega
  have hS:=fun t t'=>rt l hll to sz shut hsl t t' s s' hs hs' M st p hp hlp hbp
  have hnext:=ih (k+1) (by omega) (dY to sz shut l M)
  clear ih
  have hu:nI to sz shut l fr now (m+1) k M=if fV fr now M then some k else nI to sz shut l fr now m (k+1) (dY to sz shut l M):=rfl
  rw[hu]at hQ hQ2
  clear hu
  rw[←aa h0,←aa h1,←aa h2,←aa h3,←aa h5,←aa h6,←aa h16,←aa h40,←aa h41]
  refine WC_loop ?_
  have hgo:fV fr now M=false→∀ρ':Nat→D,ρ' 0=.slice t s (l.map Eg.e)→ρ' 1=.int .i64 fr→ρ' 2=.int .i64 to→ρ' 3=.int .i64 now→ρ' 5=.int .i64 sz→ρ' 6=.slice t' s' (shut.map (D.int .i64))→ρ' 16=.map st.next→ρ' 40=.int .i64 n→ρ' 41=.int .i64 ((k:Int)+1)→WC Γ2 (.loop eb) ρ' {st with boxes:=ap st.boxes st.next (some (.map (bp (dY to sz shut l M)))),next:=st.next+2+l.length} Q:=fun hb ρ' k0 k1 k2 k3 k5 k6 k16 k40 k41=>by
   rw[hb]at hQ hQ2
   exact hnext ρ' _ st.next (by show st.next<st.next+2+l.length;omega) (by show st.lim≤st.next;omega) (ae _ _ _) k0 k1 k2 k3 k5 k6 k16 k40 k41 Q hQ hQ2
  cases ha:bP fr M with
  |none=>
   have hg1:(aL fr (bp M)).getD (.int .i64 0)=.int .i64 0:=by rw[fO,ha];rfl
   have hg2:(aL fr (bp M)).isSome=false:=by rw[fO,ha];rfl
   have hb:fV fr now M=false:=by unfold fV;rw[ha]
   have hgo:=hgo hb
   clear hnext hQ hQ2
   repeat' (first
 |(refine ai ?_;first
 |refine aP rfl rfl rfl hbp hg1 hg2 rfl ?_
 |(refine bQ rfl rfl rfl (hS _ _) ?_)
 |refine aj rfl ?_
 |refine mI ?_
 |refine mB ?_
 |refine mS ?_
 |refine mT ?_
 |refine mM ?_
 |refine aj rfl ?_
 |refine lT ?_
 |refine aD ?_
 |refine pB ?_
 |refine eI ?_
 |refine eB ?_
 |refine WS_nil ?_)
 |refine WC_seq ?_
 |refine WC_opsS ?_
 |refine WC_skip ?_
 |refine ah rfl ?_
 |refine af rfl ?_
 |refine WC_block ?_)
   refine hgo _ ?_ ?_ ?_ ?_ ?_ ?_ ?_ ?_ ?_<;>rfl
  |some a=>
   have hg1:(aL fr (bp M)).getD (.int .i64 0)=.int .i64 a:=by rw[fO,ha];rfl
   have hg2:(aL fr (bp M)).isSome=true:=by rw[fO,ha];rfl
   by_cases hle:now≤a
   ·have hb:fV fr now M=true:=by unfold fV;rw[ha];exact decide_eq_true hle
    rw[hb]at hQ2
    have hQ2:=hQ2 k rfl
    clear hnext hQ hgo
    repeat' (first
 |(refine ai ?_;first
 |refine aP rfl rfl rfl hbp hg1 hg2 rfl ?_
 |refine mI ?_
 |refine mB ?_
 |refine mT ?_
 |refine mM ?_
 |refine lT ?_
 |refine pV rfl rfl rfl rfl (by omega) ?_
 |refine pB ?_
 |refine eI ?_
 |refine eB ?_
 |refine WS_nil ?_)
 |refine WC_seq ?_
 |refine WC_opsS ?_
 |refine WC_skip ?_
 |refine ah rfl ?_
 |refine WC_block ?_
 |refine al ?_)
    exact hQ2 _ _ rfl rfl
   ·have hb:fV fr now M=false:=by unfold fV;rw[ha];exact decide_eq_false hle
    have hgo:=hgo hb
    clear hnext hQ hQ2
    repeat' (first
 |(refine ai ?_;first
 |refine aP rfl rfl rfl hbp hg1 hg2 rfl ?_
 |(refine bQ rfl rfl rfl (hS _ _) ?_)
 |refine mI ?_
 |refine mB ?_
 |refine mS ?_
 |refine mT ?_
 |refine mM ?_
 |refine lT ?_
 |refine xe rfl rfl rfl rfl (by omega) ?_
 |refine aD ?_
 |refine pB ?_
 |refine eI ?_
 |refine eB ?_
 |refine WS_nil ?_)
 |refine WC_seq ?_
 |refine WC_opsS ?_
 |refine WC_skip ?_
 |refine ah rfl ?_
 |refine af rfl ?_
 |refine WC_block ?_)
    refine hgo _ ?_ ?_ ?_ ?_ ?_ ?_ ?_ ?_ ?_<;>rfl
set_option maxHeartbeats 4000000 in
theorem wj (l:List Eg) (hll:l.length≤900) (fr to now by' sz:Int) (shut:List Int) (hsl:shut.length≤1000000) (t t':Tok) (s s':Nat) (hs:s=8∨l=[]) (hs':s'=1∨shut=[]):
  EvP Γ2 23 [.slice t s (l.map Eg.e),.int .i64 fr,.int .i64 to,.int .i64 now,.int .i64 by',.int .i64 sz,.slice t' s' (shut.map (D.int .i64))] (Bt (nN l fr to now by' sz shut)):=by
 refine aA rfl rfl ?_
 have hA:=fun t=>(nU l (by omega) fr now sz t s hs).grow kz
 have hB:=fun t=>(nU l (by omega) to by' sz t s hs).grow kz
 unfold nN
 by_cases ha:br l fr now sz
 ·rw[decide_eq_true ha]at hA
  by_cases hb:br l to by' sz
  ·rw[decide_eq_true hb]at hB
   rw[if_pos ⟨ha,hb⟩]
   repeat' (first
 |(refine ai ?_;first
 |refine lN ?_
 |refine eu rfl rfl ?_
 |refine dk (v:=.int .i64 by') rfl rfl rfl rfl (Nat.le_refl _) rfl rfl ?_
 |refine mI ?_
 |refine mB ?_
 |refine mS ?_
 |refine mM ?_
 |refine aD ?_
 |refine cA rfl (hA _) ?_
 |refine cA rfl (hB _) ?_
 |refine pB ?_
 |refine nT ?_
 |refine WS_nil ?_)
 |refine WC_seq ?_
 |refine WC_opsS ?_
 |refine WC_skip ?_
 |refine af rfl ?_
 |refine WC_block ?_)
   refine Bc l hll fr to now sz shut hsl t t' s s' hs hs' (l.length+1) (by omega) (l.length+1) 0 (by omega) [⟨to,by'⟩] _ _ 0 ?_ ?_ ?_ ?_ ?_ ?_ ?_ ?_ ?_ ?_ ?_ ?_ _ (fun hf ρ' st'=>?_) (fun h hf ρ' st' h14 h15=>?_)
   ·exact Nat.zero_lt_one
   ·exact Nat.le_refl _
   ·rfl
   all_goals first|rfl|skip
   ·rw[hf]
    repeat' (first
 |(refine ai ?_;first
 |refine mI ?_
 |refine mB ?_
 |refine WS_nil ?_)
 |refine WC_seq ?_
 |refine WC_opsS ?_
 |refine al ?_)
    exact be (r':=.tuple [.int _ _,.bool _]) (.inr rfl) rfl rfl rfl
   ·rw[hf,←aa h14,←aa h15]
    exact be (r':=.tuple [.int _ _,.bool _]) (.inr rfl) rfl rfl rfl
  ·rw[decide_eq_false hb]at hB
   rw[if_neg (fun h=>hb h.2)]
   repeat' (first
 |(refine ai ?_;first
 |refine mI ?_
 |refine mB ?_
 |refine mS ?_
 |refine cA rfl (hA _) ?_
 |refine cA rfl (hB _) ?_
 |refine pB ?_
 |refine nT ?_
 |refine WS_nil ?_)
 |refine WC_seq ?_
 |refine WC_opsS ?_
 |refine ah rfl ?_
 |refine al ?_)
   exact be (r':=.tuple [.int _ _,.bool _]) (.inr rfl) rfl rfl rfl
 ·rw[decide_eq_false ha]at hA
  rw[if_neg (fun h=>ha h.1)]
  repeat' (first
 |(refine ai ?_;first
 |refine aj rfl ?_
 |refine mI ?_
 |refine mB ?_
 |refine mS ?_
 |refine aj rfl ?_
 |refine cA rfl (hA _) ?_
 |refine pB ?_
 |refine nT ?_
 |refine aj rfl ?_
 |refine WS_nil ?_)
 |refine WC_seq ?_
 |refine WC_opsS ?_
 |refine ah rfl ?_
 |refine al ?_)
  exact be (r':=.tuple [.int _ _,.bool _]) (.inr rfl) rfl rfl rfl
end Go.Lea
/-
  Plain laws of the latest times, for the statements.
-/
namespace Go.Lea
variable {l:List Eg} {to by' sz:Int} {shut:List Int}
theorem yf {L M:List Rd} (hp:L.Perm M) (hn:(M.map Rd.node).Nodup) (n:Int):bP n L=bP n M:=by
 have hL:(L.map Rd.node).Nodup:=(hp.map _).nodup_iff.2 hn
 cases h:bP n M with
 |some t=>exact mF hL (hp.mem_iff.2 (dL h))
 |none=>
  cases h':bP n L with
  |none=>rfl
  |some t=>
   have:=mF hn (hp.mem_iff.1 (dL h'))
   rw[h]at this;cases this
theorem xF:(([⟨to,by'⟩]:List Rd).map Rd.node).Nodup:=by simp
theorem Le.at_ {M N:List Rd} (h:Le M N) (h':Le N M) (n:Int):bP n M=bP n N:=by
 cases h1:bP n M with
 |some t=>
  obtain⟨u,h2,h3⟩:=h n t h1
  obtain⟨v,h4,h5⟩:=h' n u h2
  rw[h1]at h4
  cases h4
  rw[h2]
  have:t=u:=by omega
  rw[this]
 |none=>
  cases h2:bP n N with
  |none=>rfl
  |some u=>
   obtain⟨v,h4,h5⟩:=h' n u h2
   rw[h1]at h4;cases h4
theorem yk (hf:by'≤1099511627776) {k:Nat} (hk:l.length≤k) (n:Int):bP n (aZ to sz shut l k [⟨to,by'⟩])=bP n (aZ to sz shut l l.length [⟨to,by'⟩]):=
 (lj hf k).at_ (rh hk _) n
theorem pb (ha:br l to by' sz) {hops:Int} (h0:0≤hops) (n:Int):bP n (iJ l to by' sz hops shut)=bP n (aZ to sz shut l hops.toNat [⟨to,by'⟩]):=by
 unfold iJ uu
 rw[if_pos ⟨h0,ha⟩,yf (cd Rd.node _) (nq _ _ xF)]
 unfold mn
 split
 ·rename_i h
  rw[yk ha.2.2.1.2 (k:=hops.toNat) (by omega)]
  rfl
 ·rfl
/-! ### Edges -/
theorem wi (hf:by'≤1099511627776):∀(k:Nat) {n t:Int},bP n (aZ to sz shut l (k+1) [⟨to,by'⟩])=some t→n=to∨∃e∈l,e.fr=n∧∃b,bP e.to (aZ to sz shut l k [⟨to,by'⟩])=some b∧yP to sz shut e b t:=by
 intro k
 induction k with
 |zero=>
  intro n t h
  rw[cD]at h
  rcases jm h with h|⟨e,he,b,h1,h2,h3⟩
  ·simp only[aZ,bP]at h
   split at h<;>cases h
   rename_i e
   exact .inl e.symm
  ·exact .inr ⟨e,he,h3,b,h1,h2⟩
 |succ k ih=>
  intro n t h
  have h':=h
  rw[cD]at h
  rcases jm h with h|⟨e,he,b,h1,h2,h3⟩
  ·rcases ih h with h|⟨e,he,h3,b,h1,h2⟩
   ·exact .inl h
   obtain⟨b',h4,h5⟩:=tX (to:=to) (sz:=sz) (shut:=shut) (l:=l) k [⟨to,by'⟩] _ _ h1
   have hb':=kK (to:=to) (sz:=sz) (shut:=shut) (l:=l) (k+1) _ (kG (to:=to) (by':=by')) _ _ h4
   obtain⟨x',h6,h7⟩:=lz h2.2.2 h5 (by omega)
   obtain⟨u,h8,h9⟩:=md (to:=to) (sz:=sz) (shut:=shut) he h4 (x:=x') ⟨h2.1,h2.2.1,h6⟩
   rw[←cD,h3,h']at h8
   cases h8
   exact .inr ⟨e,he,h3,b',h4,h2.1,h2.2.1,by rw[h6,show x'=t by omega]⟩
  ·exact .inr ⟨e,he,h3,b,h1,h2⟩
/-! ### The fewest -/
variable {fr now:Int}
theorem mV:∀(m k:Nat) (M:List Rd) {h:Nat},nI to sz shut l fr now m k M=some h→k≤h∧h<k+m∧fV fr now (aZ to sz shut l (h - k) M)=true∧∀j,j<h - k→fV fr now (aZ to sz shut l j M)=false
 |0,k,M,h,e=>by cases e
 |m+1,k,M,h,e=>by
  rw[nI]at e
  split at e
  ·rename_i hb
   cases e
   exact⟨Nat.le_refl _,by omega,by rw[Nat.sub_self];exact hb,fun j hj=>by omega⟩
  ·rename_i hb
   obtain⟨h1,h2,h3,h4⟩:=mV m (k+1) _ e
   refine⟨by omega,by omega,?_,fun j hj=>?_⟩
   ·rw[show h - k=(h - (k+1))+1 by omega,aZ];exact h3
   ·cases j with
    |zero=>simpa[aZ]using hb
    |succ j=>rw[aZ];exact h4 j (by omega)
theorem qN:∀(m k:Nat) (M:List Rd),nI to sz shut l fr now m k M=none→∀j,j<m→fV fr now (aZ to sz shut l j M)=false
 |0,k,M,e,j,hj=>by omega
 |m+1,k,M,e,j,hj=>by
  rw[nI]at e
  split at e
  ·cases e
  ·rename_i hb
   cases j with
   |zero=>simpa[aZ]using hb
   |succ j=>rw[aZ];exact qN m (k+1) _ e j (by omega)
theorem cy {M:List Rd}:fV fr now M=true↔∃a,bP fr M=some a∧now≤a:=by
 unfold fV
 split
 ·rename_i a h
  rw[decide_eq_true_eq,h]
  exact⟨fun h'=>⟨a,rfl,h'⟩,fun⟨b,e,h'⟩=>by cases e;exact h'⟩
 ·rename_i h
  rw[h]
  exact⟨fun h'=>(by cases h'),fun⟨b,e,h'⟩=>(by cases e)⟩
def nK (l:List Eg) (fr to now sz by':Int):Bool:=match bP to (cT l fr now sz [])with
 |some a=>decide (a≤by')
 |none=>false
theorem s8 {ha:br l fr now sz}:nK l fr to now sz by'=true↔∃t,t≤by'∧Reach (gX sz) (jU []) l fr now to t:=by
 have hT:=gS ha []
 unfold nK
 constructor
 ·intro h
  split at h
  ·rename_i a h1
   exact⟨a,of_decide_eq_true h,hT.t1 _ (dL h1)⟩
  ·cases h
 ·rintro⟨t,h1,h2⟩
  obtain⟨u,h3,h4⟩:=hT.at_ h2
  rw[h3]
  exact decide_eq_true (by omega)
theorem BB (ha:br l fr now sz) (hb:br l to by' sz):nK l fr to now sz by'=fV fr now (aZ to sz [] l l.length [⟨to,by'⟩]):=by
 have key:nK l fr to now sz by'=true↔fV fr now (aZ to sz [] l l.length [⟨to,by'⟩])=true:=by
  rw[s8 (ha:=ha),cy]
  constructor
  ·rintro⟨t,h1,h2⟩
   obtain⟨p,b,h3,h4⟩:=vW hb.2.2.1.2 h2 (.nil (to:=to) (sz:=sz) (shut:=[]) (l:=l) (by':=by')) h1
   obtain⟨u,h5,h6⟩:=mE hb.2.2.1.2 h3
   obtain⟨v,h7,h8⟩:=lj hb.2.2.1.2 p.length _ _ h5
   exact⟨v,h7,by omega⟩
  ·rintro⟨a,h1,h2⟩
   obtain⟨p,_,h3⟩:=iq _ h1
   obtain⟨a',h4,h5⟩:=wI h3 (jU []) (fun m=>by simp[jU]) now ha.2.2.1.1 h2
   exact⟨a',h4,h5⟩
 cases h1:nK l fr to now sz by'<;>cases h2:fV fr now (aZ to sz [] l l.length [⟨to,by'⟩])<;>simp_all
end Go.Lea
/-
  Plain laws of the best route.
-/
namespace Go.Lea
/-! ### What is looked for -/
def qi (to sz:Int) (shut:List Int) (L:List Rd) (t:Int) (e:Eg):Bool:=match bP e.to L with
 |some b=>decide (di e t sz)&&(decide (aJ e t sz≤b)&&(decide (e.to=to)||decide (e.to∉shut)))
 |none=>false
def nextM (l:List Eg) (to by' sz:Int) (shut:List Int) (n t hops:Int):Option Eg:=(bD n l).find? (qi to sz shut (iJ l to by' sz hops shut) t)
def yO (l:List Eg) (to by' sz:Int) (shut:List Int):Nat→Int→Int→Option (List Eg)
 |0,_,_=>some []
 |k+1,n,t=>match nextM l to by' sz shut n t k with
  |none=>none
  |some e=>(yO l to by' sz shut k e.to (aJ e t sz)).map (e:: ·)
def cR (l:List Eg) (fr to now sz by':Int) (shut:List Int):Option (List Eg×Int):=match bP to (cT l fr now sz shut)with
 |none=>none
 |some a=>if by'<a then none else match nN l fr to now a sz shut with
  |none=>none
  |some n=>(yO l to a sz shut n fr now).map fun es=>(es,a)
/-! ### Walks by edges -/
inductive Way (sz:Int) (l:List Eg):Int→Int→List Eg→Int→Int→Prop
 |nil {n t:Int}:Way sz l n t [] n t
 |cons {n t m u:Int} {e:Eg} {es:List Eg} (he:e∈l) (hf:e.fr=n) (hp:di e t sz) (h:Way sz l e.to (aJ e t sz) es m u):Way sz l n t (e::es) m u
variable {l:List Eg} {to by' sz:Int} {shut:List Int}
theorem Way.ge {n t m u:Int} {es:List Eg} (h:Way sz l n t es m u):t≤u:=by
 induction h with
 |nil=>exact Int.le_refl _
 |cons _ _ hp _ ih=>exact Int.le_trans (jt hp) ih
theorem Way.inj {n t m u m' u':Int} {es:List Eg} (h:Way sz l n t es m u) (h':Way sz l n t es m' u'):m=m'∧u=u':=by
 induction h with
 |nil=>cases h';exact⟨rfl,rfl⟩
 |cons he hf hp h ih=>cases h' with|cons _ _ _ h'=>exact ih h'
theorem Way.trans {n t m u m' u':Int} {es es':List Eg} (h:Way sz l n t es m u) (h':Way sz l m u es' m' u'):Way sz l n t (es++es') m' u':=by
 induction h with
 |nil=>exact h'
 |cons he hf hp h ih=>exact .cons he hf hp (ih h')
theorem Way.split {n t m u:Int}:∀{es es':List Eg},Way sz l n t (es++es') m u→∃m' u',Way sz l n t es m' u'∧Way sz l m' u' es' m u:=by
 intro es
 induction es generalizing n t with
 |nil=>intro es' h;exact⟨n,t,.nil,h⟩
 |cons e es ih=>
  intro es' h
  cases h with
  |cons he hf hp h=>
   obtain⟨m',u',h1,h2⟩:=ih h
   exact⟨m',u',.cons he hf hp h1,h2⟩
theorem Way.mem {n t m u:Int} {es:List Eg} (h:Way sz l n t es m u):∀e∈es,e∈l:=by
 induction h with
 |nil=>simp
 |cons he _ _ _ ih=>
  intro e h
  rcases List.mem_cons.1 h with rfl|h
  ·exact he
  ·exact ih e h
theorem Way.sub {l':List Eg} {n t m u:Int} {es:List Eg} (h:Way sz l n t es m u) (hs:∀e∈es,e∈l'):Way sz l' n t es m u:=by
 induction h with
 |nil=>exact .nil
 |cons he hf hp h ih=>exact .cons (hs _ List.mem_cons_self) hf hp (ih fun e h=>hs e (List.mem_cons_of_mem _ h))
def ay (n:Int) (es:List Eg):List Int:=n::es.map Eg.to
theorem Way.reach {n t m u:Int} {es:List Eg} (h:Way sz l n t es m u) (hs:∀e∈es,e.to∉shut) {fr now:Int} (hr:Reach (gX sz) (jU shut) l fr now n t):Reach (gX sz) (jU shut) l fr now m u:=by
 induction h with
 |nil=>exact hr
 |cons he hf hp h ih=>
  rename_i n t m u e es
  exact ih (fun e h=>hs e (List.mem_cons_of_mem _ h)) (.go hr he hf (dP.2 ⟨hp,rfl⟩) (by simp[jU,hs e List.mem_cons_self]))
theorem Way.late {n t m u:Int} {es:List Eg} (h:Way sz l n t es m u) (hm:m=to) (hu:u≤by') (hb:by'≤1099511627776) (hto:∀e∈es,e.fr≠to) (hs:∀e∈es,e.to=to∨e.to∉shut):fV n t (aZ to sz shut l es.length [⟨to,by'⟩])=true:=by
 induction h with
 |nil=>
  subst hm
  exact cy.2 ⟨by',by simp[aZ,bP],hu⟩
 |cons he hf hp h ih=>
  rename_i n t m u e es
  have hi:=ih hm hu (fun e h=>hto e (List.mem_cons_of_mem _ h)) (fun e h=>hs e (List.mem_cons_of_mem _ h))
  obtain⟨b,h1,h2⟩:=cy.1 hi
  have hbb:=kK es.length _ (kG (to:=to) (by':=by')) _ _ h1
  obtain⟨x,h3,h4⟩:=ny hp h2 (by omega)
  obtain⟨v,h5,h6⟩:=md (shut:=shut) he h1 (x:=x) ⟨hto e List.mem_cons_self,hs e List.mem_cons_self,h3⟩
  rw[List.length_cons,cD]
  exact cy.2 ⟨v,by rw[←hf];exact h5,by omega⟩
/-! ### The search -/
def pS (l:List Eg) (to by' sz:Int) (shut:List Int) (k:Nat) (n t:Int):Prop:=fV n t (aZ to sz shut l k [⟨to,by'⟩])=true∧∀j,j<k→fV n t (aZ to sz shut l j [⟨to,by'⟩])=false
theorem vJ {n t:Int} (h:pS l to by' sz shut 0 n t):n=to∧t≤by':=by
 obtain⟨a,h1,h2⟩:=cy.1 h.1
 simp only[aZ,bP]at h1
 split at h1<;>cases h1
 rename_i e
 exact⟨e.symm,h2⟩
theorem ux {k:Nat} {n t:Int} (h:pS l to by' sz shut (k+1) n t):n≠to:=by
 rintro rfl
 obtain⟨a,h1,h2⟩:=cy.1 h.1
 rw[p7]at h1
 cases h1
 have:=h.2 0 (by omega)
 unfold fV at this
 rw[p7]at this
 simp at this
 omega
theorem jD {n:Int} {e:Eg}:e∈bD n l↔e∈l∧e.fr=n:=by simp[bD]
theorem fj {L:List Rd} {t:Int} {e:Eg}:qi to sz shut L t e=true↔∃b,bP e.to L=some b∧di e t sz∧aJ e t sz≤b∧(e.to=to∨e.to∉shut):=by
 unfold qi
 split
 ·rename_i b h
  rw[h]
  simp
 ·rename_i h
  rw[h]
  simp
theorem xS {k:Nat} {n t:Int} (ha:br l to by' sz) (h:pS l to by' sz shut (k+1) n t) {e:Eg} (he:e∈l) (hf:e.fr=n) (ho:qi to sz shut (iJ l to by' sz k shut) t e=true):pS l to by' sz shut k e.to (aJ e t sz):=by
 obtain⟨b,h1,h2,h3,h4⟩:=fj.1 ho
 rw[pb ha (by omega)]at h1
 refine⟨cy.2 ⟨b,h1,h3⟩,fun j hj=>?_⟩
 cases hb:fV e.to (aJ e t sz) (aZ to sz shut l j [⟨to,by'⟩])with
 |false=>rfl
 |true=>
  exfalso
  obtain⟨c,h5,h6⟩:=cy.1 hb
  have hbb:=kK (to:=to) (sz:=sz) (shut:=shut) (l:=l) j _ (kG (to:=to) (by':=by')) _ _ h5
  have:=ha.2.2.1.2
  obtain⟨x,h7,h8⟩:=ny h2 h6 (by omega)
  obtain⟨v,h9,h10⟩:=md (shut:=shut) he h5 (x:=x) ⟨by rw[hf];exact ux h,h4,h7⟩
  have:=h.2 (j+1) (by omega)
  rw[cD]at this
  rw[cy.2 ⟨v,by rw[←hf];exact h9,by omega⟩]at this
  cases this
theorem vF {k:Nat} {n t:Int} (ha:br l to by' sz) (h0:0≤t) (h:pS l to by' sz shut (k+1) n t):∃e,nextM l to by' sz shut n t k=some e:=by
 obtain⟨a,h1,h2⟩:=cy.1 h.1
 rcases wi ha.2.2.1.2 k h1 with h3|⟨e,he,h3,b,h4,h5⟩
 ·exact absurd h3 (ux h)
 ·obtain⟨h6,h7⟩:=rr h5.2.2 h0 h2
  cases hn:nextM l to by' sz shut n t k with
  |some e=>exact⟨e,rfl⟩
  |none=>
   exfalso
   unfold nextM at hn
   rw[List.find?_eq_none]at hn
   refine hn e (jD.2 ⟨he,h3⟩) (fj.2 ⟨b,?_,h6,h7,h5.2.1⟩)
   rw[pb ha (by omega)]
   exact h4
theorem vT {n t hops:Int} {e:Eg} (h:nextM l to by' sz shut n t hops=some e):e∈l∧e.fr=n∧qi to sz shut (iJ l to by' sz hops shut) t e=true:=by
 unfold nextM at h
 have h1:=List.mem_of_find?_eq_some h
 have h2:=List.find?_some h
 exact⟨(jD.1 h1).1,(jD.1 h1).2,h2⟩
theorem pw (hl:l.Pairwise fun a b=>a.id<b.id) (n:Int):(bD n l).Pairwise fun a b=>a.id<b.id:=hl.filter _
theorem mY:∀{m:List Eg} {p:Eg→Bool} {e e':Eg},(m.Pairwise fun a b=>a.id<b.id)→m.find? p=some e→e'∈m→p e'=true→e=e'∨e.id<e'.id
 |[],p,e,e',_,h,_,_=>by cases h
 |x::m,p,e,e',hs,h,he,hp=>by
  have hs':=List.pairwise_cons.1 hs
  rw[List.find?_cons]at h
  cases hx:p x with
  |true=>
   rw[hx]at h
   cases h
   rcases List.mem_cons.1 he with rfl|he
   ·exact .inl rfl
   ·exact .inr (hs'.1 _ he)
  |false=>
   rw[hx]at h
   rcases List.mem_cons.1 he with rfl|he
   ·rw[hx]at hp;cases hp
   ·exact mY hs'.2 h he hp
theorem tF (hl:RL l) {n t hops:Int} {e e':Eg} (h:nextM l to by' sz shut n t hops=some e) (he:e'∈l) (hf:e'.fr=n) (ho:qi to sz shut (iJ l to by' sz hops shut) t e'=true):e=e'∨e.id<e'.id:=
 mY (pw hl.2 n) h (jD.2 ⟨he,hf⟩) ho
def ea:List Int→List Int→Int
 |[],[]=>0
 |[],_::_=> -1
 |_::_,[]=>1
 |a::xs,b::ys=>if a<b then -1 else if b<a then 1 else ea xs ys
theorem lc:∀a:List Int,ea a a=0
 |[]=>rfl
 |a::xs=>by rw[ea,if_neg (Int.lt_irrefl _),if_neg (Int.lt_irrefl _),lc xs]
structure Best (l:List Eg) (to by' sz:Int) (shut:List Int) (k:Nat) (n t:Int) (es:List Eg):Prop where
 way:∃u,Way sz l n t es to u∧u≤by'
 len:es.length=k
 nd:(ay n es).Nodup
 op:∀e∈es,e.to=to∨e.to∉shut
 best:RL l→∀es' u',Way sz l n t es' to u'→u'≤by'→es'.length=k→(∀e∈es',e.fr≠to)→(∀e∈es',e.to=to∨e.to∉shut)→es=es'∨ea (es.map Eg.id) (es'.map Eg.id)= -1
theorem za (hl:RL l) {a b:Eg} (ha:a∈l) (hb:b∈l) (h:a.id=b.id):a=b:=by
 obtain⟨i,hi,rfl⟩:=List.getElem_of_mem ha
 obtain⟨j,hj,rfl⟩:=List.getElem_of_mem hb
 have hp:=List.pairwise_iff_getElem.1 hl.2
 rcases Nat.lt_trichotomy i j with h1|h1|h1
 ·have:=hp i j hi hj h1;omega
 ·subst h1;rfl
 ·have:=hp j i hj hi h1;omega
theorem uc (ha:br l to by' sz):∀(k:Nat) {n t:Int},0≤t→pS l to by' sz shut k n t→∃es,yO l to by' sz shut k n t=some es∧Best l to by' sz shut k n t es∧∀(j:Nat) (h:j<es.length),∃tj,t≤tj∧pS l to by' sz shut (k - (j+1)) (es[j]'h).to tj:=by
 intro k
 induction k with
 |zero=>
  intro n t h0 h
  obtain⟨rfl,h1⟩:=vJ h
  exact⟨[],rfl,⟨⟨t,.nil,h1⟩,rfl,by simp[ay],by simp,fun _ es' u' _ _ hl _ _=>.inl (List.length_eq_zero_iff.1 hl).symm⟩,fun j h=>by simp at h⟩
 |succ k ih=>
  intro n t h0 h
  obtain⟨e,he⟩:=vF ha h0 h
  obtain⟨h1,h2,h3⟩:=vT he
  have hw:=xS ha h h1 h2 h3
  obtain⟨b,h4,h5,h6,h7⟩:=fj.1 h3
  have hge:=jt h5
  obtain⟨es,g1,g2,g3⟩:=ih (by omega) hw
  obtain⟨u,hway,hu⟩:=g2.way
  have hg3:∀(j:Nat) (h:j<(e::es).length),∃tj,t≤tj∧pS l to by' sz shut (k+1 - (j+1)) ((e::es)[j]'h).to tj:=fun j hj=>by
   cases j with
   |zero=>exact⟨_,hge,hw⟩
   |succ j=>
    obtain⟨tj,a1,a2⟩:=g3 j (by simpa using hj)
    exact⟨tj,by omega,by rw[show k+1 - (j+1+1)=k - (j+1)by omega];exact a2⟩
  refine⟨e::es,by rw[yO,he];simp only[g1];rfl,⟨⟨u,.cons h1 h2 h5 hway,hu⟩,by simp[g2.len],?_,?_,?_⟩,hg3⟩
  ·refine List.nodup_cons.2 ⟨fun hn=>?_,g2.nd⟩
   obtain⟨j,hj,hjn⟩:=List.getElem_of_mem hn
   have hj':j<(e::es).length:=by simpa using hj
   obtain⟨tj,a1,a2⟩:=hg3 j hj'
   rw[List.getElem_map]at hjn
   rw[hjn]at a2
   obtain⟨c,c1,c2⟩:=cy.1 a2.1
   have:=h.2 (k+1 - (j+1)) (by omega)
   rw[cy.2 ⟨c,c1,by omega⟩]at this
   cases this
  ·intro e' h
   rcases List.mem_cons.1 h with rfl|h
   ·exact h7
   ·exact g2.op e' h
  ·intro hl es' u' hw' hu' hl' hto hs
   cases hw' with
   |nil=>simp at hl'
   |cons he' hf' hp' hw'=>
    rename_i e' es'
    have hlate:=hw'.late rfl hu' ha.2.2.1.2 (fun e h=>hto e (List.mem_cons_of_mem _ h)) (fun e h=>hs e (List.mem_cons_of_mem _ h))
    simp only[List.length_cons,Nat.add_right_cancel_iff]at hl'
    rw[hl']at hlate
    obtain⟨b',h8,h9⟩:=cy.1 hlate
    have ho:qi to sz shut (iJ l to by' sz k shut) t e'=true:=fj.2 ⟨b',by rw[pb ha (by omega)];exact h8,hp',h9,hs e' List.mem_cons_self⟩
    rcases tF hl he he' hf' ho with rfl|hlt
    ·rcases g2.best hl es' u' hw' hu' hl' (fun e h=>hto e (List.mem_cons_of_mem _ h)) (fun e h=>hs e (List.mem_cons_of_mem _ h))with rfl|hlt
     ·exact .inl rfl
     ·right
      rw[List.map_cons,List.map_cons,ea,if_neg (Int.lt_irrefl _),if_neg (Int.lt_irrefl _)]
      exact hlt
    ·right
     rw[List.map_cons,List.map_cons,ea,if_pos hlt]
end Go.Lea
/-
  Routes: their IDs, whether two are the same, which one is better.
-/
namespace Go.Lea
open Go.Ev
theorem xW (a:Int):gL 1 (D.int .i64 a):=⟨rfl,rfl⟩
theorem zS (a:Int):(D.int .i64 a).cells.length=1∧qC (D.int .i64 a).cells=D.int .i64 a:=⟨rfl,rfl⟩
theorem sr {l pre post:List Hp} {x:Hp} (h:l=pre++x::post):l[pre.length]?=some x:=by rw[h];simp
/-! ### IDs -/
set_option maxHeartbeats 2000000 in
theorem Aw (hs:List Hp) (hll:hs.length≤1000000) (t:Tok) (s:Nat) (hsz:s=3∨hs=[]):∀(post pre:List Hp),hs=pre++post→∀(ρ:Nat→D) (st:Store) (d:D),st.lim≤0→tg (D.int .i64) 1 st d (pre.map Hp.id)→
  ρ 2=d→ρ 6=.slice t s (hs.map Hp.e)→ρ 7=.int .i64 hs.length→ρ 8=.int .i64 pre.length→∀(Q:X→(Nat→D)→Store→Prop),
  (∀ρ' st' d',tg (D.int .i64) 1 st' d' (hs.map Hp.id)→ρ' 2=d'→Q (.exit 0) ρ' st')→WC Γ (.loop gy) ρ st Q:=by
 intro post
 induction post with
 |nil=>
  intro pre hpp ρ st d hlim hO h2 h6 h7 h8 Q hQ
  rw[List.append_nil]at hpp
  subst hpp
  rw[←aa h2,←aa h6,←aa h7,←aa h8]
  refine WC_loop ?_
  repeat' (first
 |(refine ai ?_;first
 |refine lF ?_
 |refine WS_nil ?_)
 |refine WC_seq ?_
 |refine WC_opsS ?_
 |refine af rfl ?_
 |refine WC_exit ?_)
  exact hQ _ _ d hO rfl
 |cons x post ih=>
  intro pre hpp ρ st d hlim hO h2 h6 h7 h8 Q hQ
  have hv:=sr hpp
  have hlen:hs.length=pre.length+(post.length+1):=by rw[hpp];simp
  have hz:s=3:=hsz.resolve_right (by rintro rfl;simp at hlen)
  subst hz
  have hpl:pre.length<(hs.map Hp.e).length:=by simp;omega
  have hltl:(pre.length:Int)<hs.length:=by omega
  have hbd:((pre.map Hp.id).length+1)*8≤140737488355328:=by simp;omega
  have hlim2:st.lim≤st.next:=by omega
  have hnext:∀(ρ':Nat→D) (st':Store) (d':D),st'.lim≤0→tg (D.int .i64) 1 st' d' (pre.map Hp.id++[x.id])→ρ' 2=d'→ρ' 6=.slice t 3 (hs.map Hp.e)→ρ' 7=.int .i64 hs.length→ρ' 8=.int .i64 ((pre.length:Int)+1)→WC Γ (.loop gy) ρ' st' Q:=fun ρ' st' d' e1 e2 k2 k6 k7 k8=>
   ih (pre++[x]) (by simp[hpp]) ρ' st' d' e1 (by rw[List.map_append];exact e2) k2 k6 k7 (by rw[List.length_append];exact k8) Q hQ
  have hO2:tg (D.int .i64) 1 {st with boxes:=ap (ap st.boxes st.next (some (.cells [.int .i64 0,.int .i64 0,.int .i64 0]))) st.next (some (.cells x.e.cells)),next:=st.next+1} d (pre.map Hp.id):=by
   rcases hO with h|⟨q,n,c,g1,g2,g3,g4,g5,cs,g6,g7⟩
   ·exact .inl h
   ·exact .inr ⟨q,n,c,g1,g2,g3,g4,Nat.lt_succ_of_lt g5,cs,(ab _ _ (Nat.ne_of_lt g5)).trans ((ab _ _ (Nat.ne_of_lt g5)).trans g6),g7⟩
  clear ih hQ
  rw[←aa h2,←aa h6,←aa h7,←aa h8]
  refine WC_loop ?_
  repeat' (first
 |(refine ai ?_;first
 |refine iA (pre.length) hpl ?_
 |refine an (cs':=[_,_,_]) rfl rfl (ae _ _ _) rfl hlim2 rfl rfl rfl ?_
 |refine bL (v:=d1) rfl rfl rfl ?_
 |refine bL (v:=d) rfl rfl rfl ?_
 |(refine zW (r:=x.id) (by decide) xW rfl rfl rfl rfl hO2 hbd hlim ?_;intro st1 d1 a1 a2)
 |refine mI ?_
 |refine lT ?_
 |refine aD ?_
 |refine lE (d:=.agg [_,_,_]) hv ?_
 |refine am (agg:=false) (d:=.int _ _) rfl rfl rfl (dV rfl) (by first|exact Nat.zero_le _|assumption|exact Nat.le_trans hlim (Nat.zero_le _)|omega) rfl ?_
 |refine fD ?_
 |refine aq rfl rfl ?_
 |refine bh (ys:=[_]) rfl rfl rfl (by decide) rfl ?_
 |refine WS_nil ?_)
 |refine WC_seq ?_
 |refine WC_opsS ?_
 |refine WC_skip ?_
 |refine ah rfl ?_
 |refine WC_block ?_)
  exact hnext _ st1 d1 a1 a2 rfl rfl rfl rfl
theorem ul (hs:List Hp) (hll:hs.length≤1000000) (a:Int) (t:Tok) (s:Nat) (hsz:s=3∨hs=[]):EvX Γ 17 [.agg [.slice t s (hs.map Hp.e),.int .i64 a]] (zO (D.int .i64) 1 (hs.map Hp.id)):=by
 refine cn rfl rfl ?_
 repeat' (first
 |(refine ai ?_;first
 |refine lN ?_
 |refine mI ?_
 |refine mS ?_
 |refine lO (d:=.slice _ _ _) ?_
 |refine ck rfl rfl rfl rfl rfl ?_
 |refine fD ?_
 |refine WS_nil ?_)
 |refine WC_seq ?_
 |refine WC_opsS ?_
 |refine WC_block ?_)
 refine Aw hs hll t s hsz hs [] rfl _ _ (.slice .isnil 0 []) (Nat.le_refl _) (.inl ⟨rfl,rfl⟩) ?_ ?_ ?_ ?_ _ (fun ρ' st' d hO h2=>?_)
 all_goals first|rfl|skip
 rw[←aa h2]
 repeat' (first
 |(refine ai ?_;first
 |refine bL (v:=d) rfl rfl rfl ?_
 |refine WS_nil ?_)
 |refine WC_seq ?_
 |refine WC_opsS ?_
 |refine al ?_)
 exact Aj (by decide) zS (.inr rfl) rfl hO
/-! ### The same -/
theorem y8 (a b c a' b' c':Int):jH [.int .i64 a,.int .i64 b,.int .i64 c] [.int .i64 a',.int .i64 b',.int .i64 c'] [0,1,2]=some (decide (a=a'∧b=b'∧c=c')):=by
 simp[jH]
 by_cases h1:a=a'<;>by_cases h2:b=b'<;>by_cases h3:c=c'<;>simp[h1,h2,h3]
theorem Hp.ext' {a b:Hp}:(a.id=b.id∧a.se=b.se∧a.ar=b.ar)↔a=b:=by
 cases a
 cases b
 simp
theorem A6 (a b:List Hp) (hl:a.length≤1073741824) (hab:a.length=b.length) (t t':Tok) (sa sb:Nat) (ha:sa=3∨a=[]) (hb:sb=3∨b=[]):∀(m i:Nat),a.length - i=m→i≤a.length→a.take i=b.take i→
  ∀(ρ:Nat→D) (h0:ρ 0=.slice t sa (a.map Hp.e)) (h1:ρ 1=.slice t' sb (b.map Hp.e)) (h12:ρ 12=.int .i64 a.length) (h13:ρ 13=.int .i64 i) (Q:X→(Nat→D)→Store→Prop),
  (a=b→∀ρ',Q (.exit 0) ρ' Store.empty)→(a≠b→∀ρ',ρ' 4=.bool false→Q .ret ρ' Store.empty)→WC Γ (.loop dZ) ρ Store.empty Q:=by
 intro m
 induction m with
 |zero=>
  intro i hm hi he ρ h0 h1 h12 h13 Q hQ hQ2
  rw[←aa h0,←aa h1,←aa h12,←aa h13]
  refine WC_loop ?_
  repeat' (first
 |(refine ai ?_;first
 |refine lF ?_
 |refine WS_nil ?_)
 |refine WC_seq ?_
 |refine WC_opsS ?_
 |refine af rfl ?_
 |refine WC_exit ?_)
  refine hQ ?_ _
  rw[List.take_of_length_le (by omega),List.take_of_length_le (by omega)]at he
  exact he
 |succ m ih=>
  intro i hm hi he ρ h0 h1 h12 h13 Q hQ hQ2
  rw[←aa h0,←aa h1,←aa h12,←aa h13]
  obtain⟨x,hx⟩:∃v,a[i]?=some v:=⟨_,List.getElem?_eq_getElem (by omega)⟩
  obtain⟨y,hy⟩:∃v,b[i]?=some v:=⟨_,List.getElem?_eq_getElem (by omega)⟩
  have hz:sa=3:=ha.resolve_right (by rintro rfl;simp at hx)
  have hz2:sb=3:=hb.resolve_right (by rintro rfl;simp at hy)
  subst hz hz2
  have hpa:i<(a.map Hp.e).length:=by simp;omega
  have hpb:i<(b.map Hp.e).length:=by simp;omega
  have hltl:(i:Int)<a.length:=by omega
  refine WC_loop ?_
  repeat' (first
 |(refine ai ?_;first
 |refine iA i hpa ?_
 |refine iA i hpb ?_
 |(refine zH rfl rfl rfl rfl rfl rfl (y8 _ _ _ _ _ _) ?_ ?_<;>intro)
 |refine mI ?_
 |refine mB ?_
 |refine mS ?_
 |refine lT ?_
 |refine aD ?_
 |refine lE (d:=.agg [_,_,_]) hx ?_
 |refine lE (d:=.agg [_,_,_]) hy ?_
 |refine WS_nil ?_)
 |refine WC_seq ?_
 |refine WC_opsS ?_
 |refine bq ?_
 |refine WC_skip ?_
 |refine ah rfl ?_
 |refine af rfl ?_
 |refine WC_block ?_
 |refine al ?_
 |refine a8 rfl ?_)
  ·rename_i hq
   refine ih (i+1) (by omega) (by omega) ?_ _ rfl rfl rfl rfl Q hQ hQ2
   rw[decide_eq_true_eq,Hp.ext']at hq
   rw[List.take_add_one,List.take_add_one,he,hx,hy,hq]
  ·rename_i hq
   refine hQ2 (fun hab=>?_) _ rfl
   rw[decide_eq_false_iff_not,Hp.ext']at hq
   subst hab
   rw[hx]at hy
   exact hq (by cases hy;rfl)
theorem AO (a b:List Hp) (hl:a.length≤1073741824) (t t':Tok) (sa sb:Nat) (ha:sa=3∨a=[]) (hb:sb=3∨b=[]):EvP Γ 34 [.slice t sa (a.map Hp.e),.slice t' sb (b.map Hp.e)] (.bool (decide (a=b))):=by
 refine aA rfl rfl ?_
 by_cases hab:a.length=b.length
 ·have hab':(a.length:Int)=b.length:=by omega
  repeat' (first
 |(refine ai ?_;first
 |refine lN ?_
 |refine mI ?_
 |refine mB ?_
 |refine mS ?_
 |refine fC rfl rfl rfl rfl (by omega) ?_
 |refine WS_nil ?_)
 |refine WC_seq ?_
 |refine WC_opsS ?_
 |refine WC_skip ?_
 |refine af rfl ?_
 |refine WC_block ?_)
  refine A6 a b hl hab t t' sa sb ha hb a.length 0 (by omega) (by omega) rfl _ ?_ ?_ ?_ ?_ _ (fun h ρ=>?_) (fun h ρ h4=>?_)
  ·rfl
  ·rfl
  ·rfl
  ·rfl
  ·rw[decide_eq_true h]
   repeat' (first
 |(refine ai ?_;first
 |refine mB ?_
 |refine WS_nil ?_)
 |refine WC_seq ?_
 |refine WC_opsS ?_
 |refine al ?_)
   exact aK (.inr rfl) rfl rfl
  ·rw[decide_eq_false h,←aa h4]
   exact aK (.inr rfl) rfl rfl
 ·have hab':(a.length:Int)≠b.length:=by omega
  rw[decide_eq_false (fun h=>hab (by rw[h]))]
  repeat' (first
 |(refine ai ?_;first
 |refine lN ?_
 |refine mB ?_
 |refine mS ?_
 |refine hG rfl rfl rfl rfl (by omega) ?_
 |refine WS_nil ?_)
 |refine WC_seq ?_
 |refine WC_opsS ?_
 |refine ah rfl ?_
 |refine al ?_)
  exact aK (.inr rfl) rfl rfl
theorem ic (a b:List Hp) (x y:Int) (hl:a.length≤1073741824) (t t':Tok) (sa sb:Nat) (ha:sa=3∨a=[]) (hb:sb=3∨b=[]):EvP Γ 18 [.agg [.slice t sa (a.map Hp.e),.int .i64 x],.agg [.slice t' sb (b.map Hp.e),.int .i64 y]] (.bool (decide (x=y∧a=b))):=by
 have h:=fun t t'=>AO a b hl t t' sa sb ha hb
 refine aA rfl rfl ?_
 by_cases hxy:x=y
 ·rw[show decide (x=y∧a=b)=decide (a=b)by simp[hxy]]
  repeat' (first
 |(refine ai ?_;first
 |refine fK rfl rfl rfl rfl hxy ?_
 |refine mB ?_
 |refine lO (d:=.int _ _) ?_
 |refine lO (d:=.slice _ _ _) ?_
 |refine cA rfl (h _ _) ?_
 |refine pB ?_
 |refine ck rfl rfl rfl rfl rfl ?_
 |refine fD ?_
 |refine WS_nil ?_)
 |refine WC_seq ?_
 |refine WC_opsS ?_
 |refine al ?_)
  exact aK (.inr rfl) rfl rfl
 ·rw[decide_eq_false (fun h=>hxy h.1)]
  repeat' (first
 |(refine ai ?_;first
 |refine dz rfl rfl rfl rfl hxy ?_
 |refine mB ?_
 |refine aj rfl ?_
 |refine lO (d:=.int _ _) ?_
 |refine aj rfl ?_
 |refine pB ?_
 |refine ck rfl rfl rfl rfl rfl ?_
 |refine fD ?_
 |refine aj rfl ?_
 |refine WS_nil ?_)
 |refine WC_seq ?_
 |refine WC_opsS ?_
 |refine al ?_)
  exact aK (.inr rfl) rfl rfl
/-! ### Which one is better -/
theorem i8:∀(p a b:List Int),ea (p++a) (p++b)=ea a b
 |[],a,b=>rfl
 |x::p,a,b=>by rw[List.cons_append,List.cons_append,ea,if_neg (Int.lt_irrefl _),if_neg (Int.lt_irrefl _),i8 p]
theorem A8 (a b:List Int) (hla:a.length≤1073741824) (hlb:b.length≤1073741824) (t t':Tok) (sa sb:Nat) (ha:sa=1∨a=[]) (hb:sb=1∨b=[]):∀(post pre rest:List Int),a=pre++post→b=pre++rest→∀(ρ:Nat→D) (st:Store),
  ρ 0=.slice t sa (a.map (D.int .i64))→ρ 1=.slice t' sb (b.map (D.int .i64))→ρ 9=.slice t sa (a.map (D.int .i64))→ρ 10=.int .i64 a.length→ρ 11=.int .i64 pre.length→∀(Q:X→(Nat→D)→Store→Prop),
  (ea a b=(if a.length<b.length then -1 else 0)→∀ρ',ρ' 0=.slice t sa (a.map (D.int .i64))→ρ' 1=.slice t' sb (b.map (D.int .i64))→Q (.exit 0) ρ' st)→(∀ρ',ρ' 4=.int .i64 (ea a b)→Q .ret ρ' st)→WC Γ (.loop ci) ρ st Q:=by
 intro post
 induction post with
 |nil=>
  intro pre rest hpp hpr ρ st h0 h1 h9 h10 h11 Q hQ hQ2
  have hL:ea a b=(if a.length<b.length then -1 else 0):=by
   rw[hpp,hpr,i8]
   cases rest with
   |nil=>simp[ea]
   |cons y r=>simp[ea]
  rw[List.append_nil]at hpp
  subst hpp
  rw[←aa h0,←aa h1,←aa h9,←aa h10,←aa h11]
  refine WC_loop ?_
  repeat' (first
 |(refine ai ?_;first
 |refine lF ?_
 |refine WS_nil ?_)
 |refine WC_seq ?_
 |refine WC_opsS ?_
 |refine af rfl ?_
 |refine WC_exit ?_)
  exact hQ hL _ rfl rfl
 |cons x post ih=>
  intro pre rest hpp hpr ρ st h0 h1 h9 h10 h11 Q hQ hQ2
  have hv:=nD hpp
  have hlen:a.length=pre.length+(post.length+1):=by rw[hpp];simp
  have hz:sa=1:=ha.resolve_right (by rintro rfl;simp at hlen)
  subst hz
  have hpl:pre.length<(a.map (D.int .i64)).length:=by simp;omega
  have hltl:(pre.length:Int)<a.length:=by omega
  cases rest with
  |nil=>
   have hbl:(b.length:Int)≤pre.length:=by rw[hpr];simp
   have hL:ea a b=1:=by rw[hpp,hpr,i8];rfl
   rw[hL]at hQ2
   clear ih hQ hpp
   rw[←aa h0,←aa h1,←aa h9,←aa h10,←aa h11]
   refine WC_loop ?_
   repeat' (first
 |(refine ai ?_;first
 |refine lN ?_
 |refine iA (pre.length) hpl ?_
 |refine mI ?_
 |refine mS ?_
 |refine lT ?_
 |refine xq rfl rfl rfl rfl (by omega) ?_
 |refine lE (d:=.int _ _) hv ?_
 |refine WS_nil ?_)
 |refine WC_seq ?_
 |refine WC_opsS ?_
 |refine WC_skip ?_
 |refine ah rfl ?_
 |refine WC_block ?_
 |refine al ?_)
   exact hQ2 _ rfl
  |cons y rest=>
   have hv2:=nD hpr
   have hlen2:b.length=pre.length+(rest.length+1):=by rw[hpr];simp
   have hz:sb=1:=hb.resolve_right (by rintro rfl;simp at hlen2)
   subst hz
   have hpl2:pre.length<(b.map (D.int .i64)).length:=by simp;omega
   have hltl2:(pre.length:Int)<b.length:=by omega
   have hC:=jG x y
   by_cases hxy:x=y
   ·subst hxy
    have hc:gJ x x=0:=by unfold gJ;rw[if_neg (by omega),if_neg (by omega)]
    rw[hc]at hC
    have hnext:∀(ρ':Nat→D),ρ' 0=.slice t 1 (a.map (D.int .i64))→ρ' 1=.slice t' 1 (b.map (D.int .i64))→ρ' 9=.slice t 1 (a.map (D.int .i64))→ρ' 10=.int .i64 a.length→ρ' 11=.int .i64 ((pre.length:Int)+1)→WC Γ (.loop ci) ρ' st Q:=fun ρ' k0 k1 k9 k10 k11=>
     ih (pre++[x]) rest (by simp[hpp]) (by simp[hpr]) ρ' st k0 k1 k9 k10 (by rw[List.length_append];exact k11) Q hQ hQ2
    clear ih hQ hQ2 hpp hpr
    rw[←aa h0,←aa h1,←aa h9,←aa h10,←aa h11]
    refine WC_loop ?_
    repeat' (first
 |(refine ai ?_;first
 |refine lN ?_
 |refine iA (pre.length) hpl ?_
 |refine iA (pre.length) hpl2 ?_
 |refine mI ?_
 |refine mS ?_
 |refine lT ?_
 |refine sG rfl rfl rfl rfl (by omega) ?_
 |refine fC rfl rfl rfl rfl (by omega) ?_
 |refine aD ?_
 |refine lE (d:=.int _ _) hv ?_
 |refine lE (d:=.int _ _) hv2 ?_
 |refine cA rfl hC ?_
 |refine WS_nil ?_)
 |refine WC_seq ?_
 |refine WC_opsS ?_
 |refine WC_skip ?_
 |refine ah rfl ?_
 |refine af rfl ?_
 |refine WC_block ?_)
    refine hnext _ ?_ ?_ ?_ ?_ ?_<;>rfl
   ·have hL:ea a b=gJ x y:=by
     rw[hpp,hpr,i8,ea]
     unfold gJ
     by_cases h:x<y
     ·rw[if_pos h,if_pos h]
     ·rw[if_neg h,if_neg h,if_pos (by omega),if_pos (by omega)]
    have hne:¬gJ x y=0:=by
     unfold gJ
     by_cases h:x<y
     ·rw[if_pos h];omega
     ·rw[if_neg h,if_pos (by omega)];omega
    rw[hL]at hQ2
    generalize gJ x y=c at*
    clear ih hQ hpp hpr
    rw[←aa h0,←aa h1,←aa h9,←aa h10,←aa h11]
    refine WC_loop ?_
    repeat' (first
 |(refine ai ?_;first
 |refine lN ?_
 |refine iA (pre.length) hpl ?_
 |refine iA (pre.length) hpl2 ?_
 |refine hG rfl rfl rfl rfl hne ?_
 |refine mI ?_
 |refine mS ?_
 |refine lT ?_
 |refine sG rfl rfl rfl rfl (by omega) ?_
 |refine lE (d:=.int _ _) hv ?_
 |refine lE (d:=.int _ _) hv2 ?_
 |refine cA rfl hC ?_
 |refine WS_nil ?_)
 |refine WC_seq ?_
 |refine WC_opsS ?_
 |refine WC_skip ?_
 |refine ah rfl ?_
 |refine af rfl ?_
 |refine WC_block ?_
 |refine al ?_)
    exact hQ2 _ rfl
theorem AW (a b:List Int) (hla:a.length≤1073741824) (hlb:b.length≤1073741824) (t t':Tok) (sa sb:Nat) (ha:sa=1∨a=[]) (hb:sb=1∨b=[]):EvP Γ 37 [.slice t sa (a.map (D.int .i64)),.slice t' sb (b.map (D.int .i64))] (.int .i64 (ea a b)):=by
 refine aA rfl rfl ?_
 repeat' (first
 |(refine ai ?_;first
 |refine lN ?_
 |refine mI ?_
 |refine mS ?_
 |refine WS_nil ?_)
 |refine WC_seq ?_
 |refine WC_opsS ?_
 |refine WC_block ?_)
 refine A8 a b hla hlb t t' sa sb ha hb a [] b rfl rfl _ _ ?_ ?_ ?_ ?_ ?_ _ (fun hL ρ' h0 h1=>?_) (fun ρ' h4=>?_)
 all_goals first|rfl|skip
 ·rw[←aa h0,←aa h1,hL]
  by_cases h:a.length<b.length
  ·rw[if_pos h]
   have h':(a.length:Int)<b.length:=by omega
   repeat' (first
 |(refine ai ?_;first
 |refine lN ?_
 |refine mI ?_
 |refine mS ?_
 |refine lT ?_
 |refine WS_nil ?_)
 |refine WC_seq ?_
 |refine WC_opsS ?_
 |refine ah rfl ?_
 |refine al ?_)
   exact dH (.inr rfl) rfl rfl
  ·rw[if_neg h]
   have h':(b.length:Int)≤a.length:=by omega
   repeat' (first
 |(refine ai ?_;first
 |refine lN ?_
 |refine mI ?_
 |refine mS ?_
 |refine lF ?_
 |refine WS_nil ?_)
 |refine WC_seq ?_
 |refine WC_opsS ?_
 |refine WC_skip ?_
 |refine af rfl ?_
 |refine al ?_)
   exact dH (.inr rfl) rfl rfl
 ·rw[←aa h4]
  exact dH (.inr rfl) rfl rfl
def im (h:List Hp) (a:Int) (h':List Hp) (a':Int):Int:=pN [pN [gJ a a',gJ h.length h'.length],ea (h.map Hp.id) (h'.map Hp.id)]
set_option maxHeartbeats 2000000 in
theorem sw (h:List Hp) (a:Int) (h':List Hp) (a':Int) (hl:h.length≤1000000) (hl':h'.length≤1000000) (t t':Tok) (s s':Nat) (hs:s=3∨h=[]) (hs':s'=3∨h'=[]):EvP Γ 19 [.agg [.slice t s (h.map Hp.e),.int .i64 a],.agg [.slice t' s' (h'.map Hp.e),.int .i64 a']] (.int .i64 (im h a h' a')):=by
 refine aA rfl rfl ?_
 unfold im
 have h1:=jG a a'
 have h2:=jG h.length h'.length
 have h3:=fun t=>ul h hl a t s hs
 have h4:=fun t=>ul h' hl' a' t s' hs'
 have h5:=fun t t' s s' h1 h2=>AW (h.map Hp.id) (h'.map Hp.id) (by simp;omega) (by simp;omega) t t' s s' h1 h2
 generalize gJ a a'=c1 at*
 generalize gJ h.length h'.length=c2 at*
 generalize ea (h.map Hp.id) (h'.map Hp.id)=c3 at*
 have h6:=fun t=>we t c1 c2
 generalize pN [c1,c2]=c4 at*
 have h7:=fun t=>we t c4 c3
 generalize pN [c4,c3]=c5 at*
 repeat' (first
 |(refine ai ?_;first
 |refine lN ?_
 |refine mI ?_
 |refine lO (d:=.int _ _) ?_
 |refine lO (d:=.slice _ _ _) ?_
 |refine lO (d:=.agg [_,_]) ?_
 |refine cA rfl h1 ?_
 |refine cA rfl h2 ?_
 |refine cA rfl (h6 _) ?_
 |refine cA rfl (h7 _) ?_
 |(refine fY rfl rfl rfl (h3 _) rfl ?_;intro ta sa hsa hta)
 |(refine fY rfl rfl rfl (h4 _) rfl ?_;intro tb sb hsb htb)
 |refine cA rfl (h5 _ _ _ _ hsa hsb) ?_
 |refine ck rfl rfl rfl rfl rfl ?_
 |refine fD ?_
 |refine bh (ys:=[_,_]) rfl rfl rfl (by decide) rfl ?_
 |refine WS_nil ?_)
 |refine a8 (dj rfl) ?_
 |refine WC_seq ?_
 |refine WC_opsS ?_
 |refine bq ?_
 |refine al ?_)
 exact dH (.inr rfl) rfl rfl
end Go.Lea
/-
  The nodes that are passed.
-/
namespace Go.Lea
open Go.Ev
theorem zI (m:List Eg) (hml:m.length≤1073741824) (t:Tok) (s:Nat) (hs:s=8∨m=[]):∀(post pre:List Eg),m=pre++post→∀(ρ:Nat→D) (st:Store) (out:List Int) (tk:Tok) (so:Nat),out.length≤pre.length+1→st.lim≤st.next→st.tlim≤st.ntok→eV st 1 tk so (out.map (D.int .i64))→
  ρ 10=.slice tk so (out.map (D.int .i64))→ρ 29=.slice t s (m.map Eg.e)→ρ 30=.int .i64 m.length→ρ 31=.int .i64 pre.length→∀(Q:X→(Nat→D)→Store→Prop),
  (∀ρ' st' tk' so',eV st' 1 tk' so' ((out++post.map Eg.to).map (D.int .i64))→ρ' 10=.slice tk' so' ((out++post.map Eg.to).map (D.int .i64))→Q (.exit 0) ρ' st')→WC Γ (.loop fR) ρ st Q:=by
 intro post
 induction post with
 |nil=>
  intro pre hpp ρ st out tk so hol hlim htl hO h10 h29 h30 h31 Q hQ
  rw[List.append_nil]at hpp
  subst hpp
  rw[←aa h10,←aa h29,←aa h30,←aa h31]
  refine WC_loop ?_
  repeat' (first
 |(refine ai ?_;first
 |refine lF ?_
 |refine WS_nil ?_)
 |refine WC_seq ?_
 |refine WC_opsS ?_
 |refine af rfl ?_
 |refine WC_exit ?_)
  exact hQ _ _ tk so (by simpa using hO) (by rw[List.map_nil,List.append_nil];rfl)
 |cons e post ih=>
  intro pre hpp ρ st out tk so hol hlim htl hO h10 h29 h30 h31 Q hQ
  have hv:=jb hpp
  have hlen:m.length=pre.length+(post.length+1):=by rw[hpp];simp
  have hz:s=8:=hs.resolve_right (by rintro rfl;simp at hlen)
  subst hz
  have hpl:pre.length<(m.map Eg.e).length:=by simp;omega
  have hltl:(pre.length:Int)<m.length:=by omega
  have hbd:((out.map (D.int .i64)).length+[D.int .i64 e.to].length)*8≤140737488355328:=by simp;omega
  have hnext:∀(ρ':Nat→D) (st':Store) (tk':Tok) (so':Nat),st'.lim≤st'.next→st'.tlim≤st'.ntok→eV st' 1 tk' so' ((out++[e.to]).map (D.int .i64))→ρ' 10=.slice tk' so' ((out++[e.to]).map (D.int .i64))→ρ' 29=.slice t 8 (m.map Eg.e)→ρ' 30=.int .i64 m.length→ρ' 31=.int .i64 ((pre.length:Int)+1)→WC Γ (.loop fR) ρ' st' Q:=fun ρ' st' tk' so' e1 e2 e3 k10 k29 k30 k31=>
   ih (pre++[e]) (by simp[hpp]) ρ' st' _ tk' so' (by simp;omega) e1 e2 e3 k10 k29 k30 (by rw[List.length_append];exact k31) Q
    (fun ρ'' st'' tk'' so'' f1 f2=>hQ ρ'' st'' tk'' so'' (by simpa using f1) (by rw[f2];simp))
  clear ih hQ
  rw[←aa h10,←aa h29,←aa h30,←aa h31]
  refine WC_loop ?_
  repeat' (first
 |(refine ai ?_;first
 |refine iA (pre.length) hpl ?_
 |refine an (cs':=[_,_,_,_,_,_,_,_]) rfl rfl (ae _ _ _) rfl hlim rfl rfl rfl ?_
 |(refine iS rfl rfl rfl hO (.inl rfl) hbd htl rfl ?_<;>intro k' st' c1 c2 c3 c4 c5 c6 c7)
 |refine mI ?_
 |refine mS ?_
 |refine lT ?_
 |refine aD ?_
 |refine lE (d:=.agg [_,_,_,_,_,_,_,_]) hv ?_
 |refine am (agg:=false) (d:=.int _ _) rfl rfl rfl (dV rfl) (by first|exact Nat.zero_le _|assumption|exact Nat.le_trans hlim (Nat.zero_le _)|omega) rfl ?_
 |refine fD ?_
 |refine aq rfl rfl ?_
 |refine bh (ys:=[_]) rfl rfl rfl (by decide) rfl ?_
 |refine WS_nil ?_)
 |refine WC_seq ?_
 |refine WC_opsS ?_
 |refine WC_skip ?_
 |refine ah rfl ?_
 |refine WC_block ?_)
  refine hnext _ _ (.own k') 1 ?_ c5 (.inr ⟨k',rfl,c6,c7,rfl⟩) ?_ ?_ ?_ ?_
  ·rw[c3,c2];exact Nat.le_succ_of_le hlim
  all_goals first|rfl|(rw[List.map_append];rfl)
theorem mg (l:List Eg) (hll:l.length≤1073741824) (ids:List Int) (hil:ids.length≤1073741824) (fr:Int) (ha:br l fr 0 0) (m:List Eg) (hm:bf l ids fr=some m) (t:Tok) (s:Nat) (hs:s=8∨l=[]) (t':Tok) (s':Nat) (hs':s'=1∨ids=[]):
  EvX Γ 16 [.slice t s (l.map Eg.e),.slice t' s' (ids.map (D.int .i64)),.int .i64 fr] (Go.Ev.IsT (D.int .i64) 1 (fr::m.map Eg.to) [.bool true]):=by
 refine cn rfl rfl ?_
 have hml:=gO l ids fr m hm
 have hS:=fun t t'=>kO l hll ids hil fr m hm t s hs t' s' hs'
 have hA:=fun t=>iT l hll fr 0 0 t s hs
 rw[decide_eq_true ha]at hA
 repeat' (first
 |(refine ai ?_;first
 |refine lN ?_
 |refine mI ?_
 |refine mB ?_
 |refine mS ?_
 |refine mT ?_
 |refine cA rfl (hA _) ?_
 |(refine fw rfl rfl rfl (hS _ _) rfl ?_;intro tm sm hsm tk2 nt2)
 |refine eB ?_
 |refine eS ?_
 |refine nT ?_
 |refine bh (ys:=[_]) rfl rfl rfl (by decide) rfl ?_
 |refine WS_nil ?_)
 |refine WC_seq ?_
 |refine WC_opsS ?_
 |refine WC_skip ?_
 |refine af rfl ?_
 |refine WC_block ?_)
 refine zI m (by omega) tm sm hsm m [] rfl _ {Store.empty with toks:=tk2,ntok:=nt2} [fr] .exact 1 (by simp) (Nat.le_refl _) (Nat.zero_le _) (.inl ⟨.inr rfl,.inl rfl⟩) ?_ ?_ ?_ ?_ _ (fun ρ' st' tk so hO h10=>?_)
 all_goals first|rfl|skip
 rw[←aa h10]
 repeat' (first
 |(refine ai ?_;first
 |refine mB ?_
 |refine mS ?_
 |refine WS_nil ?_)
 |refine WC_seq ?_
 |refine WC_opsS ?_
 |refine al ?_)
 have hso:so=1∨(fr::m.map Eg.to)=[]:=by
  rcases hO with⟨_,h|⟨_,h⟩⟩|⟨_,_,_,_,h⟩
  ·exact .inl h
  ·simp at h
  ·exact .inl h
 exact sB (us:=[.bool true]) (.inr rfl) rfl rfl hso rfl rfl
theorem xN (l:List Eg) (hll:l.length≤1073741824) (ids:List Int) (hil:ids.length≤1073741824) (fr:Int) (h:¬br l fr 0 0∨bf l ids fr=none) (t:Tok) (s:Nat) (hs:s=8∨l=[]) (t':Tok) (s':Nat) (hs':s'=1∨ids=[]):
  EvP Γ 16 [.slice t s (l.map Eg.e),.slice t' s' (ids.map (D.int .i64)),.int .i64 fr] (.tuple [.slice .isnil 0 [],.bool false]):=by
 refine aA rfl rfl ?_
 have hA:=fun t=>iT l hll fr 0 0 t s hs
 by_cases ha:br l fr 0 0
 ·have hm:=h.resolve_left (fun h=>h ha)
  have hS:=fun t t'=>rC l hll ids hil fr hm t s hs t' s' hs'
  rw[decide_eq_true ha]at hA
  repeat' (first
 |(refine ai ?_;first
 |refine mI ?_
 |refine mB ?_
 |refine mS ?_
 |refine mT ?_
 |refine cA rfl (hA _) ?_
 |refine cA rfl (hS _ _) ?_
 |refine eB ?_
 |refine eS ?_
 |refine nT ?_
 |refine WS_nil ?_)
 |refine WC_seq ?_
 |refine WC_opsS ?_
 |refine WC_skip ?_
 |refine ah rfl ?_
 |refine af rfl ?_
 |refine al ?_)
  exact⟨.inr rfl,rfl⟩
 ·rw[decide_eq_false ha]at hA
  repeat' (first
 |(refine ai ?_;first
 |refine mI ?_
 |refine mB ?_
 |refine mS ?_
 |refine cA rfl (hA _) ?_
 |refine nT ?_
 |refine WS_nil ?_)
 |refine WC_seq ?_
 |refine WC_opsS ?_
 |refine ah rfl ?_
 |refine al ?_)
  exact⟨.inr rfl,rfl⟩
theorem uT {id:Int}:∀{l:List Eg} {e:Eg},kQ id l=some e→e∈l:=fun{l}=>by
 have key:∀(l:List Eg) (o:Option Eg) (e:Eg),l.foldl (fun o x=>if id=x.id then some x else o) o=some e→e∈l∨o=some e:=by
  intro l
  induction l with
  |nil=>intro o e h;exact .inr h
  |cons x l ih=>
   intro o e h
   rw[List.foldl_cons]at h
   rcases ih _ e h with h|h
   ·exact .inl (List.mem_cons_of_mem _ h)
   ·split at h
    ·cases h;exact .inl List.mem_cons_self
    ·exact .inr h
 intro e h
 rcases key l none e h with h|h
 ·exact h
 ·cases h
end Go.Lea
/-
  The best route is the best one.
-/
namespace Go.Lea
variable {l:List Eg} {fr to now by' sz:Int} {shut:List Int}
theorem oQ {n t:Int} (h:Reach (gX sz) (jU shut) l fr now n t):∃es,Way sz l fr now es n t∧∀e∈es,e.to∉shut:=by
 induction h with
 |here=>exact⟨[],.nil,by simp⟩
 |go hr he hf hp hc ih=>
  obtain⟨es,h1,h2⟩:=ih
  obtain⟨h3,rfl⟩:=dP.1 hp
  refine⟨es++[_],h1.trans (.cons he hf h3 .nil),fun e h=>?_⟩
  rcases List.mem_append.1 h with h|h
  ·exact h2 e h
  ·rw[List.mem_singleton.1 h]
   simpa[jU]using hc
theorem xX {n t m u:Int} {es:List Eg} (h:Way sz l n t es m u):∃es' u',Way sz l n t es' m u'∧u'≤u∧(∀e∈es',e∈es)∧∀e∈es',e.fr≠m:=by
 induction h with
 |nil=>exact⟨[],_,.nil,Int.le_refl _,by simp,by simp⟩
 |cons he hf hp h ih=>
  rename_i n t m u e es
  by_cases hn:n=m
  ·subst hn
   exact⟨[],t,.nil,(Way.cons he hf hp h).ge,by simp,by simp⟩
  ·obtain⟨es',u',h1,h2,h3,h4⟩:=ih
   refine⟨e::es',u',.cons he hf hp h1,h2,fun e' h=>?_,fun e' h=>?_⟩
   ·rcases List.mem_cons.1 h with rfl|h
    ·exact List.mem_cons_self
    ·exact List.mem_cons_of_mem _ (h3 e' h)
   ·rcases List.mem_cons.1 h with rfl|h
    ·rw[hf];exact hn
    ·exact h4 e' h
theorem tZ {n t m u:Int} {es:List Eg} (h:Way sz l n t es m u):m∈ay n es:=by
 induction h with
 |nil=>simp[ay]
 |cons he hf hp h ih=>
  rename_i n t m u e es
  exact List.mem_cons_of_mem _ ih
theorem wb {n t m u:Int} {es:List Eg} (h:Way sz l n t es m u) (hn:(ay n es).Nodup):∀e∈es,e.fr≠m:=by
 induction h with
 |nil=>simp
 |cons he hf hp h ih=>
  rename_i n t m u e es
  have hn':=List.nodup_cons.1 hn
  intro e' he'
  rcases List.mem_cons.1 he' with rfl|he'
  ·rw[hf]
   rintro rfl
   exact hn'.1 (tZ h)
  ·exact ih hn'.2 e' he'
structure BestR (l:List Eg) (fr to now sz by':Int) (shut:List Int) (es:List Eg) (a:Int):Prop where
 at_:bP to (cT l fr now sz shut)=some a
 le:a≤by'
 way:Way sz l fr now es to a
 nd:(ay fr es).Nodup
 op:∀e∈es,e.to∉shut
 few:nN l fr to now a sz shut=some es.length
 best:∀es' u',Way sz l fr now es' to u'→(ay fr es').Nodup→(∀e∈es',e.to∉shut)→a<u'∨(a=u'∧(es.length<es'.length∨(es.length=es'.length∧(es=es'∨ea (es.map Eg.id) (es'.map Eg.id)= -1))))
theorem qn {n:Nat} (h:nI to sz shut l fr now (l.length+1) 0 [⟨to,by'⟩]=some n):pS l to by' sz shut n fr now:=by
 obtain⟨_,h2,h3,h4⟩:=mV _ _ _ h
 exact⟨h3,h4⟩
theorem pT {a:Int} (h:bP to (cT l fr now sz shut)=some a):br l fr now sz∧br l to a sz:=by
 have ha:=vg (dL h)
 have hr:=(gS ha shut).t1 _ (dL h)
 have h0:now≤a:=rF hr
 exact⟨ha,ii ha.1 hr,ha.2.1,⟨by have:=ha.2.2.1.1;omega,oy ha.2.2.1.2 hr⟩,ha.2.2.2⟩
theorem jy {es:List Eg} {a:Int} (h:cR l fr to now sz by' shut=some (es,a)):BestR l fr to now sz by' shut es a:=by
 unfold cR at h
 split at h
 ·cases h
 ·rename_i a' h1
  split at h
  ·cases h
  ·rename_i hle
   split at h
   ·cases h
   ·rename_i n hn
    obtain⟨ha,hb⟩:=pT h1
    have hn':=hn
    unfold nN at hn'
    rw[if_pos ⟨ha,hb⟩]at hn'
    have hw:=qn hn'
    obtain⟨es',g1,g2,g3⟩:=uc hb n ha.2.2.1.1 hw
    rw[g1]at h
    cases h
    obtain⟨u,hway,hu⟩:=g2.way
    have hT:=gS ha shut
    have hr:=hT.t1 _ (dL h1)
    have hop:∀e∈es,e.to∉shut:=fun e he=>by
     rcases g2.op e he with h2|h2
     ·rw[h2]
      rcases wh hr with h3|h3
      · -- to is where it begins: there is no hop
        exfalso
        have h3:to=fr:=h3
        have hnd:=wb hway g2.nd
        cases hway with
        |nil=>cases he
        |cons _ hf _ _=>exact hnd _ List.mem_cons_self (by rw[hf,h3])
      ·simpa[jU]using h3
     ·exact h2
    have hau:a=u:=by
     obtain⟨v,h2,h3⟩:=hT.at_ (hway.reach hop .here)
     rw[h1]at h2
     cases h2
     omega
    refine⟨h1,by omega,by subst hau;exact hway,g2.nd,hop,by rw[g2.len];exact hn,fun es' u' hw' hnd' hop'=>?_⟩
    have hau':a≤u':=by
     obtain⟨v,h2,h3⟩:=hT.at_ (hw'.reach hop' .here)
     rw[h1]at h2
     cases h2
     exact h3
    rcases Int.lt_or_eq_of_le hau' with h2|h2
    ·exact .inl h2
    ·refine .inr ⟨h2,?_⟩
     subst h2
     have hnd2:=wb hw' hnd'
     have hl:=hw'.late rfl (Int.le_refl _) hb.2.2.1.2 hnd2 (fun e h=>.inr (hop' e h))
     have hnl:n≤es'.length:=by
      rcases Nat.lt_or_ge es'.length n with h3|h3
      ·rw[hw.2 _ h3]at hl;cases hl
      ·exact h3
     rw[g2.len]
     rcases Nat.lt_or_eq_of_le hnl with h3|h3
     ·exact .inl h3
     ·exact .inr ⟨h3,g2.best ha.2.2.2 es' a hw' (Int.le_refl _) h3.symm hnd2 (fun e h=>.inr (hop' e h))⟩
theorem pX (ha:br l fr now sz) {es':List Eg} {u':Int} (hw:Way sz l fr now es' to u') (hop:∀e∈es',e.to∉shut) (hu:u'≤by'):∃es a,cR l fr to now sz by' shut=some (es,a):=by
 have hT:=gS ha shut
 obtain⟨a,h1,h2⟩:=hT.at_ (hw.reach hop .here)
 obtain⟨_,hb⟩:=pT h1
 unfold cR
 rw[h1]
 simp only
 rw[if_neg (by omega)]
 obtain⟨es1,h3,h4⟩:=oQ (hT.t1 _ (dL h1))
 obtain⟨es2,u2,h5,h6,h7,h8⟩:=xX h3
 have hl:=h5.late rfl h6 hb.2.2.1.2 h8 (fun e h=>.inr (h4 e (h7 e h)))
 have hfull:=lj (to:=to) (sz:=sz) (shut:=shut) (l:=l) hb.2.2.1.2 es2.length
 obtain⟨c,c1,c2⟩:=cy.1 hl
 obtain⟨d,d1,d2⟩:=hfull _ _ c1
 cases hf:nN l fr to now a sz shut with
 |none=>
  exfalso
  unfold nN at hf
  rw[if_pos ⟨ha,hb⟩]at hf
  have:=qN _ _ _ hf l.length (by omega)
  rw[cy.2 ⟨d,d1,by have:now≤c:=c2;omega⟩]at this
  cases this
 |some n=>
  have hn:=hf
  unfold nN at hn
  rw[if_pos ⟨ha,hb⟩]at hn
  obtain⟨es,g1,_⟩:=uc hb n ha.2.2.1.1 (qn hn)
  exact⟨es,a,by simp only[g1];rfl⟩
theorem wD:(cR l fr to now sz by' shut).isSome=(match bP to (cT l fr now sz shut)with|some a=>decide (a≤by')|none=>false):=by
 cases h:bP to (cT l fr now sz shut)with
 |none=>unfold cR;rw[h];rfl
 |some a=>
  obtain⟨ha,hb⟩:=pT h
  by_cases hle:a≤by'
  ·obtain⟨es,h1,h2⟩:=oQ ((gS ha shut).t1 _ (dL h))
   obtain⟨es',a',h3⟩:=pX ha h1 h2 hle
   rw[h3]
   simp[hle]
  ·unfold cR
   rw[h]
   simp[hle]
end Go.Lea
/-
  A route by IDs.
-/
namespace Go.Lea
open Go.Ev
/-! ### Plain -/
def aw (sz:Int):List Eg→Int→List Hp
 |[],_=>[]
 |e::r,t=>qe e t sz::aw sz r (aJ e t sz)
def dX (now:Int) (h:List Hp):Int:=h.foldl (fun _ x=>x.ar) now
theorem bu (sz:Int):∀(es:List Eg) (t:Int),(aw sz es t).length=es.length
 |[],_=>rfl
 |e::r,t=>by simp[aw,bu sz r]
theorem ep (sz:Int):∀(es:List Eg) (t:Int),(aw sz es t).map Hp.id=es.map Eg.id
 |[],_=>rfl
 |e::r,t=>by simp[aw,ep sz r,qe]
theorem wE {id:Int}:∀{l:List Eg} {e:Eg},kQ id l=some e→id=e.id:=fun{l}=>by
 have key:∀(l:List Eg) (o:Option Eg) (e:Eg),(∀x,o=some x→id=x.id)→l.foldl (fun o x=>if id=x.id then some x else o) o=some e→id=e.id:=by
  intro l
  induction l with
  |nil=>intro o e ho h;exact ho e h
  |cons x l ih=>
   intro o e ho h
   rw[List.foldl_cons]at h
   refine ih _ e (fun y hy=>?_) h
   split at hy
   ·cases hy;assumption
   ·exact ho y hy
 exact fun{e} h=>key l none e (fun x h=>by cases h) h
theorem wn {l:List Eg} (hl:RL l) {e:Eg} (he:e∈l):kQ e.id l=some e:=by
 have key:∀(m:List Eg) (o:Option Eg),(∀x∈m,e.id=x.id→x=e)→(o=some e∨e∈m)→m.foldl (fun o x=>if e.id=x.id then some x else o) o=some e:=by
  intro m
  induction m with
  |nil=>intro o hu ho;exact ho.resolve_right (by simp)
  |cons x m ih=>
   intro o hu ho
   rw[List.foldl_cons]
   refine ih _ (fun y hy=>hu y (List.mem_cons_of_mem _ hy)) ?_
   by_cases hx:e.id=x.id
   ·rw[if_pos hx,hu x List.mem_cons_self hx];exact .inl rfl
   ·rw[if_neg hx]
    rcases ho with h|h
    ·exact .inl h
    ·rcases List.mem_cons.1 h with rfl|h
     ·exact absurd rfl hx
     ·exact .inr h
 exact key l none (fun x hx h=>(za hl hx he h.symm)) (.inr he)
def oC (l:List Eg):Int→List Eg→Int→Prop
 |n,[],m=>n=m
 |n,e::es,m=>e∈l∧e.fr=n∧oC l e.to es m
theorem i9 {l:List Eg}:∀{ids:List Int} {n:Int} {es:List Eg},bf l ids n=some es→es.map Eg.id=ids∧∃m,oC l n es m
 |[],n,es,h=>by cases h;exact⟨rfl,n,rfl⟩
 |id::ids,n,es,h=>by
  simp only[bf]at h
  split at h
  ·rename_i e hl
   split at h
   ·rename_i hf
    obtain⟨es',h1,rfl⟩:=Option.map_eq_some_iff.mp h
    obtain⟨h2,m,h3⟩:=i9 h1
    exact⟨by rw[List.map_cons,h2,←wE hl],m,uT hl,hf,h3⟩
   ·cases h
  ·cases h
theorem cX {l:List Eg} (hl:RL l):∀{es:List Eg} {n m:Int},oC l n es m→bf l (es.map Eg.id) n=some es
 |[],n,m,h=>rfl
 |e::es,n,m,h=>by
  obtain⟨h1,h2,h3⟩:=h
  rw[List.map_cons,bf,wn hl h1]
  simp only
  rw[if_pos h2,cX hl h3];rfl
theorem Way.chain {sz:Int} {l:List Eg} {n t m u:Int} {es:List Eg} (h:Way sz l n t es m u):oC l n es m:=by
 induction h with
 |nil=>rfl
 |cons he hf hp h ih=>exact⟨he,hf,ih⟩
theorem Way.hops {sz:Int} {l:List Eg} {n t m u:Int} {es:List Eg} (h:Way sz l n t es m u):fX sz es t=some (aw sz es t)∧dX t (aw sz es t)=u:=by
 induction h with
 |nil=>exact⟨rfl,rfl⟩
 |cons he hf hp h ih=>
  rename_i n t m u e es
  refine⟨by simp only[fX,if_pos hp,ih.1,aw,Option.map_some],?_⟩
  simp only[aw,dX,List.foldl_cons]at ih ⊢
  exact ih.2
theorem nv {sz:Int} {l:List Eg}:∀{es:List Eg} {n m t:Int} {h:List Hp},oC l n es m→fX sz es t=some h→∃u,Way sz l n t es m u∧h=aw sz es t
 |[],n,m,t,h,hc,hh=>by
  cases hh
  have hc:n=m:=hc
  subst hc
  exact⟨t,.nil,rfl⟩
 |e::es,n,m,t,h,hc,hh=>by
  simp only[fX]at hh
  split at hh
  ·rename_i hp
   obtain⟨h',h1,rfl⟩:=Option.map_eq_some_iff.mp hh
   obtain⟨c1,c2,c3⟩:=hc
   obtain⟨u,h2,h3⟩:=nv c3 h1
   exact⟨u,.cons c1 c2 hp h2,by rw[h3];rfl⟩
  ·cases hh
theorem ej {l:List Eg}:∀{es:List Eg} {n m:Int},oC l n es m→(ay n es)[(ay n es).length - 1]?=some m
 |[],n,m,h=>by
  have h:n=m:=h
  subst h;rfl
 |e::es,n,m,h=>by
  have:=ej h.2.2
  simp[ay]at this ⊢
  exact this
structure IsRoute (l:List Eg) (fr to now sz:Int) (es:List Eg) (u:Int):Prop where
 ask:br l fr now sz
 way:Way sz l fr now es to u
 nd:(ay fr es).Nodup
theorem gM {l:List Eg} {ids:List Int} {fr now sz:Int} {h:List Hp}:db l ids fr now sz=some h↔br l fr now sz∧∃es m u,bf l ids fr=some es∧es.map Eg.id=ids∧Way sz l fr now es m u∧h=aw sz es now:=by
 unfold db
 by_cases ha:br l fr now sz
 ·rw[if_pos ha]
  constructor
  ·intro hh
   obtain⟨es,h1,h2⟩:=Option.bind_eq_some_iff.mp hh
   obtain⟨h3,m,h4⟩:=i9 h1
   obtain⟨u,h5,h6⟩:=nv h4 h2
   exact⟨ha,es,m,u,h1,h3,h5,h6⟩
  ·rintro⟨_,es,m,u,h1,h3,h5,rfl⟩
   rw[h1,Option.bind_some]
   exact h5.hops.1
 ·rw[if_neg ha]
  simp[ha]
def routeM (l:List Eg) (ids:List Int) (fr to now sz:Int):Option (List Eg):=
 if(1≤to∧to≤255)∧br l fr now sz then match bf l ids fr with
  |some es=>if(fX sz es now).isSome∧(ay fr es)[(ay fr es).length - 1]?=some to∧(ay fr es).Nodup then some es else none
  |none=>none
 else none
theorem jZ {l:List Eg} {ids:List Int} {fr to now sz:Int} {es:List Eg}:routeM l ids fr to now sz=some es↔es.map Eg.id=ids∧∃u,IsRoute l fr to now sz es u:=by
 unfold routeM
 constructor
 ·intro h
  split at h
  ·rename_i ha
   split at h
   ·rename_i es' hs
    split at h
    ·rename_i hc
     cases h
     obtain⟨h1,m,h2⟩:=i9 hs
     obtain⟨hh,h3⟩:=Option.isSome_iff_exists.1 hc.1
     obtain⟨u,h4,_⟩:=nv h2 h3
     have h5:=ej h2
     rw[hc.2.1]at h5
     cases h5
     exact⟨h1,u,ha.2,h4,hc.2.2⟩
    ·cases h
   ·cases h
  ·cases h
 ·rintro⟨rfl,u,ha,hw,hn⟩
  have hto:1≤to∧to≤255:=ii ha.1 (hw.reach (shut:=[]) (by simp) .here)
  rw[if_pos ⟨hto,ha⟩,cX ha.2.2.2 hw.chain]
  simp only
  rw[if_pos ⟨by rw[hw.hops.1];rfl,ej hw.chain,hn⟩]
theorem IsRoute.last {l:List Eg} {fr to now sz:Int} {es:List Eg} {u:Int} (h:IsRoute l fr to now sz es u):dX now (aw sz es now)=u:=h.way.hops.2
theorem IsRoute.to_ok {l:List Eg} {fr to now sz:Int} {es:List Eg} {u:Int} (h:IsRoute l fr to now sz es u):1≤to∧to≤255:=ii h.ask.1 (h.way.reach (shut:=[]) (by simp) .here)
theorem lG {l:List Eg} {fr to now sz:Int} {es:List Eg} {u:Int} (h:IsRoute l fr to now sz es u):es.length≤l.length:=by
 have hn:es.Nodup:=by
  have h1:(es.map Eg.to).Nodup:=(List.nodup_cons.1 h.nd).2
  exact(List.pairwise_map.1 h1).imp fun{a b} hab e=>hab (by rw[e])
 exact uk hn h.way.mem
/-! ### The code -/
theorem KVC.set {kv:List (Int×D)} {pre:List Int} (h:KVC kv (jU pre)) (x:Int):KVC (bM x (.bool true) kv) (jU (pre++[x])):=fun n=>by
 rw[fy]
 by_cases e:n=x
 ·rw[if_pos e];simp[jU,e]
 ·rw[if_neg e,h n];simp[jU,e]
theorem AP (ns:List Int) (hnl:ns.length≤1000000) (t:Tok) (s:Nat) (hs:s=1∨ns=[]) (p q0:Nat) (v4 v14:D):∀(post pre:List Int),ns=pre++post→pre.Nodup→∀(kv:List (Int×D)),KVC kv (jU pre)→∀(ρ:Nat→D) (st:Store) (z:List D),st.lim≤0→p≠q0→st.boxes p=some (.map kv)→st.boxes q0=some (.cells z)→z.length=2→
  ρ 4=v4→ρ 12=.ptr q0 0→ρ 14=v14→ρ 18=.map p→ρ 58=.slice t s (ns.map (D.int .i64))→ρ 59=.int .i64 ns.length→ρ 60=.int .i64 pre.length→∀(Q:X→(Nat→D)→Store→Prop),
  (ns.Nodup→∀ρ' st',st'.lim=st.lim→st'.next=st.next→st'.tlim=st.tlim→st'.toks=st.toks→st'.ntok=st.ntok→st'.boxes q0=some (.cells z)→ρ' 4=v4→ρ' 12=.ptr q0 0→ρ' 14=v14→Q (.exit 0) ρ' st')→(¬ns.Nodup→∀ρ' st',st'.lim=st.lim→st'.boxes q0=some (.cells [.slice .isnil 0 [],.int .i64 0])→ρ' 12=.ptr q0 0→ρ' 13=.bool false→Q .ret ρ' st')→WC Γ (.loop eQ) ρ st Q:=by
 intro post
 induction post with
 |nil=>
  intro pre hpp hpn kv hk ρ st z hlim hpq hb hb0 hz2 h4 h12 h14 h18 h58 h59 h60 Q hQ hQ2
  rw[List.append_nil]at hpp
  subst hpp
  rw[←aa h4,←aa h12,←aa h14,←aa h18,←aa h58,←aa h59,←aa h60]
  refine WC_loop ?_
  repeat' (first
 |(refine ai ?_;first
 |refine lF ?_
 |refine WS_nil ?_)
 |refine WC_seq ?_
 |refine WC_opsS ?_
 |refine af rfl ?_
 |refine WC_exit ?_)
  exact hQ hpn _ _ rfl rfl rfl rfl rfl hb0 rfl rfl rfl
 |cons x post ih=>
  intro pre hpp hpn kv hk ρ st z hlim hpq hb hb0 hz2 h4 h12 h14 h18 h58 h59 h60 Q hQ hQ2
  have hv:=nD hpp
  have hlen:ns.length=pre.length+(post.length+1):=by rw[hpp];simp
  have hz:s=1:=hs.resolve_right (by rintro rfl;simp at hlen)
  subst hz
  have hpl:pre.length<(ns.map (D.int .i64)).length:=by simp;omega
  have hltl:(pre.length:Int)<ns.length:=by omega
  have hl0:st.lim≤q0:=by omega
  have hlp:st.lim≤p:=by omega
  obtain⟨z0,z1,rfl⟩:∃a b,z=[a,b]:=by
   match z,hz2 with
   |[a,b],_=>exact⟨a,b,rfl⟩
  by_cases hx:x∈pre
  ·have hg:(aL x kv).getD (.bool false)=.bool true:=by rw[hk x];simp[jU,hx]
   have hbad:¬ns.Nodup:=fun h=>by
    rw[hpp]at h
    exact(List.nodup_append.1 h).2.2 x hx x List.mem_cons_self rfl
   have hQ2:=hQ2 hbad
   clear ih hQ hpp hbad
   rw[←aa h4,←aa h12,←aa h14,←aa h18,←aa h58,←aa h59,←aa h60]
   refine WC_loop ?_
   repeat' (first
 |(refine ai ?_;first
 |refine iA (pre.length) hpl ?_
 |refine gW rfl rfl rfl hb hg rfl ?_
 |refine an (cs':=[_,_]) rfl rfl hb0 rfl hl0 rfl rfl rfl ?_
 |refine mI ?_
 |refine mB ?_
 |refine mM ?_
 |refine lT ?_
 |refine lE (d:=.int _ _) hv ?_
 |refine bi (cs:=[_,_]) rfl rfl rfl ?_
 |refine WS_nil ?_)
 |refine WC_seq ?_
 |refine WC_opsS ?_
 |refine WC_skip ?_
 |refine ah rfl ?_
 |refine WC_block ?_
 |refine al ?_)
   refine hQ2 _ _ ?_ ?_ ?_ ?_
   ·rfl
   ·exact ae _ _ _
   all_goals rfl
  ·have hg:(aL x kv).getD (.bool false)=.bool false:=by rw[hk x];simp[jU,hx]
   have hpn2:(pre++[x]).Nodup:=by
    rw[List.nodup_append]
    exact⟨hpn,by simp,fun a ha b hb e=>hx (by rw[List.mem_singleton.1 hb]at e;rw[←e];exact ha)⟩
   have hnext:∀(ρ':Nat→D) (st':Store),st'.lim=st.lim→st'.next=st.next→st'.tlim=st.tlim→st'.toks=st.toks→st'.ntok=st.ntok→st'.boxes p=some (.map (bM x (.bool true) kv))→st'.boxes q0=some (.cells [z0,z1])→ρ' 4=v4→ρ' 12=.ptr q0 0→ρ' 14=v14→ρ' 18=.map p→ρ' 58=.slice t 1 (ns.map (D.int .i64))→ρ' 59=.int .i64 ns.length→ρ' 60=.int .i64 ((pre.length:Int)+1)→WC Γ (.loop eQ) ρ' st' Q:=fun ρ' st' e1 e2 e3 e4 e5 e6 e7 k4 k12 k14 k18 k58 k59 k60=>
    ih (pre++[x]) (by simp[hpp]) hpn2 _ (hk.set x) ρ' st' [z0,z1] (by omega) hpq e6 e7 rfl k4 k12 k14 k18 k58 k59 (by rw[List.length_append];exact k60) Q
     (fun h ρ'' st'' f1 f2 f3 f4 f5 f6 f7 f8 f9=>hQ h ρ'' st'' (f1.trans e1) (f2.trans e2) (f3.trans e3) (f4.trans e4) (f5.trans e5) f6 f7 f8 f9) (fun h ρ'' st'' f1=>hQ2 h ρ'' st'' (f1.trans e1))
   clear ih hQ hQ2 hpp
   rw[←aa h4,←aa h12,←aa h14,←aa h18,←aa h58,←aa h59,←aa h60]
   refine WC_loop ?_
   repeat' (first
 |(refine ai ?_;first
 |refine iA (pre.length) hpl ?_
 |refine gW rfl rfl rfl hb hg rfl ?_
 |refine dk (v:=.bool true) rfl rfl rfl hb hlp rfl rfl ?_
 |refine mI ?_
 |refine mM ?_
 |refine lT ?_
 |refine aD ?_
 |refine lE (d:=.int _ _) hv ?_
 |refine WS_nil ?_)
 |refine WC_seq ?_
 |refine WC_opsS ?_
 |refine WC_skip ?_
 |refine ah rfl ?_
 |refine af rfl ?_
 |refine WC_block ?_)
   refine hnext _ _ rfl rfl rfl rfl rfl (ae _ _ _) ((ab _ _ (Ne.symm hpq)).trans hb0) ?_ ?_ ?_ ?_ ?_ ?_ ?_<;>rfl
theorem AB (hs:List Hp) (hll:hs.length≤1000000) (now:Int) (t:Tok) (s:Nat) (hsz:s=3∨hs=[]) (q q0:Nat) (hqq:q≠q0) (S:D):∀(post pre:List Hp),hs=pre++post→∀(ρ:Nat→D) (st:Store) (z:List D),st.lim≤0→q<st.next→q0<st.next→st.boxes q=some (.cells [S,.int .i64 (dX now pre)])→st.boxes q0=some (.cells z)→
  ρ 12=.ptr q0 0→ρ 21=.ptr q 0→ρ 74=.slice t s (hs.map Hp.e)→ρ 75=.int .i64 hs.length→ρ 76=.int .i64 pre.length→∀(Q:X→(Nat→D)→Store→Prop),
  (∀ρ' st',st'.lim=st.lim→st'.tlim=st.tlim→st'.toks=st.toks→st'.ntok=st.ntok→st'.boxes q=some (.cells [S,.int .i64 (dX now hs)])→st'.boxes q0=some (.cells z)→ρ' 12=.ptr q0 0→ρ' 21=.ptr q 0→Q (.exit 2) ρ' st')→WC Γ (.loop eU) ρ st Q:=by
 intro post
 induction post with
 |nil=>
  intro pre hpp ρ st z hlim hqn hq0n hb hb0 h12 h21 h74 h75 h76 Q hQ
  rw[List.append_nil]at hpp
  subst hpp
  rw[←aa h12,←aa h21,←aa h74,←aa h75,←aa h76]
  refine WC_loop ?_
  repeat' (first
 |(refine ai ?_;first
 |refine lF ?_
 |refine WS_nil ?_)
 |refine WC_seq ?_
 |refine WC_opsS ?_
 |refine af rfl ?_
 |refine WC_exit ?_)
  refine hQ _ _ rfl rfl rfl rfl hb hb0 ?_ ?_<;>rfl
 |cons x post ih=>
  intro pre hpp ρ st z hlim hqn hq0n hb hb0 h12 h21 h74 h75 h76 Q hQ
  have hv:=sr hpp
  have hlen:hs.length=pre.length+(post.length+1):=by rw[hpp];simp
  have hz:s=3:=hsz.resolve_right (by rintro rfl;simp at hlen)
  subst hz
  have hpl:pre.length<(hs.map Hp.e).length:=by simp;omega
  have hltl:(pre.length:Int)<hs.length:=by omega
  have hlim2:st.lim≤st.next:=by omega
  have hlq:st.lim≤q:=by omega
  have hne:q≠st.next:=Nat.ne_of_lt hqn
  have hne0:q0≠st.next:=Nat.ne_of_lt hq0n
  have hla:dX now (pre++[x])=x.ar:=by simp[dX]
  have hnext:∀(ρ':Nat→D) (st':Store),st'.lim=st.lim→st.next≤st'.next→st'.tlim=st.tlim→st'.toks=st.toks→st'.ntok=st.ntok→st'.boxes q=some (.cells [S,.int .i64 x.ar])→st'.boxes q0=some (.cells z)→ρ' 12=.ptr q0 0→ρ' 21=.ptr q 0→ρ' 74=.slice t 3 (hs.map Hp.e)→ρ' 75=.int .i64 hs.length→ρ' 76=.int .i64 ((pre.length:Int)+1)→WC Γ (.loop eU) ρ' st' Q:=fun ρ' st' e1 e2 e3 e4 e5 e6 e7 k12 k21 k74 k75 k76=>
   ih (pre++[x]) (by simp[hpp]) ρ' st' z (by omega) (by omega) (by omega) (by rw[hla];exact e6) e7 k12 k21 k74 k75 (by rw[List.length_append];exact k76) Q
    (fun ρ'' st'' f1 f3 f4 f5=>hQ ρ'' st'' (f1.trans e1) (f3.trans e3) (f4.trans e4) (f5.trans e5))
  clear ih hQ hpp
  generalize dX now pre=c at*
  rw[←aa h12,←aa h21,←aa h74,←aa h75,←aa h76]
  refine WC_loop ?_
  repeat' (first
 |(refine ai ?_;first
 |refine iA (pre.length) hpl ?_
 |refine an (cs':=[_,_,_]) rfl rfl (ae _ _ _) rfl hlim2 rfl rfl rfl ?_
 |refine an (cs':=[_,_]) rfl rfl ((ab _ _ hne).trans ((ab _ _ hne).trans hb)) rfl hlq rfl rfl rfl ?_
 |refine mI ?_
 |refine lT ?_
 |refine aD ?_
 |refine lE (d:=.agg [_,_,_]) hv ?_
 |refine am (agg:=false) (d:=.int _ _) rfl rfl rfl (dV rfl) (by first|exact Nat.zero_le _|assumption|exact Nat.le_trans hlim (Nat.zero_le _)|omega) rfl ?_
 |refine fD ?_
 |refine aq rfl rfl ?_
 |refine WS_nil ?_)
 |refine WC_seq ?_
 |refine WC_opsS ?_
 |refine WC_skip ?_
 |refine ah rfl ?_
 |refine WC_block ?_)
  refine hnext _ _ rfl (Nat.le_succ _) rfl rfl rfl (ae _ _ _) ((ab _ _ (Ne.symm hqq)).trans ((ab _ _ hne0).trans ((ab _ _ hne0).trans hb0))) ?_ ?_ ?_ ?_ ?_<;>rfl
end Go.Lea
/-
  A route by IDs, as the code finds it; the next hop.
-/
namespace Go.Lea
open Go.Ev
theorem ua {ρ:Nat→D} {st:Store} {i j q:Nat} {a b d:D} (h1:ρ i=.ptr q 0) (h2:st.boxes q=some (.cells [a,b])) (h3:st.lim≤q) (h4:ρ j=d):aB ρ st [.cell i true 2,.tmp j]=some (.tuple [.agg [a,b],d]):=by
 simp[aB,lB,h1,h4,Store.cellsAt,h2,Box.cs,Nat.not_lt.2 h3,cut]
theorem sX {ρ:Nat→D} {st:Store} {i j q:Nat} (h1:ρ i=.ptr q 0) (h2:st.boxes q=some (.cells [.slice .isnil 0 [],.int .i64 0])) (h3:st.lim≤q) (h4:ρ j=.bool false):(X.ret=.normal∨X.ret=.ret)∧(aB ρ st [.cell i true 2,.tmp j]).bind (dy st)=some (.tuple [.agg [.slice .isnil 0 [],.int .i64 0],.bool false]):=⟨.inr rfl,by rw[ua h1 h2 h3 h4];rfl⟩
theorem uj {a:List Int} (h:a≠[]):a.length - 1<a.length:=by
 have:=List.length_pos_iff.2 h
 omega
set_option maxHeartbeats 8000000 in
theorem qP (l:List Eg) (hll:l.length≤1000) (ids:List Int) (hil:ids.length≤1000) (fr to now sz:Int) (es:List Eg) (hr:routeM l ids fr to now sz=some es) (t t':Tok) (s s':Nat) (hs:s=8∨l=[]) (hs':s'=1∨ids=[]):
  EvX Γ 22 [.slice t s (l.map Eg.e),.slice t' s' (ids.map (D.int .i64)),.int .i64 fr,.int .i64 to,.int .i64 now,.int .i64 sz] (uM Hp.e 3 (aw sz es now) [.int .i64 (dX now (aw sz es now))] [.bool true]):=by
 obtain⟨hid,u,hR⟩:=jZ.1 hr
 have hst:bf l ids fr=some es:=by rw[←hid];exact cX hR.ask.2.2.2 hR.way.chain
 have hW:=fun t t'=>qf l (by omega) ids (by omega) fr now sz (aw sz es now) (gM.2 ⟨hR.ask,es,to,u,hst,hid,hR.way,rfl⟩) t s hs t' s' hs'
 have ha0:br l fr 0 0:=⟨hR.ask.1,by omega,by omega,hR.ask.2.2.2⟩
 have hE:=fun t t'=>mg l (by omega) ids (by omega) fr ha0 es hst t s hs t' s' hs'
 have hN:=il to
 rw[decide_eq_true hR.to_ok]at hN
 have hend:=ej hR.way.chain
 have hnd:=hR.nd
 have hnl:=lG hR
 have hhl:=bu sz es now
 have hnn:ay fr es=fr::es.map Eg.to:=rfl
 rw[←hnn]at hE
 have hnl2:(ay fr es).length=es.length+1:=by simp[ay]
 have hne:ay fr es≠[]:=by simp[ay]
 refine cn rfl rfl ?_
 clear hnn
 generalize ay fr es=ns at*
 generalize aw sz es now=hs at*
 have hj:ns.length - 1<(ns.map (D.int .i64)).length:=by rw[List.length_map];exact uj hne
 have hsub:IntKind.i64.wrap ((ns.length:Int) - 1)=((ns.length - 1:Nat):Int):=by rw[rV (by omega)];omega
 clear hR hr hst hid ha0
 repeat' (first
 |(refine ai ?_;first
 |refine lN ?_
 |refine aS (s:=((ns.length - 1:Nat):Int)) (hs:=hsub) ?_
 |refine kD (j:=ns.length - 1) rfl rfl rfl rfl (qz hsn (by omega)) hj ?_
 |refine eu rfl rfl ?_
 |refine mI ?_
 |refine mB ?_
 |refine mS ?_
 |refine mT ?_
 |refine mM ?_
 |refine fC rfl rfl rfl rfl (by omega) ?_
 |refine lE (d:=.int _ _) hend ?_
 |refine cA rfl hN ?_
 |(refine fw rfl rfl rfl (hW _ _) rfl ?_;intro tm sm hsm tk2 nt2)
 |(refine fw rfl rfl rfl (hE _ _) rfl ?_;intro tn sn hsn tk3 nt3)
 |refine pB ?_
 |refine eB ?_
 |refine eS ?_
 |refine nT ?_
 |refine aq rfl rfl ?_
 |refine WS_nil ?_)
 |refine WC_seq ?_
 |refine WC_opsS ?_
 |refine WC_skip ?_
 |refine af rfl ?_
 |refine WC_block ?_)
 refine AP ns (by omega) tn sn hsn 1 0 (.int .i64 now) (.slice tm sm (hs.map Hp.e)) ns [] rfl List.nodup_nil [] (fun n=>rfl) _ _ [.slice .isnil 0 [],.int .i64 0] ?_ (by decide) ?_ ?_ rfl ?_ ?_ ?_ ?_ ?_ ?_ ?_ _ (fun _ ρ' st' e1 e2 e3 e4 e5 e6 k4 k12 k14=>?_) (fun h=>absurd hnd h)
 ·exact Nat.le_refl _
 ·rfl
 ·rfl
 all_goals first|rfl|skip
 have e1':st'.lim=0:=e1
 have e2':st'.next=2:=e2
 have hl2:st'.lim≤st'.next:=by omega
 have hn0:(0:Nat)≠st'.next:=by omega
 rw[←aa k4,←aa k12,←aa k14]
 repeat' (first
 |(refine ai ?_;first
 |refine an (cs':=[_,_]) rfl rfl (ae _ _ _) rfl hl2 rfl rfl rfl ?_
 |refine mI ?_
 |refine mS ?_
 |refine bi (cs:=[_,_]) rfl rfl rfl ?_
 |refine lN ?_
 |refine aq rfl rfl ?_
 |refine WS_nil ?_)
 |refine WC_seq ?_
 |refine WC_opsS ?_
 |refine WC_block ?_)
 refine AB hs (by omega) now tm sm hsm st'.next 0 (by omega) (.slice tm sm (hs.map Hp.e)) hs [] rfl _ _ [.slice .isnil 0 [],.int .i64 0] ?_ ?_ ?_ ?_ ?_ ?_ ?_ ?_ ?_ ?_ _ (fun ρ2 st2 f1 f3 f4 f5 f6 f7 k12 k21=>?_)
 ·show st'.lim≤0
  omega
 ·exact Nat.lt_succ_self _
 ·show 0<st'.next+1
  omega
 ·exact ae _ _ _
 ·exact(ab _ _ hn0).trans ((ab _ _ hn0).trans e6)
 all_goals first|rfl|skip
 have f1':st2.lim=0:=f1.trans e1'
 have hl3:st2.lim≤0:=by omega
 have hl4:st2.lim≤st'.next:=by omega
 rw[←aa k12,←aa k21]
 have hbx:(st2.boxes st'.next).bind Box.cs=some [.slice tm sm (hs.map Hp.e),.int .i64 (dX now hs)]:=by rw[f6];rfl
 repeat' (first
 |(refine ai ?_;first
 |refine an (cs':=[_,_]) rfl rfl f7 rfl hl3 rfl rfl rfl ?_
 |refine mB ?_
 |refine am (agg:=true) (d:=.agg [_,_]) rfl rfl rfl hbx hl4 rfl ?_
 |refine WS_nil ?_)
 |refine WC_seq ?_
 |refine WC_opsS ?_
 |refine al ?_)
 exact sC (.inr rfl) (ua (q:=0) rfl rfl (by show st2.lim≤0;omega) rfl) rfl rfl hsm rfl rfl rfl
end Go.Lea
/-
  The next hop of the best route.
-/
namespace Go.Lea
open Go.Ev
theorem uJ (n:Int) (l:List Rd) (hll:l.length≤1073741824) (u:Int) (hu:bP n l=some u) (t:Tok) (sz:Nat) (hs:sz=2∨l=[]):EvP Γ2 20 [.slice t sz (l.map Rd.e),.int .i64 n] (.tuple [.int .i64 u,.bool true]):=by
 have h:=AV n l hll t sz hs
 rw[hu]at h
 exact h.grow kz
theorem wW (n:Int) (l:List Rd) (hll:l.length≤1073741824) (hu:bP n l=none) (t:Tok) (sz:Nat) (hs:sz=2∨l=[]):EvP Γ2 20 [.slice t sz (l.map Rd.e),.int .i64 n] (.tuple [.int .i64 0,.bool false]):=by
 have h:=AV n l hll t sz hs
 rw[hu]at h
 exact h.grow kz
theorem zL (n:Int) (l:List Rd) (hll:l.length≤1073741824) (sz:Nat) (hs:sz=2∨l=[]):∃v b,∀t,EvP Γ2 20 [.slice t sz (l.map Rd.e),.int .i64 n] (.tuple [.int .i64 v,.bool b]):=by
 cases h:bP n l with
 |none=>exact⟨_,_,fun t=>wW n l hll h t sz hs⟩
 |some u=>exact⟨_,_,fun t=>uJ n l hll u h t sz hs⟩
def yQ (t sz:Int):Option Eg→D
 |some e=>.tuple [.agg [.int .i64 e.id,.int .i64 (mx t e.op),.int .i64 (aJ e t sz)],.int .i64 e.to,.bool true]
 |none=>.tuple [.agg [.int .i64 0,.int .i64 0,.int .i64 0],.int .i64 0,.bool false]
theorem yU {ρ:Nat→D} {st:Store} {X0:X} {i j k q:Nat} {a b c n:Int} {o:Bool} {r:D} (hx:X0=.normal∨X0=.ret) (h1:ρ i=.ptr q 0) (h2:st.boxes q=some (.cells [.int .i64 a,.int .i64 b,.int .i64 c])) (h3:st.lim≤q) (h4:ρ j=.int .i64 n) (h5:ρ k=.bool o) (hr:r=.tuple [.agg [.int .i64 a,.int .i64 b,.int .i64 c],.int .i64 n,.bool o]):(X0=.normal∨X0=.ret)∧(aB ρ st [.cell i true 3,.tmp j,.tmp k]).bind (dy st)=some r:=by
 subst hr
 refine⟨hx,?_⟩
 have:aB ρ st [.cell i true 3,.tmp j,.tmp k]=some (.tuple [.agg [.int .i64 a,.int .i64 b,.int .i64 c],.int .i64 n,.bool o]):=by
  simp[aB,lB,h1,h4,h5,Store.cellsAt,h2,Box.cs,Nat.not_lt.2 h3,cut]
 rw[this]
 rfl
set_option maxHeartbeats 16000000 in
theorem At (to sz by':Int) (shut:List Int) (hsl:shut.length≤1000000) (node now:Int) (L:List Rd) (hLl:L.length≤1000000) (E:D) (te tl t':Tok) (se sl s':Nat) (hs':s'=1∨shut=[]) (hsl':sl=2∨L=[]) (es:List Eg) (hel:es.length≤1000000) (hse:se=8∨es=[]):∀(post pre:List Eg),es=pre++post→∀(ρ:Nat→D) (st:Store),st.lim≤0→2≤st.next→st.boxes 0=some (.cells [E,.int .i64 to,.int .i64 sz,.int .i64 by',.slice t' s' (shut.map (D.int .i64))])→st.boxes 1=some (.cells [.int .i64 0,.int .i64 0,.int .i64 0])→
  ρ 2=.int .i64 now→ρ 4=.ptr 0 0→ρ 8=.ptr 1 0→ρ 11=.slice tl sl (L.map Rd.e)→ρ 34=.slice te se (es.map Eg.e)→ρ 35=.int .i64 es.length→ρ 36=.int .i64 pre.length→∀(Q:X→(Nat→D)→Store→Prop),
  (post.find? (qi to sz shut L now)=none→∀ρ' st',st'.lim=st.lim→st'.boxes 1=some (.cells [.int .i64 0,.int .i64 0,.int .i64 0])→ρ' 8=.ptr 1 0→Q (.exit 0) ρ' st')→(∀e,post.find? (qi to sz shut L now)=some e→∀ρ' st',st'.lim=st.lim→st'.boxes 1=some (.cells [.int .i64 e.id,.int .i64 (mx now e.op),.int .i64 (aJ e now sz)])→ρ' 8=.ptr 1 0→ρ' 9=.int .i64 e.to→ρ' 10=.bool true→Q .ret ρ' st')→WC Γ2 (.loop ct) ρ st Q:=by
 intro post
 induction post with
 |nil=>
  intro pre hpp ρ st hlim hnx hb0 hb1 h2 h4 h8 h11 h34 h35 h36 Q hQ hQ2
  rw[List.append_nil]at hpp
  subst hpp
  rw[←aa h2,←aa h4,←aa h8,←aa h11,←aa h34,←aa h35,←aa h36]
  refine WC_loop ?_
  repeat' (first
 |(refine ai ?_;first
 |refine lF ?_
 |refine WS_nil ?_)
 |refine WC_seq ?_
 |refine WC_opsS ?_
 |refine af rfl ?_
 |refine WC_exit ?_)
  exact hQ rfl _ _ rfl hb1 rfl
 |cons e post ih=>
  intro pre hpp ρ st hlim hnx hb0 hb1 h2 h4 h8 h11 h34 h35 h36 Q hQ hQ2
  have hv:=jb hpp
  have hlen:es.length=pre.length+(post.length+1):=by rw[hpp];simp
  have hz:se=8:=hse.resolve_right (by rintro rfl;simp at hlen)
  subst hz
  have hpl:pre.length<(es.map Eg.e).length:=by simp;omega
  have hltl:(pre.length:Int)<es.length:=by omega
  have hlim2:st.lim≤st.next:=by omega
  have hlim0:st.lim≤0:=hlim
  have hlim1:st.lim≤1:=by omega
  have hn0:0≠st.next:=by omega
  have hn1:1≠st.next:=by omega
  have q0:∀{x y:Option Box},((ap (ap st.boxes st.next x) st.next y) 0).bind Box.cs=some [E,.int .i64 to,.int .i64 sz,.int .i64 by',.slice t' s' (shut.map (D.int .i64))]:=fun{x y}=>by rw[ab _ _ hn0,ab _ _ hn0,hb0];rfl
  have q0':∀{x y:Option Box},ap (ap st.boxes st.next x) st.next y 0=some (.cells [E,.int .i64 to,.int .i64 sz,.int .i64 by',.slice t' s' (shut.map (D.int .i64))]):=fun{x y}=>(ab _ _ hn0).trans ((ab _ _ hn0).trans hb0)
  have q1':∀{x y:Option Box},ap (ap st.boxes st.next x) st.next y 1=some (.cells [.int .i64 0,.int .i64 0,.int .i64 0]):=fun{x y}=>(ab _ _ hn1).trans ((ab _ _ hn1).trans hb1)
  have q1:∀{x:Option Box},((ap (ap st.boxes st.next x) st.next (some (Box.cells e.e.cells))) st.next).bind Box.cs=some e.e.cells:=fun{x}=>by rw[ae];rfl
  have hN1:(st.next==1)=false:=by simp;omega
  have hN2:(1==st.next)=false:=by simp;omega
  have hnext:qi to sz shut L now e=false→∀(ρ':Nat→D) (st':Store),st'.lim=st.lim→st.next≤st'.next→st'.boxes 0=some (.cells [E,.int .i64 to,.int .i64 sz,.int .i64 by',.slice t' s' (shut.map (D.int .i64))])→st'.boxes 1=some (.cells [.int .i64 0,.int .i64 0,.int .i64 0])→ρ' 2=.int .i64 now→ρ' 4=.ptr 0 0→ρ' 8=.ptr 1 0→ρ' 11=.slice tl sl (L.map Rd.e)→ρ' 34=.slice te 8 (es.map Eg.e)→ρ' 35=.int .i64 es.length→ρ' 36=.int .i64 ((pre.length:Int)+1)→WC Γ2 (.loop ct) ρ' st' Q:=fun ho ρ' st' e1 e2 e3 e4 k2 k4 k8 k11 k34 k35 k36=>
   ih (pre++[e]) (by simp[hpp]) ρ' st' (by omega) (by omega) e3 e4 k2 k4 k8 k11 k34 k35 (by rw[List.length_append];exact k36) Q
    (fun h ρ'' st'' f1=>hQ (by rw[List.find?_cons,ho];exact h) ρ'' st'' (f1.trans e1)) (fun x h ρ'' st'' f1=>hQ2 x (by rw[List.find?_cons,ho];exact h) ρ'' st'' (f1.trans e1))
  have hgo:qi to sz shut L now e=true→∀ρ' st',st'.lim=st.lim→st'.boxes 1=some (.cells [.int .i64 e.id,.int .i64 (mx now e.op),.int .i64 (aJ e now sz)])→ρ' 8=.ptr 1 0→ρ' 9=.int .i64 e.to→ρ' 10=.bool true→Q .ret ρ' st':=fun ho=>hQ2 e (by rw[List.find?_cons,ho])
  have hP:=(sN e now sz).grow kz
  unfold rq at hP
  have hC:=fun t=>(kp e.to shut (by omega) t s' hs').grow kz
  obtain⟨v1,b1,hAny⟩:=zL e.to L (by omega) sl hsl'
  clear ih hQ hQ2 hpp
  rw[←aa h2,←aa h4,←aa h8,←aa h11,←aa h34,←aa h35,←aa h36]
  refine WC_loop ?_
  by_cases hc:di e now sz
  ·rw[if_pos hc]at hP
   cases ha:bP e.to L with
   |none=>
    have ho:qi to sz shut L now e=false:=by unfold qi;rw[ha]
    have hA:=fun t=>wW e.to L (by omega) ha t sl hsl'
    have hnext:=hnext ho
    clear hgo
    repeat' (first
 |(refine ai ?_;first
 |refine iA (pre.length) hpl ?_
 |refine an (cs':=[_,_,_,_,_,_,_,_]) rfl rfl (ae _ _ _) rfl hlim2 rfl rfl rfl ?_
 |refine aj rfl ?_
 |refine mI ?_
 |refine mB ?_
 |refine mS ?_
 |refine mT ?_
 |refine aj rfl ?_
 |refine lT ?_
 |refine aD ?_
 |refine aj rfl ?_
 |refine lE (d:=.agg [_,_,_,_,_,_,_,_]) hv ?_
 |refine am (agg:=true) (d:=.agg [_,_,_,_,_,_,_,_]) rfl rfl rfl q1 hlim2 rfl ?_
 |refine am (agg:=false) (d:=.int _ _) rfl rfl rfl q1 hlim2 rfl ?_
 |refine am (agg:=false) (d:=.int _ _) rfl rfl rfl q0 hlim0 rfl ?_
 |refine aj rfl ?_
 |refine cA rfl hP ?_
 |refine cA rfl (hA _) ?_
 |refine pB ?_
 |refine aj rfl ?_
 |refine eI ?_
 |refine eB ?_
 |refine fD ?_
 |refine aq rfl rfl ?_
 |refine aj rfl ?_
 |refine WS_nil ?_)
 |refine WC_seq ?_
 |refine WC_opsS ?_
 |refine WC_skip ?_
 |refine ah rfl ?_
 |refine af rfl ?_
 |refine WC_block ?_)
    refine hnext _ _ rfl (Nat.le_succ _) q0' q1' ?_ ?_ ?_ ?_ ?_ ?_ ?_<;>rfl
   |some b=>
    have hA:=fun t=>uJ e.to L (by omega) b ha t sl hsl'
    by_cases hle:aJ e now sz≤b
    ·by_cases hto:e.to=to
     ·have hgo:=hgo (fj.2 ⟨b,ha,hc,hle,.inl hto⟩)
      clear hnext
      generalize aJ e now sz=th at*
      generalize mx now e.op=sd at*
      repeat' (first
 |(refine ai ?_;first
 |refine iA (pre.length) hpl ?_
 |refine an (cs':=[_,_,_,_,_,_,_,_]) rfl rfl (ae _ _ _) rfl hlim2 rfl rfl rfl ?_
 |refine pV rfl rfl rfl rfl hle ?_
 |refine fK rfl rfl rfl rfl hto ?_
 |refine an (cs':=[_,_,_]) rfl rfl q1' rfl hlim1 rfl rfl rfl ?_
 |refine mI ?_
 |refine mB ?_
 |refine mS ?_
 |refine mT ?_
 |refine lT ?_
 |refine aj rfl ?_
 |refine lE (d:=.agg [_,_,_,_,_,_,_,_]) hv ?_
 |refine am (agg:=true) (d:=.agg [_,_,_,_,_,_,_,_]) rfl rfl rfl q1 hlim2 rfl ?_
 |refine am (agg:=false) (d:=.int _ _) rfl rfl rfl q1 hlim2 rfl ?_
 |refine am (agg:=false) (d:=.int _ _) rfl rfl rfl q0 hlim0 rfl ?_
 |refine aj rfl ?_
 |refine cA rfl hP ?_
 |refine cA rfl (hA _) ?_
 |refine pB ?_
 |refine eI ?_
 |refine eB ?_
 |refine bi (cs:=[_,_,_]) rfl rfl rfl ?_
 |refine fD ?_
 |refine aq rfl rfl ?_
 |refine aj rfl ?_
 |refine WS_nil ?_)
 |refine a8 (by simp[bC,List.range,List.range.loop,Fl.clash,hN1,hN2]) ?_
 |refine WC_seq ?_
 |refine WC_opsS ?_
 |refine bq ?_
 |refine WC_skip ?_
 |refine ah rfl ?_
 |refine WC_block ?_
 |refine al ?_)
      refine hgo _ _ rfl rfl ?_ ?_ ?_<;>rfl
     ·by_cases hin:e.to∈shut
      ·have ho:qi to sz shut L now e=false:=by
        cases h:qi to sz shut L now e with
        |false=>rfl
        |true=>
         obtain⟨_,_,_,_,h|h⟩:=fj.1 h
         ·exact absurd h hto
         ·exact absurd hin h
       have hnext:=hnext ho
       rw[decide_eq_true hin]at hC
       clear hgo
       repeat' (first
 |(refine ai ?_;first
 |refine iA (pre.length) hpl ?_
 |refine an (cs':=[_,_,_,_,_,_,_,_]) rfl rfl (ae _ _ _) rfl hlim2 rfl rfl rfl ?_
 |refine pV rfl rfl rfl rfl hle ?_
 |refine dz rfl rfl rfl rfl hto ?_
 |refine mI ?_
 |refine mB ?_
 |refine mS ?_
 |refine mT ?_
 |refine lT ?_
 |refine aD ?_
 |refine lE (d:=.agg [_,_,_,_,_,_,_,_]) hv ?_
 |refine am (agg:=true) (d:=.agg [_,_,_,_,_,_,_,_]) rfl rfl rfl q1 hlim2 rfl ?_
 |refine am (agg:=false) (d:=.int _ _) rfl rfl rfl q1 hlim2 rfl ?_
 |refine am (agg:=false) (d:=.int _ _) rfl rfl rfl q0 hlim0 rfl ?_
 |refine am (agg:=false) (d:=.slice _ _ _) rfl rfl rfl q0 hlim0 rfl ?_
 |refine cA rfl (hC _) ?_
 |refine cA rfl hP ?_
 |refine cA rfl (hA _) ?_
 |refine pB ?_
 |refine eI ?_
 |refine eB ?_
 |refine nT ?_
 |refine fD ?_
 |refine aq rfl rfl ?_
 |refine WS_nil ?_)
 |refine WC_seq ?_
 |refine WC_opsS ?_
 |refine WC_skip ?_
 |refine ah rfl ?_
 |refine af rfl ?_
 |refine WC_block ?_)
       refine hnext _ _ rfl (Nat.le_succ _) q0' q1' ?_ ?_ ?_ ?_ ?_ ?_ ?_<;>rfl
      ·have hgo:=hgo (fj.2 ⟨b,ha,hc,hle,.inr hin⟩)
       rw[decide_eq_false hin]at hC
       clear hnext
       generalize aJ e now sz=th at*
       generalize mx now e.op=sd at*
       repeat' (first
 |(refine ai ?_;first
 |refine iA (pre.length) hpl ?_
 |refine an (cs':=[_,_,_,_,_,_,_,_]) rfl rfl (ae _ _ _) rfl hlim2 rfl rfl rfl ?_
 |refine pV rfl rfl rfl rfl hle ?_
 |refine dz rfl rfl rfl rfl hto ?_
 |refine an (cs':=[_,_,_]) rfl rfl q1' rfl hlim1 rfl rfl rfl ?_
 |refine mI ?_
 |refine mB ?_
 |refine mS ?_
 |refine mT ?_
 |refine lT ?_
 |refine lE (d:=.agg [_,_,_,_,_,_,_,_]) hv ?_
 |refine am (agg:=true) (d:=.agg [_,_,_,_,_,_,_,_]) rfl rfl rfl q1 hlim2 rfl ?_
 |refine am (agg:=false) (d:=.int _ _) rfl rfl rfl q1 hlim2 rfl ?_
 |refine am (agg:=false) (d:=.int _ _) rfl rfl rfl q0 hlim0 rfl ?_
 |refine am (agg:=false) (d:=.slice _ _ _) rfl rfl rfl q0 hlim0 rfl ?_
 |refine cA rfl (hC _) ?_
 |refine cA rfl hP ?_
 |refine cA rfl (hA _) ?_
 |refine pB ?_
 |refine eI ?_
 |refine eB ?_
 |refine bi (cs:=[_,_,_]) rfl rfl rfl ?_
 |refine nT ?_
 |refine fD ?_
 |refine aq rfl rfl ?_
 |refine WS_nil ?_)
 |refine a8 (by simp[bC,List.range,List.range.loop,Fl.clash,hN1,hN2]) ?_
 |refine WC_seq ?_
 |refine WC_opsS ?_
 |refine bq ?_
 |refine WC_skip ?_
 |refine ah rfl ?_
 |refine WC_block ?_
 |refine al ?_)
       refine hgo _ _ rfl rfl ?_ ?_ ?_<;>rfl
    ·have ho:qi to sz shut L now e=false:=by
      cases h:qi to sz shut L now e with
      |false=>rfl
      |true=>
       obtain⟨b',h1,_,h2,_⟩:=fj.1 h
       rw[ha]at h1
       cases h1
       exact absurd h2 hle
     have hnext:=hnext ho
     have hle':b<aJ e now sz:=by omega
     clear hgo
     repeat' (first
 |(refine ai ?_;first
 |refine iA (pre.length) hpl ?_
 |refine an (cs':=[_,_,_,_,_,_,_,_]) rfl rfl (ae _ _ _) rfl hlim2 rfl rfl rfl ?_
 |refine xe rfl rfl rfl rfl hle' ?_
 |refine aj rfl ?_
 |refine mI ?_
 |refine mB ?_
 |refine mS ?_
 |refine mT ?_
 |refine aj rfl ?_
 |refine lT ?_
 |refine aD ?_
 |refine aj rfl ?_
 |refine lE (d:=.agg [_,_,_,_,_,_,_,_]) hv ?_
 |refine am (agg:=true) (d:=.agg [_,_,_,_,_,_,_,_]) rfl rfl rfl q1 hlim2 rfl ?_
 |refine am (agg:=false) (d:=.int _ _) rfl rfl rfl q1 hlim2 rfl ?_
 |refine am (agg:=false) (d:=.int _ _) rfl rfl rfl q0 hlim0 rfl ?_
 |refine aj rfl ?_
 |refine cA rfl hP ?_
 |refine cA rfl (hA _) ?_
 |refine pB ?_
 |refine aj rfl ?_
 |refine eI ?_
 |refine eB ?_
 |refine fD ?_
 |refine aq rfl rfl ?_
 |refine aj rfl ?_
 |refine WS_nil ?_)
 |refine WC_seq ?_
 |refine WC_opsS ?_
 |refine WC_skip ?_
 |refine ah rfl ?_
 |refine af rfl ?_
 |refine WC_block ?_)
     refine hnext _ _ rfl (Nat.le_succ _) q0' q1' ?_ ?_ ?_ ?_ ?_ ?_ ?_<;>rfl
  ·rw[if_neg hc]at hP
   have ho:qi to sz shut L now e=false:=by
    cases h:qi to sz shut L now e with
    |false=>rfl
    |true=>
     obtain⟨_,_,h1,_⟩:=fj.1 h
     exact absurd h1 hc
   have hnext:=hnext ho
   clear hgo
   repeat' (first
 |(refine ai ?_;first
 |refine iA (pre.length) hpl ?_
 |refine an (cs':=[_,_,_,_,_,_,_,_]) rfl rfl (ae _ _ _) rfl hlim2 rfl rfl rfl ?_
 |refine aj rfl ?_
 |refine mI ?_
 |refine mB ?_
 |refine mS ?_
 |refine mT ?_
 |refine aj rfl ?_
 |refine lT ?_
 |refine aD ?_
 |refine aj rfl ?_
 |refine lE (d:=.agg [_,_,_,_,_,_,_,_]) hv ?_
 |refine am (agg:=true) (d:=.agg [_,_,_,_,_,_,_,_]) rfl rfl rfl q1 hlim2 rfl ?_
 |refine am (agg:=false) (d:=.int _ _) rfl rfl rfl q1 hlim2 rfl ?_
 |refine am (agg:=false) (d:=.int _ _) rfl rfl rfl q0 hlim0 rfl ?_
 |refine aj rfl ?_
 |refine cA rfl hP ?_
 |refine cA rfl (hAny _) ?_
 |refine pB ?_
 |refine aj rfl ?_
 |refine eI ?_
 |refine eB ?_
 |refine fD ?_
 |refine aq rfl rfl ?_
 |refine aj rfl ?_
 |refine WS_nil ?_)
 |refine WC_seq ?_
 |refine WC_opsS ?_
 |refine WC_skip ?_
 |refine ah rfl ?_
 |refine af rfl ?_
 |refine WC_block ?_)
   refine hnext _ _ rfl (Nat.le_succ _) q0' q1' ?_ ?_ ?_ ?_ ?_ ?_ ?_<;>rfl
set_option maxHeartbeats 8000000 in
theorem Ad (l:List Eg) (hll:l.length≤900) (to sz by':Int) (shut:List Int) (hsl:shut.length≤1000000) (node now hops:Int) (t t':Tok) (s s':Nat) (hs:s=8∨l=[]) (hs':s'=1∨shut=[]):
  EvP Γ2 30 [.agg [.slice t s (l.map Eg.e),.int .i64 to,.int .i64 sz,.int .i64 by',.slice t' s' (shut.map (D.int .i64))],.int .i64 node,.int .i64 now,.int .i64 hops] (yQ now sz (nextM l to by' sz shut node now hops)):=by
 refine aA rfl rfl ?_
 have hT:=fun t t'=>xJ l hll to by' sz hops shut hsl t t' s s' hs hs'
 have hF:=fun t=>(xC node l (by omega) t s hs).grow kz
 have hLl:=ol l to by' sz hops shut
 have hsq:=yT hll
 have hel:(bD node l).length≤l.length:=List.length_filter_le _ _
 unfold nextM
 generalize iJ l to by' sz hops shut=L at*
 generalize bD node l=es at*
 repeat' (first
 |(refine ai ?_;first
 |refine lN ?_
 |refine mI ?_
 |refine mB ?_
 |refine mS ?_
 |refine lO (d:=.int _ _) ?_
 |refine lO (d:=.slice _ _ _) ?_
 |(refine fY rfl rfl rfl (hT _ _) rfl ?_;intro ta sa hsa hta)
 |(refine ui rfl rfl rfl (hF _) rfl ?_;intro tf sf hsf tk nt)
 |refine ck rfl rfl rfl rfl rfl ?_
 |refine fD ?_
 |refine aq rfl rfl ?_
 |refine WS_nil ?_)
 |refine WC_seq ?_
 |refine WC_opsS ?_
 |refine WC_block ?_)
 refine At to sz by' shut hsl node now L (by omega) (.slice t s (l.map Eg.e)) tf ta t' sf sa s' hs' hsa es (by omega) hsf es [] rfl _ _ ?_ ?_ ?_ ?_ ?_ ?_ ?_ ?_ ?_ ?_ ?_ _ (fun h ρ' st' e1 e2 k8=>?_) (fun e h ρ' st' e1 e2 k8 k9 k10=>?_)
 ·exact Nat.le_refl _
 ·exact Nat.le_refl _
 all_goals first|rfl|skip
 ·rw[h]
  have e1':st'.lim=0:=e1
  have hl1:st'.lim≤1:=by omega
  rw[←aa k8]
  repeat' (first
 |(refine ai ?_;first
 |refine an (cs':=[_,_,_]) rfl rfl e2 rfl hl1 rfl rfl rfl ?_
 |refine mI ?_
 |refine mB ?_
 |refine bi (cs:=[_,_,_]) rfl rfl rfl ?_
 |refine WS_nil ?_)
 |refine WC_seq ?_
 |refine WC_opsS ?_
 |refine al ?_)
  exact yU (q:=1) (i:=8) (j:=9) (k:=10) (.inr rfl) rfl rfl hl1 rfl rfl rfl
 ·rw[h]
  have e1':st'.lim=0:=e1
  exact yU (.inr rfl) k8 e2 (by omega) k9 k10 rfl
end Go.Lea
/-
  The best route, as the code finds it.
-/
namespace Go.Lea
open Go.Ev
theorem tW {l:List Eg} {fr to now a sz:Int} {shut:List Int} {n:Nat} (h:nN l fr to now a sz shut=some n):n≤l.length:=by
 unfold nN at h
 split at h
 ·have:=(mV _ _ _ h).2.1
  omega
 ·cases h
set_option maxHeartbeats 16000000 in
theorem Bm (l:List Eg) (hll:l.length≤900) (to sz by':Int) (shut:List Int) (hsl:shut.length≤1000000) (t t':Tok) (s s':Nat) (hs:s=8∨l=[]) (hs':s'=1∨shut=[]) (arr:Int) (z:List D):∀(k:Nat),k≤1000→∀(node now:Int) (out:List Hp) (tk:Tok) (so:Nat) (ρ:Nat→D) (st:Store),out.length+k≤1000→st.lim≤0→3≤st.next→st.tlim≤st.ntok→eV st 3 tk so (out.map Hp.e)→st.boxes 0=some (.cells z)→st.boxes 1=some (.cells [.slice t s (l.map Eg.e),.int .i64 to,.int .i64 sz,.int .i64 by',.slice t' s' (shut.map (D.int .i64))])→st.boxes 2=some (.cells [.slice tk so (out.map Hp.e),.int .i64 arr])→
  ρ 14=.ptr 0 0→ρ 17=.bool true→ρ 18=.int .i64 k→ρ 19=.ptr 1 0→ρ 20=.ptr 2 0→ρ 21=.int .i64 node→ρ 22=.int .i64 now→∀(Q:X→(Nat→D)→Store→Prop),
  (∀es,yO l to by' sz shut k node now=some es→∀ρ' st' tk' so',st'.lim=st.lim→st'.boxes 0=some (.cells z)→(so'=3∨out++aw sz es now=[])→st'.boxes 2=some (.cells [.slice tk' so' ((out++aw sz es now).map Hp.e),.int .i64 arr])→ρ' 14=.ptr 0 0→ρ' 17=.bool true→ρ' 20=.ptr 2 0→Q (.exit 0) ρ' st')→(yO l to by' sz shut k node now=none→∀ρ' st',st'.lim=st.lim→st'.boxes 0=some (.cells z)→ρ' 14=.ptr 0 0→ρ' 17=.bool false→Q (.exit 0) ρ' st')→WC Γ2 (.loop ei) ρ st Q:=by
 intro k
 induction k with
 |zero=>
  intro hk node now out tk so ρ st hol hlim hnx htl hO hb0 hb1 hb2 h14 h17 h18 h19 h20 h21 h22 Q hQ hQ2
  rw[←aa h14,←aa h17,←aa h18,←aa h19,←aa h20,←aa h21,←aa h22]
  refine WC_loop ?_
  repeat' (first
 |(refine ai ?_;first
 |refine mI ?_
 |refine mB ?_
 |refine gF ?_
 |refine pB ?_
 |refine WS_nil ?_)
 |refine WC_seq ?_
 |refine WC_opsS ?_
 |refine af rfl ?_
 |refine WC_exit ?_)
  refine hQ [] rfl _ _ tk so rfl hb0 ?_ (by simpa[aw]using hb2) rfl rfl rfl
  rcases hO with⟨_,h|⟨_,h⟩⟩|⟨_,_,_,_,h⟩
  ·exact .inl h
  ·exact .inr (by simpa[aw]using h)
  ·exact .inl h
 |succ k ih=>
  intro hk node now out tk so ρ st hol hlim hnx htl hO hb0 hb1 hb2 h14 h17 h18 h19 h20 h21 h22 Q hQ hQ2
  have hgt:(0:Int)<((k+1:Nat):Int):=by omega
  have hw:IntKind.i64.wrap (((k+1:Nat):Int) - 1)=(k:Int):=by rw[rV (by omega)];omega
  have hN:=fun t t'=>Ad l hll to sz by' shut hsl node now k t t' s s' hs hs'
  have hlim2:st.lim≤st.next:=by omega
  have hl1:st.lim≤1:=by omega
  have hl2:st.lim≤2:=by omega
  have hn0:0≠st.next:=by omega
  have hn1:1≠st.next:=by omega
  have hn2:2≠st.next:=by omega
  have hN1:(st.next==2)=false:=by simp;omega
  have hN2:(2==st.next)=false:=by simp;omega
  have q1:∀{x:Option Box},((ap st.boxes st.next x) 1).bind Box.cs=some [.slice t s (l.map Eg.e),.int .i64 to,.int .i64 sz,.int .i64 by',.slice t' s' (shut.map (D.int .i64))]:=fun{x}=>by rw[ab _ _ hn1,hb1];rfl
  have q1':∀{x y:Option Box},ap (ap st.boxes st.next x) st.next y 1=some (.cells [.slice t s (l.map Eg.e),.int .i64 to,.int .i64 sz,.int .i64 by',.slice t' s' (shut.map (D.int .i64))]):=fun{x y}=>(ab _ _ hn1).trans ((ab _ _ hn1).trans hb1)
  have q0':∀{x y:Option Box},ap (ap st.boxes st.next x) st.next y 0=some (.cells z):=fun{x y}=>(ab _ _ hn0).trans ((ab _ _ hn0).trans hb0)
  have q2:∀{x y:Option Box},((ap (ap st.boxes st.next x) st.next y) 2).bind Box.cs=some [.slice tk so (out.map Hp.e),.int .i64 arr]:=fun{x y}=>by rw[ab _ _ hn2,ab _ _ hn2,hb2];rfl
  have q2':∀{x y:Option Box},ap (ap st.boxes st.next x) st.next y 2=some (.cells [.slice tk so (out.map Hp.e),.int .i64 arr]):=fun{x y}=>(ab _ _ hn2).trans ((ab _ _ hn2).trans hb2)
  have qh:∀{x:Option Box} {a b c:Int},((ap (ap st.boxes st.next x) st.next (some (.cells [.int .i64 a,.int .i64 b,.int .i64 c]))) st.next).bind Box.cs=some [.int .i64 a,.int .i64 b,.int .i64 c]:=fun{x a b c}=>by rw[ae];rfl
  have hbd:∀a b c:Int,((out.map Hp.e).length+[D.agg [.int .i64 a,.int .i64 b,.int .i64 c]].length)*24≤140737488355328:=fun a b c=>by simp;omega
  have hgo:yO l to by' sz shut (k+1) node now=match nextM l to by' sz shut node now k with
   |none=>none
   |some e=>(yO l to by' sz shut k e.to (aJ e now sz)).map (e:: ·):=rfl
  rw[hgo]at hQ hQ2
  clear hgo
  unfold yQ at hN
  cases hn:nextM l to by' sz shut node now k with
  |none=>
   rw[hn]at hN hQ2
   have hQ2:=hQ2 rfl
   clear ih hQ hn
   rw[←aa h14,←aa h17,←aa h18,←aa h19,←aa h20,←aa h21,←aa h22]
   refine WC_loop ?_
   repeat' (first
 |(refine ai ?_;first
 |refine aS (s:=(k:Int)) (hs:=hw) ?_
 |refine an (cs':=[_,_,_]) rfl rfl (ae _ _ _) rfl hlim2 rfl rfl rfl ?_
 |(refine iS rfl rfl rfl hO (.inl rfl) (hbd _ _ _) htl rfl ?_;intro k' st' c1 c2 c3 c4 c5 c6 c7)
 |refine an (cs':=[_,_]) rfl rfl ((congrFun c1 2).trans q2') rfl (c3▸hl2) rfl rfl rfl ?_
 |refine mI ?_
 |refine mB ?_
 |refine mT ?_
 |refine gT ?_
 |refine am (agg:=true) (d:=.agg [_,_,_,_,_]) rfl rfl rfl q1 hl1 rfl ?_
 |refine am (agg:=false) (d:=.slice _ _ _) rfl rfl rfl q2 hl2 rfl ?_
 |refine am (agg:=true) (d:=.agg [_,_,_]) rfl rfl rfl qh hlim2 rfl ?_
 |refine am (agg:=false) (d:=.int _ _) rfl rfl rfl ((congrArg (Option.bind · Box.cs) (congrFun c1 _)).trans qh) (c3▸hlim2) rfl ?_
 |refine cA rfl (hN _ _) ?_
 |refine pB ?_
 |refine eI ?_
 |refine eB ?_
 |refine eA ?_
 |refine fD ?_
 |refine aq rfl rfl ?_
 |refine bh (ys:=[_]) rfl rfl rfl (by decide) rfl ?_
 |refine WS_nil ?_)
 |refine a8 (by simp[bC,List.range,List.range.loop,Fl.clash,hN1,hN2]) ?_
 |refine WC_seq ?_
 |refine WC_opsS ?_
 |refine bq ?_
 |refine WC_skip ?_
 |refine ah rfl ?_
 |refine WC_block ?_)
   refine WC_loop ?_
   repeat' (first
 |(refine ai ?_;first
 |refine aj rfl ?_
 |refine mB ?_
 |refine aj rfl ?_
 |refine pB ?_
 |refine WS_nil ?_)
 |refine WC_seq ?_
 |refine WC_opsS ?_
 |refine af rfl ?_
 |refine WC_exit ?_)
   refine hQ2 _ _ ?_ ?_ ?_ ?_
   ·exact c3
   ·exact(congrFun c1 0).trans q0'
   all_goals rfl
  |some e=>
   rw[hn]at hN hQ hQ2
   simp only at hN hQ hQ2
   have hnext:∀(tk':Tok) (so':Nat) (ρ':Nat→D) (st':Store),st'.lim=st.lim→3≤st'.next→st'.tlim≤st'.ntok→eV st' 3 tk' so' (out.map Hp.e++[.agg [.int .i64 e.id,.int .i64 (mx now e.op),.int .i64 (aJ e now sz)]])→st'.boxes 0=some (.cells z)→st'.boxes 1=some (.cells [.slice t s (l.map Eg.e),.int .i64 to,.int .i64 sz,.int .i64 by',.slice t' s' (shut.map (D.int .i64))])→st'.boxes 2=some (.cells [.slice tk' so' (out.map Hp.e++[.agg [.int .i64 e.id,.int .i64 (mx now e.op),.int .i64 (aJ e now sz)]]),.int .i64 arr])→
     ρ' 14=.ptr 0 0→ρ' 17=.bool true→ρ' 18=.int .i64 k→ρ' 19=.ptr 1 0→ρ' 20=.ptr 2 0→ρ' 21=.int .i64 e.to→ρ' 22=.int .i64 (aJ e now sz)→WC Γ2 (.loop ei) ρ' st' Q:=fun tk' so' ρ' st' g1 g2 g3 g4 g5 g6 g7 k14 k17 k18 k19 k20 k21 k22=>by
    have hm:(out++[qe e now sz]).map Hp.e=out.map Hp.e++[.agg [.int .i64 e.id,.int .i64 (mx now e.op),.int .i64 (aJ e now sz)]]:=by rw[List.map_append];rfl
    have hh:∀es,out++[qe e now sz]++aw sz es (aJ e now sz)=out++aw sz (e::es) now:=fun es=>by rw[aw,List.append_assoc];rfl
    refine ih (by omega) e.to (aJ e now sz) (out++[qe e now sz]) tk' so' ρ' st' (by simp;omega) (by omega) g2 g3 (by rw[hm];exact g4) g5 g6 (by rw[hm];exact g7) k14 k17 k18 k19 k20 k21 k22 Q (fun es he ρ2 st2 tk2 so2 f1 f2 f3 f4=>?_) (fun he ρ2 st2 f1=>hQ2 (by rw[he];rfl) ρ2 st2 (f1.trans g1))
    rw[hh]at f3 f4
    exact hQ (e::es) (by rw[he];rfl) ρ2 st2 tk2 so2 (f1.trans g1) f2 f3 f4
   clear ih hn hQ hQ2
   rw[←aa h14,←aa h17,←aa h18,←aa h19,←aa h20,←aa h21,←aa h22]
   generalize aJ e now sz=th at*
   generalize mx now e.op=sd at*
   refine WC_loop ?_
   repeat' (first
 |(refine ai ?_;first
 |refine aS (s:=(k:Int)) (hs:=hw) ?_
 |refine an (cs':=[_,_,_]) rfl rfl (ae _ _ _) rfl hlim2 rfl rfl rfl ?_
 |(refine iS rfl rfl rfl hO (.inl rfl) (hbd _ _ _) htl rfl ?_;intro k' st' c1 c2 c3 c4 c5 c6 c7)
 |refine an (cs':=[_,_]) rfl rfl ((congrFun c1 2).trans q2') rfl (c3▸hl2) rfl rfl rfl ?_
 |refine mI ?_
 |refine mB ?_
 |refine mT ?_
 |refine gT ?_
 |refine am (agg:=true) (d:=.agg [_,_,_,_,_]) rfl rfl rfl q1 hl1 rfl ?_
 |refine am (agg:=false) (d:=.slice _ _ _) rfl rfl rfl q2 hl2 rfl ?_
 |refine am (agg:=true) (d:=.agg [_,_,_]) rfl rfl rfl qh hlim2 rfl ?_
 |refine am (agg:=false) (d:=.int _ _) rfl rfl rfl ((congrArg (Option.bind · Box.cs) (congrFun c1 _)).trans qh) (c3▸hlim2) rfl ?_
 |refine cA rfl (hN _ _) ?_
 |refine pB ?_
 |refine eI ?_
 |refine eB ?_
 |refine eA ?_
 |refine fD ?_
 |refine aq rfl rfl ?_
 |refine bh (ys:=[_]) rfl rfl rfl (by decide) rfl ?_
 |refine WS_nil ?_)
 |refine a8 (by simp[bC,List.range,List.range.loop,Fl.clash,hN1,hN2]) ?_
 |refine WC_seq ?_
 |refine WC_opsS ?_
 |refine bq ?_
 |refine WC_skip ?_
 |refine ah rfl ?_
 |refine WC_block ?_)
   refine hnext (.own k') 3 _ _ ?_ ?_ ?_ ?_ ?_ ?_ ?_ ?_ ?_ ?_ ?_ ?_ ?_ ?_
   ·exact c3
   ·show 3≤st'.next
    rw[show st'.next=st.next+1 from c2]
    exact Nat.le_succ_of_le hnx
   ·exact c5
   ·exact .inr ⟨k',rfl,c6,c7,rfl⟩
   ·exact(congrFun c1 0).trans q0'
   ·exact(congrFun c1 1).trans q1'
   all_goals rfl
set_option maxHeartbeats 16000000 in
theorem wU (l:List Eg) (hll:l.length≤900) (fr to now sz by':Int) (shut:List Int) (hsl:shut.length≤1000000) (t t':Tok) (s s':Nat) (hs:s=8∨l=[]) (hs':s'=1∨shut=[]) (es:List Eg) (a:Int) (hB:cR l fr to now sz by' shut=some (es,a)):
  EvX Γ2 13 [.slice t s (l.map Eg.e),.int .i64 fr,.int .i64 to,.int .i64 now,.int .i64 sz,.int .i64 by',.slice t' s' (shut.map (D.int .i64))] (uM Hp.e 3 (aw sz es now) [.int .i64 a] [.bool true]):=by
 refine cn rfl rfl ?_
 have hT:=fun t t'=>(uL l (by omega) fr now sz shut (by omega) t t' s s' hs hs').grow kz
 have hTl:=oz l fr now sz shut
 unfold cR at hB
 generalize cT l fr now sz shut=T at*
 cases ha:bP to T with
 |none=>rw[ha]at hB;cases hB
 |some a'=>
  rw[ha]at hB
  simp only at hB
  have hA:=fun t s h=>uJ to T (by omega) a' ha t s h
  by_cases hle:by'<a'
  ·rw[if_pos hle]at hB;cases hB
  ·rw[if_neg hle]at hB
   have hle':a'≤by':=by omega
   have hF:=fun t t'=>wj l hll fr to now a' sz shut hsl t t' s s' hs hs'
   cases hf:nN l fr to now a' sz shut with
   |none=>rw[hf]at hB;cases hB
   |some n=>
    rw[hf]at hB hF
    simp only at hB
    obtain⟨es',hg,he⟩:=Option.map_eq_some_iff.1 hB
    cases he
    have hn:=tW hf
    repeat' (first
 |(refine ai ?_;first
 |refine an (cs':=[_,_]) rfl rfl rfl rfl (Nat.zero_le _) rfl rfl rfl ?_
 |refine an (cs':=[_,_,_,_,_]) rfl rfl rfl rfl (Nat.zero_le _) rfl rfl rfl ?_
 |refine mI ?_
 |refine mB ?_
 |refine mS ?_
 |refine mT ?_
 |refine gF ?_
 |refine cA rfl (hA _ _ hsa) ?_
 |refine cA rfl (hF _ _) ?_
 |(refine fY rfl rfl rfl (hT _ _) rfl ?_;intro ta sa hsa hta)
 |refine pB ?_
 |refine eI ?_
 |refine eB ?_
 |refine bi (cs:=[_,_]) rfl rfl rfl ?_
 |refine bi (cs:=[_,_,_,_,_]) rfl rfl rfl ?_
 |refine nT ?_
 |refine aq rfl rfl ?_
 |refine WS_nil ?_)
 |refine WC_seq ?_
 |refine WC_opsS ?_
 |refine WC_skip ?_
 |refine af rfl ?_
 |refine WC_block ?_)
    refine Bm l hll to sz a shut hsl t t' s s' hs hs' a [.slice .isnil 0 [],.int .i64 0] n (by omega) fr now [] .isnil 0 _ _ (by simp;omega) ?_ ?_ ?_ (.inl ⟨.inl rfl,.inr ⟨rfl,rfl⟩⟩) ?_ ?_ ?_ ?_ ?_ ?_ ?_ ?_ ?_ ?_ _ (fun es2 he ρ' st' tk so e1 e2 e3 e4 k14 k17 k20=>?_) (fun he=>by rw[hg]at he;cases he)
    all_goals first|rfl|exact Nat.le_refl _|exact Nat.zero_le _|skip
    rw[hg]at he
    cases he
    rw[List.nil_append]at e3 e4
    have e1':st'.lim=0:=e1
    have hl0:st'.lim≤0:=by omega
    have hl2:st'.lim≤2:=by omega
    have hbx:(st'.boxes 2).bind Box.cs=some [.slice tk so ((aw sz es now).map Hp.e),.int .i64 a]:=by rw[e4];rfl
    rw[←aa k14,←aa k17,←aa k20]
    repeat' (first
 |(refine ai ?_;first
 |refine an (cs':=[_,_]) rfl rfl e2 rfl hl0 rfl rfl rfl ?_
 |refine mB ?_
 |refine am (agg:=true) (d:=.agg [_,_]) rfl rfl rfl hbx hl2 rfl ?_
 |refine nT ?_
 |refine WS_nil ?_)
 |refine WC_seq ?_
 |refine WC_opsS ?_
 |refine WC_skip ?_
 |refine af rfl ?_
 |refine al ?_)
    exact sC (.inr rfl) (ua (q:=0) rfl rfl hl0 rfl) rfl rfl e3 rfl rfl rfl
set_option maxHeartbeats 16000000 in
theorem uA (l:List Eg) (hll:l.length≤900) (fr to now sz by':Int) (shut:List Int) (hsl:shut.length≤1000000) (t t':Tok) (s s':Nat) (hs:s=8∨l=[]) (hs':s'=1∨shut=[]) (hB:cR l fr to now sz by' shut=none):
  EvP Γ2 13 [.slice t s (l.map Eg.e),.int .i64 fr,.int .i64 to,.int .i64 now,.int .i64 sz,.int .i64 by',.slice t' s' (shut.map (D.int .i64))] (.tuple [.agg [.slice .isnil 0 [],.int .i64 0],.bool false]):=by
 refine aA rfl rfl ?_
 have hT:=fun t t'=>(uL l (by omega) fr now sz shut (by omega) t t' s s' hs hs').grow kz
 have hTl:=oz l fr now sz shut
 have hi:=wD (l:=l) (fr:=fr) (to:=to) (now:=now) (sz:=sz) (by':=by') (shut:=shut)
 rw[hB]at hi
 generalize cT l fr now sz shut=T at*
 cases ha:bP to T with
 |none=>
  have hA:=fun t s h=>wW to T (by omega) ha t s h
  repeat' (first
 |(refine ai ?_;first
 |refine an (cs':=[_,_]) rfl rfl rfl rfl (Nat.zero_le _) rfl rfl rfl ?_
 |refine aj rfl ?_
 |refine mI ?_
 |refine mB ?_
 |refine mS ?_
 |refine mT ?_
 |refine aj rfl ?_
 |refine cA rfl (hA _ _ hsa) ?_
 |(refine fY rfl rfl rfl (hT _ _) rfl ?_;intro ta sa hsa hta)
 |refine pB ?_
 |refine eI ?_
 |refine eB ?_
 |refine bi (cs:=[_,_]) rfl rfl rfl ?_
 |refine nT ?_
 |refine aq rfl rfl ?_
 |refine WS_nil ?_)
 |refine WC_seq ?_
 |refine WC_opsS ?_
 |refine ah rfl ?_
 |refine al ?_)
  exact⟨.inr rfl,rfl⟩
 |some a'=>
  rw[ha]at hi
  have hle:by'<a':=by simpa using hi
  have hA:=fun t s h=>uJ to T (by omega) a' ha t s h
  repeat' (first
 |(refine ai ?_;first
 |refine an (cs':=[_,_]) rfl rfl rfl rfl (Nat.zero_le _) rfl rfl rfl ?_
 |refine mI ?_
 |refine mB ?_
 |refine mS ?_
 |refine mT ?_
 |refine gT ?_
 |refine cA rfl (hA _ _ hsa) ?_
 |(refine fY rfl rfl rfl (hT _ _) rfl ?_;intro ta sa hsa hta)
 |refine pB ?_
 |refine eI ?_
 |refine eB ?_
 |refine bi (cs:=[_,_]) rfl rfl rfl ?_
 |refine nT ?_
 |refine aq rfl rfl ?_
 |refine WS_nil ?_)
 |refine WC_seq ?_
 |refine WC_opsS ?_
 |refine ah rfl ?_
 |refine al ?_)
  exact⟨.inr rfl,rfl⟩
end Go.Lea
