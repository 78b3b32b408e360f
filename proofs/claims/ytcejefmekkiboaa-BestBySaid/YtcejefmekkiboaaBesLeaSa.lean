/-
  More functions change nothing.
-/
import Derived.Test.YtcejefmekkiboaaEvEvN
import Derived.Test.YtcejefmekkiboaaEvEvX9
import Derived.Test.YtcejefmekkiboaaBesLatP
import Derived.Test.YtcejefmekkiboaaBesBesC
import Derived.Test.YtcejefmekkiboaaBesEarX
import Derived.Test.YtcejefmekkiboaaEvEvX11
set_option linter.unusedVariables false
set_option linter.unusedSimpArgs false
set_option linter.unnecessarySimpa false
namespace Go.Ev
section
variable {Γ Γ2:Nat→Option FD} (hx:∀f fd,Γ f=some fd→Γ2 f=some fd)
include hx in
theorem EZ {f:Nat} (h:Av Γ f=true):Av Γ2 f=true:=by
 unfold Av at h ⊢
 cases hf:Γ f with
 |none=>rw[hf]at h;cases h
 |some fd=>rw[hx _ _ hf];rw[hf]at h;exact h
include hx in
theorem ER {f n:Nat} {ds:List D} {st:Store} {x:D×Store} (h:¬Av Γ f=true) (hr:aQ Γ n f ds st=some x):¬Av Γ2 f=true:=by
 unfold Av at h ⊢
 cases hf:Γ f with
 |none=>
  cases n with
  |zero=>simp[aQ]at hr
  |succ n=>simp[aQ,hf]at hr
 |some fd=>rw[hx _ _ hf];rw[hf]at h;exact h
include hx in
theorem Do {n:Nat} {f:Nat} {ds:List D} {st:Store} {x:D×Store} (h:aQ Γ n f ds st=some x) (hall:(ds.map D.strip).all D.freeA=true) (m:Nat) (es:List D):aM Γ2 m f es=none:=by
 cases n with
 |zero=>simp[aQ]at h
 |succ n=>
  cases m with
  |zero=>rfl
  |succ m=>
   simp only[aQ]at h
   split at h
   ·rename_i cf hf
    split at h
    ·first|(rw[if_pos hall]at h;cases h)|cases h
    ·rename_i hro
     simp only[aM,hx _ _ hf,hro];rfl
   ·rename_i F hf
    simp only[aM,hx _ _ hf]
   ·cases h
include hx in
theorem HM {n:Nat} {f:Nat} {ds:List D} {st:Store} {x:D×Store} (h:aQ Γ n f ds st=some x) (m:Nat) (hP:∀f ds r,aM Γ (n - 1) f ds=some r→aM Γ2 (m - 1) f ds=some r):bs Γ2 m f ds st=none:=by
 cases n with
 |zero=>simp[aQ]at h
 |succ n=>
  cases m with
  |zero=>rfl
  |succ m=>
   simp only[aQ]at h
   split at h
   ·rename_i cf hf
    split at h
    ·split at h
     ·cases h
     rename_i hnf
     split at h
     ·rename_i hfz
      simp only[Bool.and_eq_true]at hfz
      split at h
      ·rename_i r0 hr0
       split at h
       ·cases h
       rename_i hap
       simp only[bs]
       have hP:=hP _ _ _ hr0
       simp only[Nat.add_sub_cancel]at hP
       rw[if_neg hnf,if_pos hfz.1.1,if_pos hfz.1.2,hP]
       simp only[hap]
       rfl
      ·cases h
     ·cases h
    ·rename_i hro
     simp only[bs]
     split
     ·cases m with
      |zero=>rfl
      |succ m=>simp only[aM,hx _ _ hf,hro];rfl
     split
     ·split
      ·cases m with
       |zero=>rfl
       |succ m=>simp only[aM,hx _ _ hf,hro];rfl
      ·rfl
     ·simp only[hx _ _ hf,hro];rfl
   ·rename_i F hf
    simp only[bs]
    split
    ·cases m with
     |zero=>rfl
     |succ m=>simp only[aM,hx _ _ hf]
    split
    ·split
     ·cases m with
      |zero=>rfl
      |succ m=>simp only[aM,hx _ _ hf]
     ·rfl
    ·simp only[hx _ _ hf]
   ·cases h
include hx in
theorem grow (n:Nat):(∀f ds r,aM Γ n f ds=some r→aM Γ2 n f ds=some r)∧(∀f ds st r,bs Γ n f ds st=some r→bs Γ2 n f ds st=some r)∧(∀f ds st r,aQ Γ n f ds st=some r→aQ Γ2 n f ds st=some r)∧
  (∀d l ρ st r,bt Γ n d l ρ st=some r→bt Γ2 n d l ρ st=some r)∧(∀l ρ st r,bp Γ n l ρ st=some r→bp Γ2 n l ρ st=some r)∧(∀c ρ st r,aW Γ n c ρ st=some r→aW Γ2 n c ρ st=some r):=by
 induction n using Nat.strongRecOn with
 |_ n IH=>
 cases n with
 |zero=>
  refine⟨fun f ds r h=>by simp[aM]at h,fun f ds st r h=>by simp[bs]at h,fun f ds st r h=>by simp[aQ]at h,fun d l ρ st r h=>?_,fun l ρ st r h=>?_,fun c ρ st r h=>by simp[aW]at h⟩
  ·cases l with
   |nil=>simpa[bt]using h
   |cons=>simp[bt]at h
  ·cases l with
   |nil=>simpa[bp]using h
   |cons=>simp[bp]at h
 |succ n=>
  obtain⟨iP,iRO,iRW,iO,iD,iC⟩:=IH n (Nat.lt_succ_self n)
  have iQ:∀f ds r,aM Γ (n - 1) f ds=some r→aM Γ2 (n - 1) f ds=some r:=by
   cases n with
   |zero=>intro f ds r h;simp[aM]at h
   |succ k=>exact(IH k (by omega)).1
  refine⟨fun f ds r h=>?_,fun f ds st r h=>?_,fun f ds st r h=>?_,fun d l ρ st r h=>?_,fun l ρ st r h=>?_,fun c ρ st r h=>?_⟩
  ·rw[aM]at h ⊢
   split at h
   ·rename_i cf hf
    simp only[hx _ _ hf]
    split at h
    ·rename_i hro
     rw[if_pos hro]
     cases hr:aW Γ n cf.body (enter ds) Store.empty with
     |none=>rw[hr]at h;cases h
     |some y=>rw[iC _ _ _ _ hr];rw[hr]at h;exact h
    ·cases h
   ·rename_i F hf;simp only[hx _ _ hf];exact h
   ·cases h
  ·rw[bs]at h ⊢
   split at h
   ·rename_i ha
    rw[if_pos ha]
    exact iP _ _ _ h
   ·rename_i ha
    rw[if_neg ha]
    split at h
    ·rename_i hse
     rw[if_pos hse]
     split at h
     ·rename_i hse2
      rw[if_pos hse2]
      cases hp:aM Γ n f (ds.map (seen st))with
      |none=>rw[hp]at h;cases h
      |some y=>rw[iP _ _ _ hp];rw[hp]at h;exact h
     ·cases h
    rename_i hse
    rw[if_neg hse]
    split at h
    ·rename_i cf hf
     simp only[hx _ _ hf]
     split at h
     ·rename_i hro
      rw[if_pos hro]
      cases hr:aW Γ n cf.body (enter (ds.map D.strip)) {st with lim:=st.next,tlim:=st.ntok}with
      |none=>rw[hr]at h;cases h
      |some y=>rw[iC _ _ _ _ hr];rw[hr]at h;exact h
     ·cases h
    ·rename_i F hf
     simp only[hx _ _ hf]
     exact h
    ·cases h
  ·rw[aQ]at h ⊢
   split at h
   ·rename_i cf hf
    simp only[hx _ _ hf]
    split at h
    ·rename_i hro
     rw[if_pos hro]
     split at h
     ·cases h
     rename_i hnf
     rw[if_neg hnf]
     split at h
     ·rename_i hfz
      rw[if_pos hfz]
      cases hp:aM Γ n f (ds.map (seen st))with
      |none=>rw[hp]at h;cases h
      |some y=>rw[iP _ _ _ hp];rw[hp]at h;exact h
     ·cases h
    ·rename_i hro
     rw[if_neg hro]
     cases hr:aW Γ n cf.body (enter (ds.map D.strip)) st with
     |none=>rw[hr]at h;cases h
     |some y=>rw[iC _ _ _ _ hr];rw[hr]at h;exact h
   ·rename_i F hf
    simp only[hx _ _ hf]
    exact h
   ·cases h
  ·cases l with
   |nil=>simpa[bt]using h
   |cons o l=>
    rw[bt]at h ⊢
    split at h
    ·cases h
    ·exact iO _ _ _ _ _ h
    ·rename_i hgx
     clear hgx
     obtain⟨dst,gd,mv,op⟩:=o
     simp only at h ⊢
     cases op
     case call fa args=>
      simp only at h ⊢
      cases hfa:fa.ev ρ with
      |func f caps=>
       rw[hfa]at h
       simp only at h ⊢
       cases hro:bs Γ n f (args.map (·.ev ρ)++caps) st with
       |some r1=>
        rw[iRO _ _ _ _ hro]
        rw[hro]at h
        simp only at h ⊢
        split at h
        ·rename_i d' st' he
         try rw[he]
         exact iO _ _ _ _ _ h
        ·cases h
       |none=>
        rw[hro]at h
        simp only at h
        cases d with
        |true=>simp at h
        |false=>
         simp only[Bool.false_eq_true,if_false]at h
         cases hrw:aQ Γ n f (args.map (·.ev ρ)++caps) st with
         |none=>rw[hrw]at h;cases h
         |some y=>
          rw[HM hx hrw n iQ]
          simp only[Bool.false_eq_true,if_false]
          rw[iRW _ _ _ _ hrw]
          rw[hrw]at h
          exact iO _ _ _ _ _ h
      |_=>rw[hfa]at h;cases h
     all_goals
      simp only at h ⊢
      split at h
      ·rename_i d' st' he
       try rw[he]
       exact iO _ _ _ _ _ h
      ·cases h
  ·cases l with
   |nil=>simpa[bp]using h
   |cons o l=>
    rw[bp]at h ⊢
    have hD:∀(ρ':Nat→D) (st':Store) (fl:Fl),(match bp Γ n l ρ' st' with|some (a,b,c)=>some (a,b,fl::c)|none=>none)=some r→(match bp Γ2 n l ρ' st' with|some (a,b,c)=>some (a,b,fl::c)|none=>none)=some r:=fun ρ' st' fl h=>by
     cases hr:bp Γ n l ρ' st' with
     |none=>rw[hr]at h;cases h
     |some y=>rw[iD _ _ _ _ hr];rw[hr]at h;exact h
    split at h
    ·cases h
    ·exact hD _ _ _ h
    ·rename_i hgx
     clear hgx
     obtain⟨dst,gd,mv,op⟩:=o
     simp only at h ⊢
     cases op
     case call fa args=>
      simp only at h ⊢
      cases hfa:fa.ev ρ with
      |func f caps=>
       rw[hfa]at h
       simp only at h ⊢
       by_cases ha:((args.map (·.ev ρ)++caps).map D.strip).all D.freeA=true
       ·rw[if_pos ha]at h ⊢
        cases hp:aM Γ n f ((args.map (·.ev ρ)++caps).map D.strip)with
        |none=>
         rw[hp]at h
         simp only at h
         cases hrw:aQ Γ n f (args.map (·.ev ρ)++caps) st with
         |none=>rw[hrw]at h;cases h
         |some y=>
          rw[Do hx hrw ha n]
          simp only
          rw[iRW _ _ _ _ hrw]
          rw[hrw]at h
          exact hD _ _ _ h
        |some r1=>
         rw[iP _ _ _ hp]
         rw[hp]at h
         simp only at h ⊢
         by_cases hf:aF r1=true
         ·rw[if_pos hf]at h ⊢
          by_cases hw:(mv&&(r1.free&& !dS r1))=true
          ·rw[if_pos hw]at h ⊢
           exact hD _ _ _ h
          ·rw[if_neg hw]at h;cases h
         ·rw[if_neg hf]at h ⊢
          by_cases hw:(mv&&dS r1)=true
          ·rw[if_pos hw]at h ⊢
           exact hD _ _ _ h
          ·rw[if_neg hw]at h ⊢
           exact hD _ _ _ h
       ·rw[if_neg ha]at h ⊢
        by_cases hmv:mv=true
        ·rw[if_pos hmv]at h ⊢
         cases hcut:lG (args.map (·.ev ρ)++caps)with
         |none=>
          rw[hcut]at h
          simp only at h ⊢
          cases hcn:qZ (args.map (·.ev ρ)++caps)with
          |none=>rw[hcn]at h;cases h
          |some y=>
           obtain⟨p,ps⟩:=y
           rw[hcn]at h
           simp only at h ⊢
           cases hp:aQ Γ n f (args.map (·.ev ρ)++caps) (lx st p ps)with
           |none=>rw[hp]at h;cases h
           |some y=>
            obtain⟨r1,C1⟩:=y
            rw[iRW _ _ _ _ hp]
            rw[hp]at h
            simp only at h ⊢
            by_cases hf:gz r1=true
            ·rw[if_pos hf]at h ⊢
             exact hD _ _ _ h
            ·rw[if_neg hf]at h ⊢
             cases hnr:fA st C1 r1 with
             |none=>rw[hnr]at h;cases h
             |some d=>rw[hnr]at h;exact hD _ _ _ h
         |some y=>
          obtain⟨p,ps⟩:=y
          rw[hcut]at h
          simp only at h ⊢
          by_cases hro:Av Γ f=true
          ·rw[if_pos hro]at h
           rw[if_pos (EZ hx hro)]
           by_cases hc:((((args.map (·.ev ρ)++caps).map (seen st)).all D.freeA&&fI st (args.map (·.ev ρ)++caps))=true)
           ·rw[if_pos hc]at h ⊢
            cases hp:aM Γ n f ((args.map (·.ev ρ)++caps).map (seen st))with
            |none=>rw[hp]at h;cases h
            |some r1=>
             rw[iP _ _ _ hp]
             rw[hp]at h
             simp only at h ⊢
             by_cases hf:(r1.free&& !dS r1)=true
             ·rw[if_pos hf]at h ⊢
              exact hD _ _ _ h
             ·rw[if_neg hf]at h;cases h
           ·rw[if_neg hc]at h;cases h
          ·rw[if_neg hro]at h
           by_cases hc:jh st p ps=true
           ·rw[if_pos hc]at h
            cases hp:aQ Γ n f (args.map (·.ev ρ)++caps) (jO st p ps)with
            |none=>rw[hp]at h;cases h
            |some y=>
             obtain⟨r1,C1⟩:=y
             rw[if_neg (ER hx hro hp),if_pos hc,iRW _ _ _ _ hp]
             rw[hp]at h
             simp only at h ⊢
             by_cases hf:oc r1 p=true
             ·rw[if_pos hf]at h ⊢
              exact hD _ _ _ h
             ·rw[if_neg hf]at h;cases h
           ·rw[if_neg hc]at h;cases h
        rw[if_neg hmv]at h ⊢
        cases hro:bs Γ n f (args.map (·.ev ρ)++caps) st with
        |some r1=>
         rw[iRO _ _ _ _ hro]
         rw[hro]at h
         simp only at h ⊢
         by_cases hf:aF r1=true
         ·rw[if_pos hf]at h;cases h
         ·rw[if_neg hf]at h ⊢
          exact hD _ _ _ h
        |none=>
         rw[hro]at h
         simp only at h
         cases hrw:aQ Γ n f (args.map (·.ev ρ)++caps) st with
         |none=>rw[hrw]at h;cases h
         |some y=>
          rw[HM hx hrw n iQ]
          simp only
          rw[iRW _ _ _ _ hrw]
          rw[hrw]at h
          exact hD _ _ _ h
      |_=>rw[hfa]at h;cases h
     all_goals
      simp only at h ⊢
      split at h
      ·rename_i d' st' a b he
       try rw[he]
       exact hD _ _ _ h
      ·cases h
  ·rw[aW.eq_def]at h ⊢
   simp only at h ⊢
   cases c with
   |skip|exit|ret|goto|bad=>exact h
   |ops d l=>
    simp only at h ⊢
    cases hr:bt Γ n d l ρ st with
    |none=>rw[hr]at h;cases h
    |some y=>rw[iO _ _ _ _ _ hr];rw[hr]at h;exact h
   |draw bef l=>
    simp only at h ⊢
    cases hr:bp Γ n l ρ st with
    |none=>rw[hr]at h;cases h
    |some y=>rw[iD _ _ _ _ hr];rw[hr]at h;exact h
   |drawA bef l=>
    simp only at h ⊢
    cases hr:bp Γ n (gM st.next l) ρ (st.ahead l)with
    |none=>rw[hr]at h;cases h
    |some y=>rw[iD _ _ _ _ hr];rw[hr]at h;exact h
   |seq a b=>
    simp only at h ⊢
    cases hr:aW Γ n a ρ st with
    |none=>rw[hr]at h;cases h
    |some y=>
     rw[iC _ _ _ _ hr]
     rw[hr]at h
     obtain⟨x,ρ1,st1⟩:=y
     cases x with
     |normal=>exact iC _ _ _ _ h
     |_=>exact h
   |cond x a b=>
    simp only at h ⊢
    split at h
    ·exact iC _ _ _ _ h
    ·cases h
   |block id b=>
    simp only at h ⊢
    cases hr:aW Γ n b ρ st with
    |none=>rw[hr]at h;cases h
    |some y=>rw[iC _ _ _ _ hr];rw[hr]at h;exact h
   |loop b=>
    simp only at h ⊢
    cases hr:aW Γ n b ρ st with
    |none=>rw[hr]at h;cases h
    |some y=>
     rw[iC _ _ _ _ hr]
     rw[hr]at h
     obtain⟨x,ρ1,st1⟩:=y
     cases x with
     |normal=>exact iC _ _ _ _ h
     |_=>exact h
   |scope c l rest=>
    simp only at h ⊢
    cases hr:aW Γ n c ρ st with
    |none=>rw[hr]at h;cases h
    |some y=>
     rw[iC _ _ _ _ hr]
     rw[hr]at h
     obtain⟨x,ρ1,st1⟩:=y
     cases x with
     |goto l'=>
      simp only at h ⊢
      split at h
      ·rename_i hl
       rw[if_pos hl]
       exact iC _ _ _ _ h
      ·cases h
     |_=>exact h
   |again l rest=>
    simp only at h ⊢
    cases hr:aW Γ n rest ρ st with
    |none=>rw[hr]at h;cases h
    |some y=>
     rw[iC _ _ _ _ hr]
     rw[hr]at h
     obtain⟨x,ρ1,st1⟩:=y
     cases x with
     |goto l'=>
      simp only at h ⊢
      split at h
      ·rename_i hl
       rw[if_pos hl]
       exact iC _ _ _ _ h
      ·cases h
     |_=>exact h
include hx in
theorem EvP.grow {f:Nat} {ds:List D} {r:D} (h:EvP Γ f ds r):EvP Γ2 f ds r:=by
 obtain⟨N,hN⟩:=h
 exact⟨N,fun n hn=>(Go.Ev.grow hx n).1 _ _ _ (hN n hn)⟩
include hx in
theorem EvX.grow {f:Nat} {ds:List D} {Pr:D→Prop} (h:EvX Γ f ds Pr):EvX Γ2 f ds Pr:=by
 obtain⟨r,h1,h2⟩:=h
 exact⟨r,h1,EvP.grow hx h2⟩
include hx in
theorem EvRO.grow {f:Nat} {ds:List D} {st:Store} {r:D} (h:EvRO Γ f ds st r):EvRO Γ2 f ds st r:=by
 obtain⟨N,hN⟩:=h
 exact⟨N,fun n hn=>(Go.Ev.grow hx n).2.1 _ _ _ _ (hN n hn)⟩
include hx in
theorem EvRW.grow {f:Nat} {ds:List D} {st st':Store} {r:D} (h:EvRW Γ f ds st r st'):EvRW Γ2 f ds st r st':=by
 obtain⟨N,hN⟩:=h
 exact⟨N,fun n hn=>⟨HM hx (hN n hn).2 n (Go.Ev.grow hx (n - 1)).1,(Go.Ev.grow hx n).2.2.1 _ _ _ _ (hN n hn).2⟩⟩
end
end Go.Ev
/-
  The table with what goes over maps; the latest times, and with how few hops.
-/
namespace Go.Bes
open Go.Ev
def Γ2:Nat→Option FD
 |47=>some (.primS qV)
 |68=>some (.primS ya)
 |f=>Γ f
theorem ly:∀f fd,Γ f=some fd→Γ2 f=some fd:=fun f fd h=>by
 unfold Γ2
 split
 ·cases h
 ·cases h
 ·exact h
def yo (l:List Eg) (to by' sz hops:Int) (shut:List Int):List Rd:=bz to sz shut l (mn hops l.length).toNat [⟨to,by'⟩]
def ll (l:List Eg) (to by' sz hops:Int) (shut:List Int):List Rd:=if 0≤hops∧bV l to by' sz then fX Rd.node (yo l to by' sz hops shut)else[]
theorem wh (l:List Eg) (hll:l.length≤900) (to sz:Int) (shut:List Int) (hsl:shut.length≤1000000) (t t':Tok) (s s':Nat) (hs:s=8∨l=[]) (hs':s'=1∨shut=[]) (M:List Rd) (st:Store) (p:Nat) (hp:p<st.next) (hlp:st.lim≤p) (hbp:st.boxes p=some (.map (bQ M))):
  EvRW Γ2 47 [.map p,.slice t s (l.map Eg.e),.int .i64 to,.int .i64 sz,.slice t' s' (shut.map (D.int .i64))] st (.map st.next) {st with boxes:=ap st.boxes st.next (some (.map (bQ (gb to sz shut l M)))),next:=st.next+2+l.length}:=by
 refine jg (F:=qV) rfl ?_
 show qV [.map p,.slice t.strip s (l.map Eg.e),.int .i64 to,.int .i64 sz,.slice t'.strip s' (shut.map (D.int .i64))] st=_
 simp only[qV,hbp,qQ,sK,kI]
 rw[if_pos ⟨hs.imp id (by rintro rfl;rfl),hs'.imp id (by rintro rfl;rfl),by omega,by omega,hlp,hp⟩]
theorem CQ (M:List Rd) (h0:0<M.length) (hMl:M.length≤1000000) (st:Store) (p:Nat) (hp:p<st.next) (hlp:st.lim≤p) (hbp:st.boxes p=some (.map (bQ M))):
  EvRW Γ2 68 [.map p] st (.rs (st.next+M.length) 0 2 M.length M.length) {st with boxes:=ap st.boxes (st.next+M.length) (some (.row (((fX Rd.node M).map Rd.e).flatMap D.cells))),next:=st.next+M.length+1}:=by
 refine jg (F:=ya) rfl ?_
 show ya [.map p] st=_
 simp only[ya,hbp,qQ]
 rw[if_pos ⟨h0,hMl,hlp,hp⟩]
theorem qv (l:List Eg) (hll:l.length≤1073741824) (fr now sz:Int) (t:Tok) (s:Nat) (hs:s=8∨l=[]):EvP Γ 46 [.slice t s (l.map Eg.e),.int .i64 fr,.int .i64 now,.int .i64 sz] (.bool (decide (bV l fr now sz))):=by
 refine aJ rfl rfl ?_
 by_cases ha:bV l fr now sz
 ·have hw:eF l [] fr now sz=some []:=by unfold eF;rw[if_pos ha];rfl
  have hW:=fun t=>uq l hll [] (by simp) fr now sz [] hw t s hs .isnil 0 (.inr rfl)
  rw[decide_eq_true ha]
  repeat' (first
 |(refine al ?_;first
 |refine mI ?_
 |refine mB ?_
 |refine mS ?_
 |refine mT ?_
 |(refine iu rfl rfl rfl (hW _) rfl ?_;intro tm sm hsm tk2 nt2)
 |refine eB ?_
 |refine eS ?_
 |refine Hd ?_)
 |refine He ?_
 |refine Ir ?_
 |refine an ?_)
  exact aK (.inr rfl) rfl rfl
 ·have hw:eF l [] fr now sz=none:=by unfold eF;rw[if_neg ha]
  have hW:=fun t=>uM l hll [] (by simp) fr now sz hw t s hs .isnil 0 (.inr rfl)
  rw[decide_eq_false ha]
  repeat' (first
 |(refine al ?_;first
 |refine mI ?_
 |refine mB ?_
 |refine mS ?_
 |refine mT ?_
 |refine cA rfl (hW _) ?_
 |refine eB ?_
 |refine eS ?_
 |refine Hd ?_)
 |refine He ?_
 |refine Ir ?_
 |refine an ?_)
  exact aK (.inr rfl) rfl rfl
theorem sG (l:List Eg) (to by' sz hops:Int) (shut:List Int):(ll l to by' sz hops shut).length≤1+l.length*l.length:=by
 unfold ll yo
 split
 ·rw[(dp Rd.node _).length_eq]
  have h1:=wB (to:=to) (sz:=sz) (shut:=shut) (l:=l) (mn hops l.length).toNat [⟨to,by'⟩]
  have h2:=(sE (a:=hops) (b:=l.length)).2
  have h3:(mn hops l.length).toNat*l.length≤l.length*l.length:=Nat.mul_le_mul_right _ (by omega)
  simp at h1
  omega
 ·simp
theorem DT {n:Nat} (h:n≤900):n*n≤810000:=Nat.mul_le_mul h h
theorem Df (l:List Eg) (hll:l.length≤900) (to sz:Int) (shut:List Int) (hsl:shut.length≤1000000) (t t':Tok) (s s':Nat) (hs:s=8∨l=[]) (hs':s'=1∨shut=[]) (n:Nat) (hn:n≤900):∀(m k:Nat),n=k+m→∀(M:List Rd) (ρ:Nat→D) (st:Store) (p:Nat),p<st.next→st.lim≤p→st.boxes p=some (.map (bQ M))→
  ρ 0=.slice t s (l.map Eg.e)→ρ 1=.int .i64 to→ρ 3=.int .i64 sz→ρ 5=.slice t' s' (shut.map (D.int .i64))→ρ 13=.map p→ρ 31=.int .i64 n→ρ 32=.int .i64 k→∀(Q:X→(Nat→D)→Store→Prop),
  (∀ρ' st' p',p'<st'.next→st'.lim≤p'→st'.boxes p'=some (.map (bQ (bz to sz shut l m M)))→ρ' 13=.map p'→Q (.exit 0) ρ' st')→WC Γ2 (.loop lh) ρ st Q:=by
 intro m
 induction m with
 |zero=>
  intro k hk M ρ st p hp hlp hbp h0 h1 h3 h5 h13 h31 h32 Q hQ
  have hk':n=k:=hk
  subst hk'
  rw[←aa h0,←aa h1,←aa h3,←aa h5,←aa h13,←aa h31,←aa h32]
  refine Hh ?_
  repeat' (first
 |(refine al ?_;first
 |refine lF ?_
 |refine Hd ?_)
 |refine He ?_
 |refine Ir ?_
 |refine ah rfl ?_
 |refine Hi ?_)
  exact hQ _ _ p hp hlp hbp rfl
 |succ m ih=>
  intro k hk M ρ st p hp hlp hbp h0 h1 h3 h5 h13 h31 h32 Q hQ
  have hlt:(k:Int)<n:=by omega
  have hS:=fun t t'=>wh l hll to sz shut hsl t t' s s' hs hs' M st p hp hlp hbp
  have hnext:=ih (k+1) (by omega) (gb to sz shut l M)
  clear ih
  rw[←aa h0,←aa h1,←aa h3,←aa h5,←aa h13,←aa h31,←aa h32]
  refine Hh ?_
  repeat' (first
 |(refine al ?_;first
 |(refine cp rfl rfl rfl (hS _ _) ?_)
 |refine mI ?_
 |refine mS ?_
 |refine mM ?_
 |refine lT ?_
 |refine aD ?_
 |refine Hd ?_)
 |refine He ?_
 |refine Ir ?_
 |refine Hg ?_
 |refine aj rfl ?_
 |refine Hf ?_)
  refine hnext _ _ st.next ?_ ?_ ?_ ?_ ?_ ?_ ?_ ?_ ?_ ?_ Q hQ
  ·show st.next<st.next+2+l.length
   omega
  ·show st.lim≤st.next
   omega
  ·exact ae _ _ _
  all_goals rfl
set_option maxHeartbeats 4000000 in
theorem A3 (l:List Eg) (hll:l.length≤900) (to by' sz hops:Int) (shut:List Int) (hsl:shut.length≤1000000) (t t':Tok) (s s':Nat) (hs:s=8∨l=[]) (hs':s'=1∨shut=[]):
  EvX Γ2 48 [.slice t s (l.map Eg.e),.int .i64 to,.int .i64 by',.int .i64 sz,.int .i64 hops,.slice t' s' (shut.map (D.int .i64))] (Au Rd.e 2 (ll l to by' sz hops shut)):=by
 refine bR rfl rfl ?_
 have hA:=fun t=>(qv l (by omega) to by' sz t s hs).grow ly
 have hlen:=sG l to by' sz hops shut
 have hsq:=DT hll
 unfold ll at hlen ⊢
 by_cases h0:0≤hops
 ·by_cases ha:bV l to by' sz
  ·rw[decide_eq_true ha]at hA
   rw[if_pos ⟨h0,ha⟩]at hlen ⊢
   unfold yo at hlen ⊢
   have hm1:=sE (a:=hops) (b:=l.length)
   have hm2:0≤mn hops l.length:=yq.2 ⟨h0,by omega⟩
   obtain⟨n,hn⟩:=Int.eq_ofNat_of_zero_le hm2
   rw[hn]at hlen ⊢
   have hn9:n≤900:=by omega
   repeat' (first
 |(refine al ?_;first
 |refine lN ?_
 |refine Gd rfl rfl rfl rfl hn ?_
 |refine gI rfl rfl ?_
 |refine eM (v:=.int .i64 by') rfl rfl rfl rfl (Nat.le_refl _) rfl rfl ?_
 |refine mI ?_
 |refine mB ?_
 |refine mS ?_
 |refine mM ?_
 |refine lF ?_
 |refine cA rfl (hA _) ?_
 |refine pB ?_
 |refine nT ?_
 |refine Hd ?_)
 |refine He ?_
 |refine Ir ?_
 |refine Hg ?_
 |refine ah rfl ?_
 |refine Hf ?_)
   refine Df l hll to sz shut hsl t t' s s' hs hs' n hn9 n 0 (by omega) [⟨to,by'⟩] _ _ 0 ?_ ?_ ?_ ?_ ?_ ?_ ?_ ?_ ?_ ?_ _ (fun ρ' st' p' g1 g2 g3 h13=>?_)
   ·exact Nat.zero_lt_one
   ·exact Nat.le_refl _
   ·rfl
   all_goals first|rfl|skip
   have hto:=uR (to:=to) (sz:=sz) (shut:=shut) (l:=l) (by':=by') n
   simp only[Int.toNat_natCast,Int.ofNat_eq_natCast]at hlen ⊢
   generalize bz to sz shut l n [⟨to,by'⟩]=es at*
   have hpos:0<es.length:=by
    rcases es with _|⟨e,es⟩
    ·cases hto
    ·simp
   have hpl:=(dp Rd.node es).length_eq
   have hR:=CQ es hpos (by omega) st' p' g1 g2 g3
   rw[←aa h13]
   repeat' (first
 |(refine al ?_;first
 |(refine cp rfl rfl rfl hR ?_)
 |refine mR ?_
 |refine mM ?_
 |refine Hd ?_)
 |refine He ?_
 |refine Ir ?_
 |refine an ?_)
   refine nh (t:=.row) (s:=2) rfl (.inl rfl) (oi (.inr rfl) rfl (by rw[List.length_map,hpl]) (by decide) (xs:=(fX Rd.node es).map Rd.e) ⟨?_,?_,_,ae _ _ _,?_,?_,?_⟩ (fun d hd=>by
    obtain⟨e,_,rfl⟩:=List.mem_map.mp hd
    exact⟨rfl,rfl⟩))
   ·show st'.lim≤st'.next+es.length
    omega
   ·show st'.next+es.length<st'.next+es.length+1
    omega
   ·show _≤(cellsOf _).length
    rw[iM]
    simp
   ·show (cellsOf _).take _=cellsOf _
    rw[List.take_of_length_le (by rw[iM];simp)]
   ·rw[List.all_eq_true]
    intro d hd
    obtain⟨x,hx,hd⟩:=List.mem_flatMap.1 hd
    obtain⟨r,_,rfl⟩:=List.mem_map.1 hx
    simp[Rd.e,D.cells]at hd
    rcases hd with rfl|rfl<;>rfl
  ·rw[decide_eq_false ha]at hA
   rw[if_neg (fun h=>ha h.2)]
   repeat' (first
 |(refine al ?_;first
 |refine mI ?_
 |refine mB ?_
 |refine mS ?_
 |refine lF ?_
 |refine cA rfl (hA _) ?_
 |refine pB ?_
 |refine nT ?_
 |refine Hd ?_)
 |refine He ?_
 |refine Ir ?_
 |refine aj rfl ?_
 |refine an ?_)
   exact nh (t:=.isnil) (s:=0) rfl (.inr rfl) ⟨.inr rfl,rfl⟩
 ·rw[if_neg (fun h=>h0 h.1)]
  repeat' (first
 |(refine al ?_;first
 |refine ak rfl ?_
 |refine mI ?_
 |refine mB ?_
 |refine mS ?_
 |refine lT ?_
 |refine ak rfl ?_
 |refine pB ?_
 |refine ak rfl ?_
 |refine Hd ?_)
 |refine He ?_
 |refine Ir ?_
 |refine aj rfl ?_
 |refine an ?_)
  exact nh (t:=.isnil) (s:=0) rfl (.inr rfl) ⟨.inr rfl,rfl⟩
end Go.Bes
/-
  The code of best, as the evaluator has it, is the program's; what goes over maps is known to hold.
-/
namespace Go.Bes
open Go.Ev
theorem z6 {ds:List D} {st st':Store} {r:D} (h:qV ds st=some (r,st')):∃p t s to sz t' s' M l shut,ds=[.map p,.slice t s (l.map Eg.e),.int .i64 to,.int .i64 sz,.slice t' s' (shut.map (D.int .i64))]∧st.boxes p=some (.map (bQ M))∧(s=8∨l=[])∧(s'=1∨shut=[])∧l.length≤1000000∧shut.length≤1000000∧st.lim≤p∧p<st.next∧r=.map st.next∧st'={st with boxes:=ap st.boxes st.next (some (.map (bQ (gb to sz shut l M)))),next:=st.next+2+l.length}:=by
 unfold qV at h
 split at h
 ·rename_i p t s xs to sz t' s' ys
  split at h
  ·rename_i kv hb
   split at h
   ·rename_i M l shut h1 h2 h3
    split at h
    ·rename_i hc
     obtain⟨c1,c2,c3,c4,c5,c6⟩:=hc
     cases h
     have e1:=oI h1
     have e2:=rS h2
     have e3:=ql h3
     subst e1 e2 e3
     exact⟨p,t,s,to,sz,t',s',M,l,shut,rfl,hb,c1.imp id (fun h=>by simpa using h),c2.imp id (fun h=>by simpa using h),c3,c4,c5,c6,rfl,rfl⟩
    ·cases h
   ·cases h
  ·cases h
 ·cases h
theorem Cx {ds:List D} {st st':Store} {r:D} (h:ya ds st=some (r,st')):∃p M,ds=[.map p]∧st.boxes p=some (.map (bQ M))∧0<M.length∧M.length≤1000000∧st.lim≤p∧p<st.next∧r=.rs (st.next+M.length) 0 2 M.length M.length∧st'={st with boxes:=ap st.boxes (st.next+M.length) (some (.row (((fX Rd.node M).map Rd.e).flatMap D.cells))),next:=st.next+M.length+1}:=by
 unfold ya at h
 split at h
 ·rename_i p
  split at h
  ·rename_i kv hb
   split at h
   ·rename_i M h1
    split at h
    ·rename_i hc
     obtain⟨c1,c2,c3,c4⟩:=hc
     cases h
     have e1:=oI h1
     subst e1
     exact⟨p,M,rfl,hb,c1,c2,c3,c4,rfl,rfl⟩
    ·cases h
   ·cases h
  ·cases h
 ·cases h
end Go.Bes
namespace Go.Proofs.Ytcejefmekkiboaa
open Go.ChangeShapes Go.WideShapes Go.ChangeAt Go.RowKit Go.Ev Go.Bes
theorem Try.own:ownKnob Try.prog.godebug=none:=by kernel_rfl
theorem Try.laidOut:laidOutB Try.prog=true:=by kernel_rfl
theorem Try.clone_ntmps:Try.f52.ntmps=8:=rfl
set_option maxRecDepth 1000000 in
set_option maxHeartbeats 2000000 in
theorem Am (w:World) (cap:Nat):Calls Try.prog 52 #[.slice none 0 cap] w fun e w'=>e=.returned (.slice none 0 0)∧w'=w:=by
 have q:∀(w:World) (a:Option Addr) (n c n2 c2:Nat),(binOp .eql 22 (.slice a n c) (.slice none n2 c2)).run Try.prog w=.ok (.bool a.isNone) w:=fun w a n c n2 c2=>Lib.run_eql_slice_nil w _ _ a n c n2 c2 Try.underlying22
 go_enter Try.func52,Try.clone_ntmps
 go_wp2
 go_ret
 exact⟨rfl,rfl⟩
theorem wF:PrimOK Try.prog 52 (gk 8 64):=nq Try.mixed (by kernel_rfl) (by decide) Am
theorem Try.clone_ntmpsR:Try.f74.ntmps=8:=rfl
theorem Try.clone_ntmpsH:Try.f75.ntmps=8:=rfl
set_option maxRecDepth 1000000 in
set_option maxHeartbeats 2000000 in
theorem xb (w:World) (cap:Nat):Calls Try.prog 74 #[.slice none 0 cap] w fun e w'=>e=.returned (.slice none 0 0)∧w'=w:=by
 have q:∀(w:World) (a:Option Addr) (n c n2 c2:Nat),(binOp .eql 24 (.slice a n c) (.slice none n2 c2)).run Try.prog w=.ok (.bool a.isNone) w:=fun w a n c n2 c2=>Lib.run_eql_slice_nil w _ _ a n c n2 c2 Try.underlying24
 go_enter Try.func74,Try.clone_ntmpsR
 go_wp2
 go_ret
 exact⟨rfl,rfl⟩
set_option maxRecDepth 1000000 in
set_option maxHeartbeats 2000000 in
theorem wU (w:World) (cap:Nat):Calls Try.prog 75 #[.slice none 0 cap] w fun e w'=>e=.returned (.slice none 0 0)∧w'=w:=by
 have q:∀(w:World) (a:Option Addr) (n c n2 c2:Nat),(binOp .eql 28 (.slice a n c) (.slice none n2 c2)).run Try.prog w=.ok (.bool a.isNone) w:=fun w a n c n2 c2=>Lib.run_eql_slice_nil w _ _ a n c n2 c2 Try.underlying28
 go_enter Try.func75,Try.clone_ntmpsH
 go_wp2
 go_ret
 exact⟨rfl,rfl⟩
theorem tZ:PrimOK Try.prog 74 (nC 2 32):=vr Try.mixed (by kernel_rfl) (by decide) xb
theorem tE:PrimOK Try.prog 75 (gk 3 24):=nq Try.mixed (by kernel_rfl) (by decide) wU
namespace Base
theorem l7:aG Try.prog 7 cV.ro cV.mv=some cV:=by kernel_rfl
theorem nI:aG Try.prog 15 dI.ro dI.mv=some dI:=by kernel_rfl
theorem jQ:aG Try.prog 5 bZ.ro bZ.mv=some bZ:=by kernel_rfl
theorem Hy:aG Try.prog 6 Hk.ro Hk.mv=some Hk:=by kernel_rfl
theorem Hz:aG Try.prog 3 Hm.ro Hm.mv=some Hm:=by kernel_rfl
theorem HB:aG Try.prog 4 Hn.ro Hn.mv=some Hn:=by kernel_rfl
theorem mJ:aG Try.prog 16 dc.ro dc.mv=some dc:=by kernel_rfl
theorem rK:aG Try.prog 8 gL.ro gL.mv=some gL:=by kernel_rfl
theorem pj:aG Try.prog 17 eY.ro eY.mv=some eY:=by kernel_rfl
theorem pn:aG Try.prog 31 e9.ro e9.mv=some e9:=by kernel_rfl
theorem nL:aG Try.prog 53 dG.ro dG.mv=some dG:=by kernel_rfl
theorem tO:aG Try.prog 54 iz.ro iz.mv=some iz:=by kernel_rfl
theorem rl:aG Try.prog 32 fG.ro fG.mv=some fG:=by kernel_rfl
theorem tY:aG Try.prog 9 iF.ro iF.mv=some iF:=by kernel_rfl
theorem qU:aG Try.prog 55 fO.ro fO.mv=some fO:=by kernel_rfl
theorem qg:aG Try.prog 73 fW.ro fW.mv=some fW:=by kernel_rfl
theorem jT:aG Try.prog 18 bY.ro bY.mv=some bY:=by kernel_rfl
theorem gP:aG Try.prog 71 bE.ro bE.mv=some bE:=by kernel_rfl
theorem ja:aG Try.prog 72 bS.ro bS.mv=some bS:=by kernel_rfl
theorem ij:aG Try.prog 89 bI.ro bI.mv=some bI:=by kernel_rfl
theorem eP:aG Try.prog 95 ba.ro ba.mv=some ba:=by kernel_rfl
theorem gu:aG Try.prog 96 bC.ro bC.mv=some bC:=by kernel_rfl
theorem ib:aG Try.prog 98 bH.ro bH.mv=some bH:=by kernel_rfl
theorem fZ:aG Try.prog 99 bv.ro bv.mv=some bv:=by kernel_rfl
theorem rE:aG Try.prog 14 gG.ro gG.mv=some gG:=by kernel_rfl
theorem mH:aG Try.prog 29 de.ro de.mv=some de:=by kernel_rfl
theorem tV:aG Try.prog 30 iv.ro iv.mv=some iv:=by kernel_rfl
theorem qq:aG Try.prog 50 fC.ro fC.mv=some fC:=by kernel_rfl
theorem uB:aG Try.prog 10 iG.ro iG.mv=some iG:=by kernel_rfl
theorem uY:aG Try.prog 21 jC.ro jC.mv=some jC:=by kernel_rfl
theorem xQ:aG Try.prog 11 kD.ro kD.mv=some kD:=by kernel_rfl
theorem vZ:aG Try.prog 12 jL.ro jL.mv=some jL:=by kernel_rfl
theorem nD:aG Try.prog 22 dF.ro dF.mv=some dF:=by kernel_rfl
theorem pk:aG Try.prog 13 fc.ro fc.mv=some fc:=by kernel_rfl
theorem me:aG Try.prog 25 cT.ro cT.mv=some cT:=by kernel_rfl
theorem jU:aG Try.prog 51 b6.ro b6.mv=some b6:=by kernel_rfl
theorem kb:aG Try.prog 70 cj.ro cj.mv=some cj:=by kernel_rfl
theorem tH:aG Try.prog 19 iH.ro iH.mv=some iH:=by kernel_rfl
theorem tU:aG Try.prog 48 io.ro io.mv=some io:=by kernel_rfl
theorem rD:aG Try.prog 28 gH.ro gH.mv=some gH:=by kernel_rfl
theorem uc:aG Try.prog 46 iw.ro iw.mv=some iw:=by kernel_rfl
theorem nk:aG Try.prog 67 dw.ro dw.mv=some dw:=by kernel_rfl
theorem nH:aG Try.prog 88 dH.ro dH.mv=some dH:=by kernel_rfl
theorem lw:aG Try.prog 49 cC.ro cC.mv=some cC:=by kernel_rfl
theorem nF:aG Try.prog 69 du.ro du.mv=some du:=by kernel_rfl
theorem tW:aG Try.prog 66 iI.ro iI.mv=some iI:=by kernel_rfl
theorem xm:aG Try.prog 26 kQ.ro kQ.mv=some kQ:=by kernel_rfl
theorem rO:aG Try.prog 27 gK.ro gK.mv=some gK:=by kernel_rfl
theorem rP:aG Try.prog 38 gJ.ro gJ.mv=some gJ:=by kernel_rfl
theorem pq:aG Try.prog 45 eX.ro eX.mv=some eX:=by kernel_rfl
theorem uX:aG Try.prog 20 jv.ro jv.mv=some jv:=by kernel_rfl
theorem uC:aG Try.prog 34 iq.ro iq.mv=some iq:=by kernel_rfl
theorem ub:aG Try.prog 35 iB.ro iB.mv=some iB:=by kernel_rfl
theorem ug:aG Try.prog 57 ix.ro ix.mv=some ix:=by kernel_rfl
theorem xi:aG Try.prog 36 kO.ro kO.mv=some kO:=by kernel_rfl
theorem vV:aG Try.prog 58 jr.ro jr.mv=some jr:=by kernel_rfl
theorem vo:aG Try.prog 59 jF.ro jF.mv=some jF:=by kernel_rfl
theorem wn:aG Try.prog 76 jM.ro jM.mv=some jM:=by kernel_rfl
theorem pN:aG Try.prog 56 fM.ro fM.mv=some fM:=by kernel_rfl
theorem BS:aG Try.prog 33 nR.ro nR.mv=some nR:=by kernel_rfl
theorem xL:aG Try.prog 77 kT.ro kT.mv=some kT:=by kernel_rfl
theorem u0:aG Try.prog 42 jy.ro jy.mv=some jy:=by kernel_rfl
theorem pf:aG Try.prog 37 fb.ro fb.mv=some fb:=by kernel_rfl
theorem wW:aG Try.prog 39 kK.ro kK.mv=some kK:=by kernel_rfl
theorem oK:aG Try.prog 43 di.ro di.mv=some di:=by kernel_rfl
theorem ph:aG Try.prog 41 cM.ro cM.mv=some cM:=by kernel_rfl
theorem oM:aG Try.prog 60 bW.ro bW.mv=some bW:=by kernel_rfl
theorem po:aG Try.prog 40 eV.ro eV.mv=some eV:=by kernel_rfl
theorem nW:aG Try.prog 63 dU.ro dU.mv=some dU:=by kernel_rfl
theorem oJ:aG Try.prog 61 eu.ro eu.mv=some eu:=by kernel_rfl
theorem oA:aG Try.prog 62 ez.ro ez.mv=some ez:=by kernel_rfl
theorem uk:aG Try.prog 23 im.ro im.mv=some im:=by kernel_rfl
theorem nS:aG Try.prog 24 Ho.ro Ho.mv=some Ho:=by kernel_rfl
theorem known:Known Try.prog Γ:=by
 intro f fd h
 unfold Γ at h
 split at h
 ·cases h;exact l7
 ·cases h;exact nI
 ·cases h;exact jQ
 ·cases h;exact Hy
 ·cases h;exact Hz
 ·cases h;exact HB
 ·cases h;exact mJ
 ·cases h;exact rK
 ·cases h;exact pj
 ·cases h;exact pn
 ·cases h;exact nL
 ·cases h;exact tO
 ·cases h;exact rl
 ·cases h;exact tY
 ·cases h;exact qU
 ·cases h;exact qg
 ·cases h;exact jT
 ·cases h;exact gP
 ·cases h;exact ja
 ·cases h;exact ij
 ·cases h;exact eP
 ·cases h;exact gu
 ·cases h;exact ib
 ·cases h;exact fZ
 ·cases h;exact rE
 ·cases h;exact mH
 ·cases h;exact tV
 ·cases h;exact qq
 ·cases h;exact uB
 ·cases h;exact uY
 ·cases h;exact xQ
 ·cases h;exact vZ
 ·cases h;exact nD
 ·cases h;exact pk
 ·cases h;exact me
 ·cases h;exact jU
 ·cases h;exact kb
 ·cases h;exact tH
 ·cases h;exact tU
 ·cases h;exact rD
 ·cases h;exact uc
 ·cases h;exact nk
 ·cases h;exact nH
 ·cases h;exact lw
 ·cases h;exact nF
 ·cases h;exact tW
 ·cases h;exact xm
 ·cases h;exact rO
 ·cases h;exact rP
 ·cases h;exact pq
 ·cases h;exact uX
 ·cases h;exact uC
 ·cases h;exact ub
 ·cases h;exact ug
 ·cases h;exact xi
 ·cases h;exact vV
 ·cases h;exact vo
 ·cases h;exact wn
 ·cases h;exact pN
 ·cases h;exact BS
 ·cases h;exact xL
 ·cases h;exact u0
 ·cases h;exact pf
 ·cases h;exact wW
 ·cases h;exact oK
 ·cases h;exact ph
 ·cases h;exact oM
 ·cases h;exact po
 ·cases h;exact nW
 ·cases h;exact oJ
 ·cases h;exact oA
 ·cases h;exact uk
 ·cases h;exact nS
 ·cases h;exact sort_known
 ·cases h;exact wF
 ·cases h;exact tZ
 ·cases h;exact tE
 ·cases h
end Base
theorem CW:aG Try.prog 47 cU.ro cU.mv=some cU:=by kernel_rfl
theorem EL:aG Try.prog 68 dk.ro dk.mv=some dk:=by kernel_rfl
theorem xl:PrimSOK Try.prog 47 qV:=by
 refine Sm.HY ⟨Base.known,Try.mixed⟩ CW (fun ds st r st' hno h=>?_)
 obtain⟨p,t,s,to,sz,t',s',M,l,shut,rfl,hb,hs,hs',hll,hsl,hlp,hp,rfl,rfl⟩:=z6 h
 refine⟨p,bQ M,hb,(ab _ _ (Nat.ne_of_lt hp)).trans hb,fun hn es cl=>?_⟩
 rw[iN]at hn
 refine(Ih l hll to sz shut hsl t t' s s' hs hs' M hn st p hp hlp hb hno es cl).mono (fun x ρ1 s1 hq=>?_)
 obtain⟨q1,q2,kv',q3,q4,q5,q6,q7,q8,q9,q10,q11⟩:=hq
 refine⟨q1,q2,.inr q6,q8.symm,q9.symm,q7.symm,q11.symm,q10.symm,fun i x hi hx=>?_,fun i hi hip=>?_⟩
 ·by_cases e:i=st.next
  ·subst e
   have hx:ap st.boxes st.next _ st.next=some x:=hx
   rw[ae]at hx
   cases hx
   exact .inr ⟨kv',_,rfl,q4,q3⟩
  ·have hx:ap st.boxes st.next _ i=some x:=hx
   rw[ab _ _ e]at hx
   have hlt:i<st.next:=by
    rcases Nat.lt_or_ge i st.next with h|h
    ·exact h
    ·rw[hno i h]at hx;cases hx
   exact .inl ((q5 i hlt hi).trans hx)
 ·have:i<st.next:=by omega
  rw[q5 i this hip]
  exact ab _ _ (by omega)
theorem zY:PrimSOK Try.prog 68 ya:=by
 refine Sm.HY ⟨C7,Try.mixed⟩ EL (fun ds st r st' hno h=>?_)
 obtain⟨p,M,rfl,hb,h0,hMl,hlp,hp,rfl,rfl⟩:=Cx h
 refine⟨p,bQ M,hb,(ab _ _ (by omega)).trans hb,fun hn es cl=>?_⟩
 rw[iN]at hn
 refine(Gc M hn h0 hMl st p hp hlp hb es cl).mono (fun x ρ1 s1 hq=>?_)
 obtain⟨q1,q2,q4,q5,q6,q7,q8,q9,q10,q11⟩:=hq
 refine⟨q1,q2,.inl q6,q8.symm,q9.symm,q7.symm,q11.symm,q10.symm,fun i x hi hx=>?_,fun i hi hip=>?_⟩
 ·by_cases e:i=st.next+M.length
  ·subst e
   have hx:ap st.boxes (st.next+M.length) _ (st.next+M.length)=some x:=hx
   rw[ae]at hx
   cases hx
   exact .inl q4
  ·have hx:ap st.boxes (st.next+M.length) _ i=some x:=hx
   rw[ab _ _ e]at hx
   have hlt:i<st.next:=by
    rcases Nat.lt_or_ge i st.next with h|h
    ·exact h
    ·rw[hno i h]at hx;cases hx
   exact .inl ((q5 i hlt hi).trans hx)
 ·have:i<st.next:=by omega
  rw[q5 i this hip]
  exact ab _ _ (by omega)
theorem known:Known Try.prog Γ2:=by
 intro f fd h
 unfold Γ2 at h
 split at h
 ·cases h;exact xl
 ·cases h;exact zY
 ·exact Base.known f fd h
end Go.Proofs.Ytcejefmekkiboaa
/-
  With how few hops.
-/
namespace Go.Bes
open Go.Ev
def jn (fr now:Int) (M:List Rd):Bool:=match cK fr M with
 |some a=>decide (now≤a)
 |none=>false
def pK (to sz:Int) (shut:List Int) (l:List Eg) (fr now:Int):Nat→Nat→List Rd→Option Nat
 |0,_,_=>none
 |m+1,k,M=>if jn fr now M then some k else pK to sz shut l fr now m (k+1) (gb to sz shut l M)
def rq (l:List Eg) (fr to now by' sz:Int) (shut:List Int):Option Nat:=if bV l fr now sz∧bV l to by' sz then pK to sz shut l fr now (l.length+1) 0 [⟨to,by'⟩]else none
def G6:Option Nat→D
 |some h=>.tuple [.int .i64 h,.bool true]
 |none=>.tuple [.int .i64 0,.bool false]
set_option maxHeartbeats 2000000 in
theorem Ge (l:List Eg) (hll:l.length≤900) (fr to now sz:Int) (shut:List Int) (hsl:shut.length≤1000000) (t t':Tok) (s s':Nat) (hs:s=8∨l=[]) (hs':s'=1∨shut=[]) (n:Nat) (hn:n≤901):∀(m k:Nat),n=k+m→∀(M:List Rd) (ρ:Nat→D) (st:Store) (p:Nat),p<st.next→st.lim≤p→st.boxes p=some (.map (bQ M))→
  ρ 0=.slice t s (l.map Eg.e)→ρ 1=.int .i64 fr→ρ 2=.int .i64 to→ρ 3=.int .i64 now→ρ 5=.int .i64 sz→ρ 6=.slice t' s' (shut.map (D.int .i64))→ρ 16=.map p→ρ 40=.int .i64 n→ρ 41=.int .i64 k→∀(Q:X→(Nat→D)→Store→Prop),
  (pK to sz shut l fr now m k M=none→∀ρ' st',Q (.exit 0) ρ' st')→(∀h,pK to sz shut l fr now m k M=some h→∀ρ' st',ρ' 14=.int .i64 h→ρ' 15=.bool true→Q .ret ρ' st')→WC Γ2 (.loop gy) ρ st Q:=by
 intro m
 induction m with
 |zero=>
  intro k hk M ρ st p hp hlp hbp h0 h1 h2 h3 h5 h6 h16 h40 h41 Q hQ hQ2
  have hk':n=k:=hk
  subst hk'
  rw[←aa h0,←aa h1,←aa h2,←aa h3,←aa h5,←aa h6,←aa h16,←aa h40,←aa h41]
  refine Hh ?_
  repeat' (first
 |(refine al ?_;first
 |refine lF ?_
 |refine Hd ?_)
 |refine He ?_
 |refine Ir ?_
 |refine ah rfl ?_
 |refine Hi ?_)
  exact hQ rfl _ _
 |succ m ih=>
  intro k hk M ρ st p hp hlp hbp h0 h1 h2 h3 h5 h6 h16 h40 h41 Q hQ hQ2
  have hlt:(k:Int)<n:=by omega
  have hS:=fun t t'=>wh l hll to sz shut hsl t t' s s' hs hs' M st p hp hlp hbp
  have hnext:=ih (k+1) (by omega) (gb to sz shut l M)
  clear ih
  have hu:pK to sz shut l fr now (m+1) k M=if jn fr now M then some k else pK to sz shut l fr now m (k+1) (gb to sz shut l M):=rfl
  rw[hu]at hQ hQ2
  clear hu
  rw[←aa h0,←aa h1,←aa h2,←aa h3,←aa h5,←aa h6,←aa h16,←aa h40,←aa h41]
  refine Hh ?_
  have hgo:jn fr now M=false→∀ρ':Nat→D,ρ' 0=.slice t s (l.map Eg.e)→ρ' 1=.int .i64 fr→ρ' 2=.int .i64 to→ρ' 3=.int .i64 now→ρ' 5=.int .i64 sz→ρ' 6=.slice t' s' (shut.map (D.int .i64))→ρ' 16=.map st.next→ρ' 40=.int .i64 n→ρ' 41=.int .i64 ((k:Int)+1)→WC Γ2 (.loop gy) ρ' {st with boxes:=ap st.boxes st.next (some (.map (bQ (gb to sz shut l M)))),next:=st.next+2+l.length} Q:=fun hb ρ' k0 k1 k2 k3 k5 k6 k16 k40 k41=>by
   rw[hb]at hQ hQ2
   exact hnext ρ' _ st.next (by show st.next<st.next+2+l.length;omega) (by show st.lim≤st.next;omega) (ae _ _ _) k0 k1 k2 k3 k5 k6 k16 k40 k41 Q hQ hQ2
  cases ha:cK fr M with
  |none=>
   have hg1:(aZ fr (bQ M)).getD (.int .i64 0)=.int .i64 0:=by rw[jk,ha];rfl
   have hg2:(aZ fr (bQ M)).isSome=false:=by rw[jk,ha];rfl
   have hb:jn fr now M=false:=by unfold jn;rw[ha]
   have hgo:=hgo hb
   clear hnext hQ hQ2
   repeat' (first
 |(refine al ?_;first
 |refine bo rfl rfl rfl hbp hg1 hg2 rfl ?_
 |(refine cp rfl rfl rfl (hS _ _) ?_)
 |refine ak rfl ?_
 |refine mI ?_
 |refine mB ?_
 |refine mS ?_
 |refine mT ?_
 |refine mM ?_
 |refine ak rfl ?_
 |refine lT ?_
 |refine aD ?_
 |refine pB ?_
 |refine eI ?_
 |refine eB ?_
 |refine Hd ?_)
 |refine He ?_
 |refine Ir ?_
 |refine Hg ?_
 |refine aj rfl ?_
 |refine ah rfl ?_
 |refine Hf ?_)
   refine hgo _ ?_ ?_ ?_ ?_ ?_ ?_ ?_ ?_ ?_<;>rfl
  |some a=>
   have hg1:(aZ fr (bQ M)).getD (.int .i64 0)=.int .i64 a:=by rw[jk,ha];rfl
   have hg2:(aZ fr (bQ M)).isSome=true:=by rw[jk,ha];rfl
   by_cases hle:now≤a
   ·have hb:jn fr now M=true:=by unfold jn;rw[ha];exact decide_eq_true hle
    rw[hb]at hQ2
    have hQ2:=hQ2 k rfl
    clear hnext hQ hgo
    repeat' (first
 |(refine al ?_;first
 |refine bo rfl rfl rfl hbp hg1 hg2 rfl ?_
 |refine mI ?_
 |refine mB ?_
 |refine mT ?_
 |refine mM ?_
 |refine lT ?_
 |refine ek rfl rfl rfl rfl (by omega) ?_
 |refine pB ?_
 |refine eI ?_
 |refine eB ?_
 |refine Hd ?_)
 |refine He ?_
 |refine Ir ?_
 |refine Hg ?_
 |refine aj rfl ?_
 |refine Hf ?_
 |refine an ?_)
    exact hQ2 _ _ rfl rfl
   ·have hb:jn fr now M=false:=by unfold jn;rw[ha];exact decide_eq_false hle
    have hgo:=hgo hb
    clear hnext hQ hQ2
    repeat' (first
 |(refine al ?_;first
 |refine bo rfl rfl rfl hbp hg1 hg2 rfl ?_
 |(refine cp rfl rfl rfl (hS _ _) ?_)
 |refine mI ?_
 |refine mB ?_
 |refine mS ?_
 |refine mT ?_
 |refine mM ?_
 |refine lT ?_
 |refine eH rfl rfl rfl rfl (by omega) ?_
 |refine aD ?_
 |refine pB ?_
 |refine eI ?_
 |refine eB ?_
 |refine Hd ?_)
 |refine He ?_
 |refine Ir ?_
 |refine Hg ?_
 |refine aj rfl ?_
 |refine ah rfl ?_
 |refine Hf ?_)
    refine hgo _ ?_ ?_ ?_ ?_ ?_ ?_ ?_ ?_ ?_<;>rfl
set_option maxHeartbeats 4000000 in
theorem A4 (l:List Eg) (hll:l.length≤900) (fr to now by' sz:Int) (shut:List Int) (hsl:shut.length≤1000000) (t t':Tok) (s s':Nat) (hs:s=8∨l=[]) (hs':s'=1∨shut=[]):
  EvP Γ2 28 [.slice t s (l.map Eg.e),.int .i64 fr,.int .i64 to,.int .i64 now,.int .i64 by',.int .i64 sz,.slice t' s' (shut.map (D.int .i64))] (G6 (rq l fr to now by' sz shut)):=by
 refine aJ rfl rfl ?_
 have hA:=fun t=>(qv l (by omega) fr now sz t s hs).grow ly
 have hB:=fun t=>(qv l (by omega) to by' sz t s hs).grow ly
 unfold rq
 by_cases ha:bV l fr now sz
 ·rw[decide_eq_true ha]at hA
  by_cases hb:bV l to by' sz
  ·rw[decide_eq_true hb]at hB
   rw[if_pos ⟨ha,hb⟩]
   repeat' (first
 |(refine al ?_;first
 |refine lN ?_
 |refine gI rfl rfl ?_
 |refine eM (v:=.int .i64 by') rfl rfl rfl rfl (Nat.le_refl _) rfl rfl ?_
 |refine mI ?_
 |refine mB ?_
 |refine mS ?_
 |refine mM ?_
 |refine aD ?_
 |refine cA rfl (hA _) ?_
 |refine cA rfl (hB _) ?_
 |refine pB ?_
 |refine nT ?_
 |refine Hd ?_)
 |refine He ?_
 |refine Ir ?_
 |refine Hg ?_
 |refine ah rfl ?_
 |refine Hf ?_)
   refine Ge l hll fr to now sz shut hsl t t' s s' hs hs' (l.length+1) (by omega) (l.length+1) 0 (by omega) [⟨to,by'⟩] _ _ 0 ?_ ?_ ?_ ?_ ?_ ?_ ?_ ?_ ?_ ?_ ?_ ?_ _ (fun hf ρ' st'=>?_) (fun h hf ρ' st' h14 h15=>?_)
   ·exact Nat.zero_lt_one
   ·exact Nat.le_refl _
   ·rfl
   all_goals first|rfl|skip
   ·rw[hf]
    repeat' (first
 |(refine al ?_;first
 |refine mI ?_
 |refine mB ?_
 |refine Hd ?_)
 |refine He ?_
 |refine Ir ?_
 |refine an ?_)
    exact bM (r':=.tuple [.int _ _,.bool _]) (.inr rfl) rfl rfl rfl
   ·rw[hf,←aa h14,←aa h15]
    exact bM (r':=.tuple [.int _ _,.bool _]) (.inr rfl) rfl rfl rfl
  ·rw[decide_eq_false hb]at hB
   rw[if_neg (fun h=>hb h.2)]
   repeat' (first
 |(refine al ?_;first
 |refine mI ?_
 |refine mB ?_
 |refine mS ?_
 |refine cA rfl (hA _) ?_
 |refine cA rfl (hB _) ?_
 |refine pB ?_
 |refine nT ?_
 |refine Hd ?_)
 |refine He ?_
 |refine Ir ?_
 |refine aj rfl ?_
 |refine an ?_)
   exact bM (r':=.tuple [.int _ _,.bool _]) (.inr rfl) rfl rfl rfl
 ·rw[decide_eq_false ha]at hA
  rw[if_neg (fun h=>ha h.1)]
  repeat' (first
 |(refine al ?_;first
 |refine ak rfl ?_
 |refine mI ?_
 |refine mB ?_
 |refine mS ?_
 |refine ak rfl ?_
 |refine cA rfl (hA _) ?_
 |refine pB ?_
 |refine nT ?_
 |refine ak rfl ?_
 |refine Hd ?_)
 |refine He ?_
 |refine Ir ?_
 |refine aj rfl ?_
 |refine an ?_)
  exact bM (r':=.tuple [.int _ _,.bool _]) (.inr rfl) rfl rfl rfl
end Go.Bes
/-
  Plain laws of the latest times, for the statements.
-/
namespace Go.Bes
variable {l:List Eg} {to by' sz:Int} {shut:List Int}
theorem Dy {L M:List Rd} (hp:L.Perm M) (hn:(M.map Rd.node).Nodup) (n:Int):cK n L=cK n M:=by
 have hL:(L.map Rd.node).Nodup:=(hp.map _).nodup_iff.2 hn
 cases h:cK n M with
 |some t=>exact rc hL (hp.mem_iff.2 (fE h))
 |none=>
  cases h':cK n L with
  |none=>rfl
  |some t=>
   have:=rc hn (hp.mem_iff.1 (fE h'))
   rw[h]at this;cases this
theorem Cq:(([⟨to,by'⟩]:List Rd).map Rd.node).Nodup:=by simp
theorem Le.at_ {M N:List Rd} (h:Le M N) (h':Le N M) (n:Int):cK n M=cK n N:=by
 cases h1:cK n M with
 |some t=>
  obtain⟨u,h2,h3⟩:=h n t h1
  obtain⟨v,h4,h5⟩:=h' n u h2
  rw[h1]at h4
  cases h4
  rw[h2]
  have:t=u:=by omega
  rw[this]
 |none=>
  cases h2:cK n N with
  |none=>rfl
  |some u=>
   obtain⟨v,h4,h5⟩:=h' n u h2
   rw[h1]at h4;cases h4
theorem C3 (hf:by'≤1099511627776) {k:Nat} (hk:l.length≤k) (n:Int):cK n (bz to sz shut l k [⟨to,by'⟩])=cK n (bz to sz shut l l.length [⟨to,by'⟩]):=
 (oU hf k).at_ (vE hk _) n
theorem uE (ha:bV l to by' sz) {hops:Int} (h0:0≤hops) (n:Int):cK n (ll l to by' sz hops shut)=cK n (bz to sz shut l hops.toNat [⟨to,by'⟩]):=by
 unfold ll yo
 rw[if_pos ⟨h0,ha⟩,Dy (dp Rd.node _) (qK _ _ Cq)]
 unfold mn
 split
 ·rename_i h
  rw[C3 ha.2.2.1.2 (k:=hops.toNat) (by omega)]
  rfl
 ·rfl
/-! ### Edges -/
theorem Bh (hf:by'≤1099511627776):∀(k:Nat) {n t:Int},cK n (bz to sz shut l (k+1) [⟨to,by'⟩])=some t→n=to∨∃e∈l,e.fr=n∧∃b,cK e.to (bz to sz shut l k [⟨to,by'⟩])=some b∧DG to sz shut e b t:=by
 intro k
 induction k with
 |zero=>
  intro n t h
  rw[dP]at h
  rcases lA h with h|⟨e,he,b,h1,h2,h3⟩
  ·simp only[bz,cK]at h
   split at h<;>cases h
   rename_i e
   exact .inl e.symm
  ·exact .inr ⟨e,he,h3,b,h1,h2⟩
 |succ k ih=>
  intro n t h
  have h':=h
  rw[dP]at h
  rcases lA h with h|⟨e,he,b,h1,h2,h3⟩
  ·rcases ih h with h|⟨e,he,h3,b,h1,h2⟩
   ·exact .inl h
   obtain⟨b',h4,h5⟩:=yN (to:=to) (sz:=sz) (shut:=shut) (l:=l) k [⟨to,by'⟩] _ _ h1
   have hb':=n9 (to:=to) (sz:=sz) (shut:=shut) (l:=l) (k+1) _ (ov (to:=to) (by':=by')) _ _ h4
   obtain⟨x',h6,h7⟩:=oV h2.2.2 h5 (by omega)
   obtain⟨u,h8,h9⟩:=pz (to:=to) (sz:=sz) (shut:=shut) he h4 (x:=x') ⟨h2.1,h2.2.1,h6⟩
   rw[←dP,h3,h']at h8
   cases h8
   exact .inr ⟨e,he,h3,b',h4,h2.1,h2.2.1,by rw[h6,show x'=t by omega]⟩
  ·exact .inr ⟨e,he,h3,b,h1,h2⟩
/-! ### The fewest -/
variable {fr now:Int}
theorem pU:∀(m k:Nat) (M:List Rd) {h:Nat},pK to sz shut l fr now m k M=some h→k≤h∧h<k+m∧jn fr now (bz to sz shut l (h - k) M)=true∧∀j,j<h - k→jn fr now (bz to sz shut l j M)=false
 |0,k,M,h,e=>by cases e
 |m+1,k,M,h,e=>by
  rw[pK]at e
  split at e
  ·rename_i hb
   cases e
   exact⟨Nat.le_refl _,by omega,by rw[Nat.sub_self];exact hb,fun j hj=>by omega⟩
  ·rename_i hb
   obtain⟨h1,h2,h3,h4⟩:=pU m (k+1) _ e
   refine⟨by omega,by omega,?_,fun j hj=>?_⟩
   ·rw[show h - k=(h - (k+1))+1 by omega,bz];exact h3
   ·cases j with
    |zero=>simpa[bz]using hb
    |succ j=>rw[bz];exact h4 j (by omega)
theorem wx:∀(m k:Nat) (M:List Rd),pK to sz shut l fr now m k M=none→∀j,j<m→jn fr now (bz to sz shut l j M)=false
 |0,k,M,e,j,hj=>by omega
 |m+1,k,M,e,j,hj=>by
  rw[pK]at e
  split at e
  ·cases e
  ·rename_i hb
   cases j with
   |zero=>simpa[bz]using hb
   |succ j=>rw[bz];exact wx m (k+1) _ e j (by omega)
theorem dA {M:List Rd}:jn fr now M=true↔∃a,cK fr M=some a∧now≤a:=by
 unfold jn
 split
 ·rename_i a h
  rw[decide_eq_true_eq,h]
  exact⟨fun h'=>⟨a,rfl,h'⟩,fun⟨b,e,h'⟩=>by cases e;exact h'⟩
 ·rename_i h
  rw[h]
  exact⟨fun h'=>(by cases h'),fun⟨b,e,h'⟩=>(by cases e)⟩
def qX (l:List Eg) (fr to now sz by':Int):Bool:=match cK to (ee l fr now sz [])with
 |some a=>decide (a≤by')
 |none=>false
theorem xO {ha:bV l fr now sz}:qX l fr to now sz by'=true↔∃t,t≤by'∧Reach (kA sz) (mZ []) l fr now to t:=by
 have hT:=ky ha []
 unfold qX
 constructor
 ·intro h
  split at h
  ·rename_i a h1
   exact⟨a,of_decide_eq_true h,hT.t1 _ (fE h1)⟩
  ·cases h
 ·rintro⟨t,h1,h2⟩
  obtain⟨u,h3,h4⟩:=hT.at_ h2
  rw[h3]
  exact decide_eq_true (by omega)
theorem Hb (ha:bV l fr now sz) (hb:bV l to by' sz):qX l fr to now sz by'=jn fr now (bz to sz [] l l.length [⟨to,by'⟩]):=by
 have key:qX l fr to now sz by'=true↔jn fr now (bz to sz [] l l.length [⟨to,by'⟩])=true:=by
  rw[xO (ha:=ha),dA]
  constructor
  ·rintro⟨t,h1,h2⟩
   obtain⟨p,b,h3,h4⟩:=BF hb.2.2.1.2 h2 (.nil (to:=to) (sz:=sz) (shut:=[]) (l:=l) (by':=by')) h1
   obtain⟨u,h5,h6⟩:=HR hb.2.2.1.2 h3
   obtain⟨v,h7,h8⟩:=oU hb.2.2.1.2 p.length _ _ h5
   exact⟨v,h7,by omega⟩
  ·rintro⟨a,h1,h2⟩
   obtain⟨p,_,h3⟩:=kP _ h1
   obtain⟨a',h4,h5⟩:=BK h3 (mZ []) (fun m=>by simp[mZ]) now ha.2.2.1.1 h2
   exact⟨a',h4,h5⟩
 cases h1:qX l fr to now sz by'<;>cases h2:jn fr now (bz to sz [] l l.length [⟨to,by'⟩])<;>simp_all
end Go.Bes
/-
  Plain laws of the best route.
-/
namespace Go.Bes
/-! ### What is looked for -/
def tD (to sz:Int) (shut:List Int) (L:List Rd) (t:Int) (e:Eg):Bool:=match cK e.to L with
 |some b=>decide (eT e t sz)&&(decide (aX e t sz≤b)&&(decide (e.to=to)||decide (e.to∉shut)))
 |none=>false
def nextM (l:List Eg) (to by' sz:Int) (shut:List Int) (n t hops:Int):Option Eg:=(ci n l).find? (tD to sz shut (ll l to by' sz hops shut) t)
def DU (l:List Eg) (to by' sz:Int) (shut:List Int):Nat→Int→Int→Option (List Eg)
 |0,_,_=>some []
 |k+1,n,t=>match nextM l to by' sz shut n t k with
  |none=>none
  |some e=>(DU l to by' sz shut k e.to (aX e t sz)).map (e:: ·)
def fq (l:List Eg) (fr to now sz by':Int) (shut:List Int):Option (List Eg×Int):=match cK to (ee l fr now sz shut)with
 |none=>none
 |some a=>if by'<a then none else match rq l fr to now a sz shut with
  |none=>none
  |some n=>(DU l to a sz shut n fr now).map fun es=>(es,a)
/-! ### Walks by edges -/
inductive Way (sz:Int) (l:List Eg):Int→Int→List Eg→Int→Int→Prop
 |nil {n t:Int}:Way sz l n t [] n t
 |cons {n t m u:Int} {e:Eg} {es:List Eg} (he:e∈l) (hf:e.fr=n) (hp:eT e t sz) (h:Way sz l e.to (aX e t sz) es m u):Way sz l n t (e::es) m u
variable {l:List Eg} {to by' sz:Int} {shut:List Int}
theorem Way.ge {n t m u:Int} {es:List Eg} (h:Way sz l n t es m u):t≤u:=by
 induction h with
 |nil=>exact Int.le_refl _
 |cons _ _ hp _ ih=>exact Int.le_trans (ms hp) ih
theorem Way.inj {n t m u m' u':Int} {es:List Eg} (h:Way sz l n t es m u) (h':Way sz l n t es m' u'):m=m'∧u=u':=by
 induction h with
 |nil=>cases h';exact⟨rfl,rfl⟩
 |cons he hf hp h ih=>cases h' with|cons _ _ _ h'=>exact ih h'
theorem Way.trans {n t m u m' u':Int} {es es':List Eg} (h:Way sz l n t es m u) (h':Way sz l m u es' m' u'):Way sz l n t (es++es') m' u':=by
 induction h with
 |nil=>exact h'
 |cons he hf hp h ih=>exact .cons he hf hp (ih h')
theorem Way.split {n t m u:Int}:∀{es es':List Eg},Way sz l n t (es++es') m u→∃m' u',Way sz l n t es m' u'∧Way sz l m' u' es' m u:=by
 intro es
 induction es generalizing n t with
 |nil=>intro es' h;exact⟨n,t,.nil,h⟩
 |cons e es ih=>
  intro es' h
  cases h with
  |cons he hf hp h=>
   obtain⟨m',u',h1,h2⟩:=ih h
   exact⟨m',u',.cons he hf hp h1,h2⟩
theorem Way.mem {n t m u:Int} {es:List Eg} (h:Way sz l n t es m u):∀e∈es,e∈l:=by
 induction h with
 |nil=>simp
 |cons he _ _ _ ih=>
  intro e h
  rcases List.mem_cons.1 h with rfl|h
  ·exact he
  ·exact ih e h
theorem Way.sub {l':List Eg} {n t m u:Int} {es:List Eg} (h:Way sz l n t es m u) (hs:∀e∈es,e∈l'):Way sz l' n t es m u:=by
 induction h with
 |nil=>exact .nil
 |cons he hf hp h ih=>exact .cons (hs _ List.mem_cons_self) hf hp (ih fun e h=>hs e (List.mem_cons_of_mem _ h))
def aL (n:Int) (es:List Eg):List Int:=n::es.map Eg.to
theorem Way.reach {n t m u:Int} {es:List Eg} (h:Way sz l n t es m u) (hs:∀e∈es,e.to∉shut) {fr now:Int} (hr:Reach (kA sz) (mZ shut) l fr now n t):Reach (kA sz) (mZ shut) l fr now m u:=by
 induction h with
 |nil=>exact hr
 |cons he hf hp h ih=>
  rename_i n t m u e es
  exact ih (fun e h=>hs e (List.mem_cons_of_mem _ h)) (.go hr he hf (fS.2 ⟨hp,rfl⟩) (by simp[mZ,hs e List.mem_cons_self]))
theorem Way.late {n t m u:Int} {es:List Eg} (h:Way sz l n t es m u) (hm:m=to) (hu:u≤by') (hb:by'≤1099511627776) (hto:∀e∈es,e.fr≠to) (hs:∀e∈es,e.to=to∨e.to∉shut):jn n t (bz to sz shut l es.length [⟨to,by'⟩])=true:=by
 induction h with
 |nil=>
  subst hm
  exact dA.2 ⟨by',by simp[bz,cK],hu⟩
 |cons he hf hp h ih=>
  rename_i n t m u e es
  have hi:=ih hm hu (fun e h=>hto e (List.mem_cons_of_mem _ h)) (fun e h=>hs e (List.mem_cons_of_mem _ h))
  obtain⟨b,h1,h2⟩:=dA.1 hi
  have hbb:=n9 es.length _ (ov (to:=to) (by':=by')) _ _ h1
  obtain⟨x,h3,h4⟩:=qk hp h2 (by omega)
  obtain⟨v,h5,h6⟩:=pz (shut:=shut) he h1 (x:=x) ⟨hto e List.mem_cons_self,hs e List.mem_cons_self,h3⟩
  rw[List.length_cons,dP]
  exact dA.2 ⟨v,by rw[←hf];exact h5,by omega⟩
/-! ### The search -/
def uw (l:List Eg) (to by' sz:Int) (shut:List Int) (k:Nat) (n t:Int):Prop:=jn n t (bz to sz shut l k [⟨to,by'⟩])=true∧∀j,j<k→jn n t (bz to sz shut l j [⟨to,by'⟩])=false
theorem zV {n t:Int} (h:uw l to by' sz shut 0 n t):n=to∧t≤by':=by
 obtain⟨a,h1,h2⟩:=dA.1 h.1
 simp only[bz,cK]at h1
 split at h1<;>cases h1
 rename_i e
 exact⟨e.symm,h2⟩
theorem yL {k:Nat} {n t:Int} (h:uw l to by' sz shut (k+1) n t):n≠to:=by
 rintro rfl
 obtain⟨a,h1,h2⟩:=dA.1 h.1
 rw[uR]at h1
 cases h1
 have:=h.2 0 (by omega)
 unfold jn at this
 rw[uR]at this
 simp at this
 omega
theorem mC {n:Int} {e:Eg}:e∈ci n l↔e∈l∧e.fr=n:=by simp[ci]
theorem ik {L:List Rd} {t:Int} {e:Eg}:tD to sz shut L t e=true↔∃b,cK e.to L=some b∧eT e t sz∧aX e t sz≤b∧(e.to=to∨e.to∉shut):=by
 unfold tD
 split
 ·rename_i b h
  rw[h]
  simp
 ·rename_i h
  rw[h]
  simp
theorem DD {k:Nat} {n t:Int} (ha:bV l to by' sz) (h:uw l to by' sz shut (k+1) n t) {e:Eg} (he:e∈l) (hf:e.fr=n) (ho:tD to sz shut (ll l to by' sz k shut) t e=true):uw l to by' sz shut k e.to (aX e t sz):=by
 obtain⟨b,h1,h2,h3,h4⟩:=ik.1 ho
 rw[uE ha (by omega)]at h1
 refine⟨dA.2 ⟨b,h1,h3⟩,fun j hj=>?_⟩
 cases hb:jn e.to (aX e t sz) (bz to sz shut l j [⟨to,by'⟩])with
 |false=>rfl
 |true=>
  exfalso
  obtain⟨c,h5,h6⟩:=dA.1 hb
  have hbb:=n9 (to:=to) (sz:=sz) (shut:=shut) (l:=l) j _ (ov (to:=to) (by':=by')) _ _ h5
  have:=ha.2.2.1.2
  obtain⟨x,h7,h8⟩:=qk h2 h6 (by omega)
  obtain⟨v,h9,h10⟩:=pz (shut:=shut) he h5 (x:=x) ⟨by rw[hf];exact yL h,h4,h7⟩
  have:=h.2 (j+1) (by omega)
  rw[dP]at this
  rw[dA.2 ⟨v,by rw[←hf];exact h9,by omega⟩]at this
  cases this
theorem zj {k:Nat} {n t:Int} (ha:bV l to by' sz) (h0:0≤t) (h:uw l to by' sz shut (k+1) n t):∃e,nextM l to by' sz shut n t k=some e:=by
 obtain⟨a,h1,h2⟩:=dA.1 h.1
 rcases Bh ha.2.2.1.2 k h1 with h3|⟨e,he,h3,b,h4,h5⟩
 ·exact absurd h3 (yL h)
 ·obtain⟨h6,h7⟩:=wm h5.2.2 h0 h2
  cases hn:nextM l to by' sz shut n t k with
  |some e=>exact⟨e,rfl⟩
  |none=>
   exfalso
   unfold nextM at hn
   rw[List.find?_eq_none]at hn
   refine hn e (mC.2 ⟨he,h3⟩) (ik.2 ⟨b,?_,h6,h7,h5.2.1⟩)
   rw[uE ha (by omega)]
   exact h4
theorem Ia {n t hops:Int} {e:Eg} (h:nextM l to by' sz shut n t hops=some e):e∈l∧e.fr=n∧tD to sz shut (ll l to by' sz hops shut) t e=true:=by
 unfold nextM at h
 have h1:=List.mem_of_find?_eq_some h
 have h2:=List.find?_some h
 exact⟨(mC.1 h1).1,(mC.1 h1).2,h2⟩
theorem tP (hl:l.Pairwise fun a b=>a.id<b.id) (n:Int):(ci n l).Pairwise fun a b=>a.id<b.id:=hl.filter _
theorem pV:∀{m:List Eg} {p:Eg→Bool} {e e':Eg},(m.Pairwise fun a b=>a.id<b.id)→m.find? p=some e→e'∈m→p e'=true→e=e'∨e.id<e'.id
 |[],p,e,e',_,h,_,_=>by cases h
 |x::m,p,e,e',hs,h,he,hp=>by
  have hs':=List.pairwise_cons.1 hs
  rw[List.find?_cons]at h
  cases hx:p x with
  |true=>
   rw[hx]at h
   cases h
   rcases List.mem_cons.1 he with rfl|he
   ·exact .inl rfl
   ·exact .inr (hs'.1 _ he)
  |false=>
   rw[hx]at h
   rcases List.mem_cons.1 he with rfl|he
   ·rw[hx]at hp;cases hp
   ·exact pV hs'.2 h he hp
theorem xC (hl:RL l) {n t hops:Int} {e e':Eg} (h:nextM l to by' sz shut n t hops=some e) (he:e'∈l) (hf:e'.fr=n) (ho:tD to sz shut (ll l to by' sz hops shut) t e'=true):e=e'∨e.id<e'.id:=
 pV (tP hl.2 n) h (mC.2 ⟨he,hf⟩) ho
def ce:List Int→List Int→Int
 |[],[]=>0
 |[],_::_=> -1
 |_::_,[]=>1
 |a::xs,b::ys=>if a<b then -1 else if b<a then 1 else ce xs ys
theorem my:∀a:List Int,ce a a=0
 |[]=>rfl
 |a::xs=>by rw[ce,if_neg (Int.lt_irrefl _),if_neg (Int.lt_irrefl _),my xs]
structure Best (l:List Eg) (to by' sz:Int) (shut:List Int) (k:Nat) (n t:Int) (es:List Eg):Prop where
 way:∃u,Way sz l n t es to u∧u≤by'
 len:es.length=k
 nd:(aL n es).Nodup
 op:∀e∈es,e.to=to∨e.to∉shut
 best:RL l→∀es' u',Way sz l n t es' to u'→u'≤by'→es'.length=k→(∀e∈es',e.fr≠to)→(∀e∈es',e.to=to∨e.to∉shut)→es=es'∨ce (es.map Eg.id) (es'.map Eg.id)= -1
theorem EX (hl:RL l) {a b:Eg} (ha:a∈l) (hb:b∈l) (h:a.id=b.id):a=b:=by
 obtain⟨i,hi,rfl⟩:=List.getElem_of_mem ha
 obtain⟨j,hj,rfl⟩:=List.getElem_of_mem hb
 have hp:=List.pairwise_iff_getElem.1 hl.2
 rcases Nat.lt_trichotomy i j with h1|h1|h1
 ·have:=hp i j hi hj h1;omega
 ·subst h1;rfl
 ·have:=hp j i hj hi h1;omega
theorem y6 (ha:bV l to by' sz):∀(k:Nat) {n t:Int},0≤t→uw l to by' sz shut k n t→∃es,DU l to by' sz shut k n t=some es∧Best l to by' sz shut k n t es∧∀(j:Nat) (h:j<es.length),∃tj,t≤tj∧uw l to by' sz shut (k - (j+1)) (es[j]'h).to tj:=by
 intro k
 induction k with
 |zero=>
  intro n t h0 h
  obtain⟨rfl,h1⟩:=zV h
  exact⟨[],rfl,⟨⟨t,.nil,h1⟩,rfl,by simp[aL],by simp,fun _ es' u' _ _ hl _ _=>.inl (List.length_eq_zero_iff.1 hl).symm⟩,fun j h=>by simp at h⟩
 |succ k ih=>
  intro n t h0 h
  obtain⟨e,he⟩:=zj ha h0 h
  obtain⟨h1,h2,h3⟩:=Ia he
  have hw:=DD ha h h1 h2 h3
  obtain⟨b,h4,h5,h6,h7⟩:=ik.1 h3
  have hge:=ms h5
  obtain⟨es,g1,g2,g3⟩:=ih (by omega) hw
  obtain⟨u,hway,hu⟩:=g2.way
  have hg3:∀(j:Nat) (h:j<(e::es).length),∃tj,t≤tj∧uw l to by' sz shut (k+1 - (j+1)) ((e::es)[j]'h).to tj:=fun j hj=>by
   cases j with
   |zero=>exact⟨_,hge,hw⟩
   |succ j=>
    obtain⟨tj,a1,a2⟩:=g3 j (by simpa using hj)
    exact⟨tj,by omega,by rw[show k+1 - (j+1+1)=k - (j+1)by omega];exact a2⟩
  refine⟨e::es,by rw[DU,he];simp only[g1];rfl,⟨⟨u,.cons h1 h2 h5 hway,hu⟩,by simp[g2.len],?_,?_,?_⟩,hg3⟩
  ·refine List.nodup_cons.2 ⟨fun hn=>?_,g2.nd⟩
   obtain⟨j,hj,hjn⟩:=List.getElem_of_mem hn
   have hj':j<(e::es).length:=by simpa using hj
   obtain⟨tj,a1,a2⟩:=hg3 j hj'
   rw[List.getElem_map]at hjn
   rw[hjn]at a2
   obtain⟨c,c1,c2⟩:=dA.1 a2.1
   have:=h.2 (k+1 - (j+1)) (by omega)
   rw[dA.2 ⟨c,c1,by omega⟩]at this
   cases this
  ·intro e' h
   rcases List.mem_cons.1 h with rfl|h
   ·exact h7
   ·exact g2.op e' h
  ·intro hl es' u' hw' hu' hl' hto hs
   cases hw' with
   |nil=>simp at hl'
   |cons he' hf' hp' hw'=>
    rename_i e' es'
    have hlate:=hw'.late rfl hu' ha.2.2.1.2 (fun e h=>hto e (List.mem_cons_of_mem _ h)) (fun e h=>hs e (List.mem_cons_of_mem _ h))
    simp only[List.length_cons,Nat.add_right_cancel_iff]at hl'
    rw[hl']at hlate
    obtain⟨b',h8,h9⟩:=dA.1 hlate
    have ho:tD to sz shut (ll l to by' sz k shut) t e'=true:=ik.2 ⟨b',by rw[uE ha (by omega)];exact h8,hp',h9,hs e' List.mem_cons_self⟩
    rcases xC hl he he' hf' ho with rfl|hlt
    ·rcases g2.best hl es' u' hw' hu' hl' (fun e h=>hto e (List.mem_cons_of_mem _ h)) (fun e h=>hs e (List.mem_cons_of_mem _ h))with rfl|hlt
     ·exact .inl rfl
     ·right
      rw[List.map_cons,List.map_cons,ce,if_neg (Int.lt_irrefl _),if_neg (Int.lt_irrefl _)]
      exact hlt
    ·right
     rw[List.map_cons,List.map_cons,ce,if_pos hlt]
end Go.Bes
/-
  Routes: their IDs, whether two are the same, which one is better.
-/
namespace Go.Bes
open Go.Ev
theorem y4 (a:Int):eb 1 (D.int .i64 a):=⟨rfl,rfl⟩
theorem Cn (a:Int):(D.int .i64 a).cells.length=1∧sy (D.int .i64 a).cells=D.int .i64 a:=⟨rfl,rfl⟩
theorem xP {l pre post:List Hp} {x:Hp} (h:l=pre++x::post):l[pre.length]?=some x:=by rw[h];simp
/-! ### IDs -/
set_option maxHeartbeats 2000000 in
theorem FZ (hs:List Hp) (hll:hs.length≤1000000) (t:Tok) (s:Nat) (hsz:s=3∨hs=[]):∀(post pre:List Hp),hs=pre++post→∀(ρ:Nat→D) (st:Store) (d:D),st.lim≤0→pg (D.int .i64) 1 st d (pre.map Hp.id)→
  ρ 2=d→ρ 6=.slice t s (hs.map Hp.e)→ρ 7=.int .i64 hs.length→ρ 8=.int .i64 pre.length→∀(Q:X→(Nat→D)→Store→Prop),
  (∀ρ' st' d',pg (D.int .i64) 1 st' d' (hs.map Hp.id)→ρ' 2=d'→Q (.exit 0) ρ' st')→WC Γ (.loop jS) ρ st Q:=by
 intro post
 induction post with
 |nil=>
  intro pre hpp ρ st d hlim hO h2 h6 h7 h8 Q hQ
  rw[List.append_nil]at hpp
  subst hpp
  rw[←aa h2,←aa h6,←aa h7,←aa h8]
  refine Hh ?_
  repeat' (first
 |(refine al ?_;first
 |refine lF ?_
 |refine Hd ?_)
 |refine He ?_
 |refine Ir ?_
 |refine ah rfl ?_
 |refine Hi ?_)
  exact hQ _ _ d hO rfl
 |cons x post ih=>
  intro pre hpp ρ st d hlim hO h2 h6 h7 h8 Q hQ
  have hv:=xP hpp
  have hlen:hs.length=pre.length+(post.length+1):=by rw[hpp];simp
  have hz:s=3:=hsz.resolve_right (by rintro rfl;simp at hlen)
  subst hz
  have hpl:pre.length<(hs.map Hp.e).length:=by simp;omega
  have hltl:(pre.length:Int)<hs.length:=by omega
  have hbd:((pre.map Hp.id).length+1)*8≤140737488355328:=by simp;omega
  have hlim2:st.lim≤st.next:=by omega
  have hnext:∀(ρ':Nat→D) (st':Store) (d':D),st'.lim≤0→pg (D.int .i64) 1 st' d' (pre.map Hp.id++[x.id])→ρ' 2=d'→ρ' 6=.slice t 3 (hs.map Hp.e)→ρ' 7=.int .i64 hs.length→ρ' 8=.int .i64 ((pre.length:Int)+1)→WC Γ (.loop jS) ρ' st' Q:=fun ρ' st' d' e1 e2 k2 k6 k7 k8=>
   ih (pre++[x]) (by simp[hpp]) ρ' st' d' e1 (by rw[List.map_append];exact e2) k2 k6 k7 (by rw[List.length_append];exact k8) Q hQ
  have hO2:pg (D.int .i64) 1 {st with boxes:=ap (ap st.boxes st.next (some (.cells [.int .i64 0,.int .i64 0,.int .i64 0]))) st.next (some (.cells x.e.cells)),next:=st.next+1} d (pre.map Hp.id):=by
   rcases hO with h|⟨q,n,c,g1,g2,g3,g4,g5,cs,g6,g7⟩
   ·exact .inl h
   ·exact .inr ⟨q,n,c,g1,g2,g3,g4,Nat.lt_succ_of_lt g5,cs,(ab _ _ (Nat.ne_of_lt g5)).trans ((ab _ _ (Nat.ne_of_lt g5)).trans g6),g7⟩
  clear ih hQ
  rw[←aa h2,←aa h6,←aa h7,←aa h8]
  refine Hh ?_
  repeat' (first
 |(refine al ?_;first
 |refine iA (pre.length) hpl ?_
 |refine am (cs':=[_,_,_]) rfl rfl (ae _ _ _) rfl hlim2 rfl rfl rfl ?_
 |refine aB (v:=d1) rfl rfl rfl ?_
 |refine aB (v:=d) rfl rfl rfl ?_
 |(refine E9 (r:=x.id) (by decide) y4 rfl rfl rfl rfl hO2 hbd hlim ?_;intro st1 d1 a1 a2)
 |refine mI ?_
 |refine lT ?_
 |refine aD ?_
 |refine lE (d:=.agg [_,_,_]) hv ?_
 |refine lP (d:=.int _ _) ?_
 |refine fD ?_
 |refine av rfl rfl ?_
 |refine bg (ys:=[_]) rfl rfl rfl (by decide) rfl ?_
 |refine Hd ?_)
 |refine He ?_
 |refine Ir ?_
 |refine Hg ?_
 |refine aj rfl ?_
 |refine Hf ?_)
  exact hnext _ st1 d1 a1 a2 rfl rfl rfl rfl
theorem mY (hs:List Hp) (hll:hs.length≤1000000) (a:Int) (t:Tok) (s:Nat) (hsz:s=3∨hs=[]):EvX Γ 11 [.agg [.slice t s (hs.map Hp.e),.int .i64 a]] (Au (D.int .i64) 1 (hs.map Hp.id)):=by
 refine bR rfl rfl ?_
 repeat' (first
 |(refine al ?_;first
 |refine lN ?_
 |refine mI ?_
 |refine mS ?_
 |refine lO (d:=.slice _ _ _) ?_
 |refine cm rfl rfl rfl rfl rfl ?_
 |refine fD ?_
 |refine Hd ?_)
 |refine He ?_
 |refine Ir ?_
 |refine Hf ?_)
 refine FZ hs hll t s hsz hs [] rfl _ _ (.slice .isnil 0 []) (Nat.le_refl _) (.inl ⟨rfl,rfl⟩) ?_ ?_ ?_ ?_ _ (fun ρ' st' d hO h2=>?_)
 all_goals first|rfl|skip
 rw[←aa h2]
 repeat' (first
 |(refine al ?_;first
 |refine aB (v:=d) rfl rfl rfl ?_
 |refine Hd ?_)
 |refine He ?_
 |refine Ir ?_
 |refine an ?_)
 exact EI (by decide) Cn (.inr rfl) rfl hO
/-! ### The same -/
theorem DN (a b c a' b' c':Int):mK [.int .i64 a,.int .i64 b,.int .i64 c] [.int .i64 a',.int .i64 b',.int .i64 c'] [0,1,2]=some (decide (a=a'∧b=b'∧c=c')):=by
 simp[mK]
 by_cases h1:a=a'<;>by_cases h2:b=b'<;>by_cases h3:c=c'<;>simp[h1,h2,h3]
theorem Hp.ext' {a b:Hp}:(a.id=b.id∧a.se=b.se∧a.ar=b.ar)↔a=b:=by
 cases a
 cases b
 simp
theorem F5 (a b:List Hp) (hl:a.length≤1073741824) (hab:a.length=b.length) (t t':Tok) (sa sb:Nat) (ha:sa=3∨a=[]) (hb:sb=3∨b=[]):∀(m i:Nat),a.length - i=m→i≤a.length→a.take i=b.take i→
  ∀(ρ:Nat→D) (h0:ρ 0=.slice t sa (a.map Hp.e)) (h1:ρ 1=.slice t' sb (b.map Hp.e)) (h12:ρ 12=.int .i64 a.length) (h13:ρ 13=.int .i64 i) (Q:X→(Nat→D)→Store→Prop),
  (a=b→∀ρ',Q (.exit 0) ρ' Store.empty)→(a≠b→∀ρ',ρ' 4=.bool false→Q .ret ρ' Store.empty)→WC Γ (.loop ga) ρ Store.empty Q:=by
 intro m
 induction m with
 |zero=>
  intro i hm hi he ρ h0 h1 h12 h13 Q hQ hQ2
  rw[←aa h0,←aa h1,←aa h12,←aa h13]
  refine Hh ?_
  repeat' (first
 |(refine al ?_;first
 |refine lF ?_
 |refine Hd ?_)
 |refine He ?_
 |refine Ir ?_
 |refine ah rfl ?_
 |refine Hi ?_)
  refine hQ ?_ _
  rw[List.take_of_length_le (by omega),List.take_of_length_le (by omega)]at he
  exact he
 |succ m ih=>
  intro i hm hi he ρ h0 h1 h12 h13 Q hQ hQ2
  rw[←aa h0,←aa h1,←aa h12,←aa h13]
  obtain⟨x,hx⟩:∃v,a[i]?=some v:=⟨_,List.getElem?_eq_getElem (by omega)⟩
  obtain⟨y,hy⟩:∃v,b[i]?=some v:=⟨_,List.getElem?_eq_getElem (by omega)⟩
  have hz:sa=3:=ha.resolve_right (by rintro rfl;simp at hx)
  have hz2:sb=3:=hb.resolve_right (by rintro rfl;simp at hy)
  subst hz hz2
  have hpa:i<(a.map Hp.e).length:=by simp;omega
  have hpb:i<(b.map Hp.e).length:=by simp;omega
  have hltl:(i:Int)<a.length:=by omega
  refine Hh ?_
  repeat' (first
 |(refine al ?_;first
 |refine iA i hpa ?_
 |refine iA i hpb ?_
 |(refine EJ rfl rfl rfl rfl rfl rfl (DN _ _ _ _ _ _) ?_ ?_<;>intro)
 |refine mI ?_
 |refine mB ?_
 |refine mS ?_
 |refine lT ?_
 |refine aD ?_
 |refine lE (d:=.agg [_,_,_]) hx ?_
 |refine lE (d:=.agg [_,_,_]) hy ?_
 |refine Hd ?_)
 |refine He ?_
 |refine Ir ?_
 |refine ay ?_
 |refine Hg ?_
 |refine aj rfl ?_
 |refine ah rfl ?_
 |refine Hf ?_
 |refine an ?_
 |refine au rfl ?_)
  ·rename_i hq
   refine ih (i+1) (by omega) (by omega) ?_ _ rfl rfl rfl rfl Q hQ hQ2
   rw[decide_eq_true_eq,Hp.ext']at hq
   rw[List.take_add_one,List.take_add_one,he,hx,hy,hq]
  ·rename_i hq
   refine hQ2 (fun hab=>?_) _ rfl
   rw[decide_eq_false_iff_not,Hp.ext']at hq
   subst hab
   rw[hx]at hy
   exact hq (by cases hy;rfl)
theorem GD (a b:List Hp) (hl:a.length≤1073741824) (t t':Tok) (sa sb:Nat) (ha:sa=3∨a=[]) (hb:sb=3∨b=[]):EvP Γ 22 [.slice t sa (a.map Hp.e),.slice t' sb (b.map Hp.e)] (.bool (decide (a=b))):=by
 refine aJ rfl rfl ?_
 by_cases hab:a.length=b.length
 ·have hab':(a.length:Int)=b.length:=by omega
  repeat' (first
 |(refine al ?_;first
 |refine lN ?_
 |refine mI ?_
 |refine mB ?_
 |refine mS ?_
 |refine ca rfl rfl rfl rfl (by omega) ?_
 |refine Hd ?_)
 |refine He ?_
 |refine Ir ?_
 |refine Hg ?_
 |refine ah rfl ?_
 |refine Hf ?_)
  refine F5 a b hl hab t t' sa sb ha hb a.length 0 (by omega) (by omega) rfl _ ?_ ?_ ?_ ?_ _ (fun h ρ=>?_) (fun h ρ h4=>?_)
  ·rfl
  ·rfl
  ·rfl
  ·rfl
  ·rw[decide_eq_true h]
   repeat' (first
 |(refine al ?_;first
 |refine mB ?_
 |refine Hd ?_)
 |refine He ?_
 |refine Ir ?_
 |refine an ?_)
   exact aK (.inr rfl) rfl rfl
  ·rw[decide_eq_false h,←aa h4]
   exact aK (.inr rfl) rfl rfl
 ·have hab':(a.length:Int)≠b.length:=by omega
  rw[decide_eq_false (fun h=>hab (by rw[h]))]
  repeat' (first
 |(refine al ?_;first
 |refine lN ?_
 |refine mB ?_
 |refine mS ?_
 |refine cu rfl rfl rfl rfl (by omega) ?_
 |refine Hd ?_)
 |refine He ?_
 |refine Ir ?_
 |refine aj rfl ?_
 |refine an ?_)
  exact aK (.inr rfl) rfl rfl
theorem uI (a b:List Hp) (x y:Int) (hl:a.length≤1073741824) (t t':Tok) (sa sb:Nat) (ha:sa=3∨a=[]) (hb:sb=3∨b=[]):EvP Γ 12 [.agg [.slice t sa (a.map Hp.e),.int .i64 x],.agg [.slice t' sb (b.map Hp.e),.int .i64 y]] (.bool (decide (x=y∧a=b))):=by
 have h:=fun t t'=>GD a b hl t t' sa sb ha hb
 refine aJ rfl rfl ?_
 by_cases hxy:x=y
 ·rw[show decide (x=y∧a=b)=decide (a=b)by simp[hxy]]
  repeat' (first
 |(refine al ?_;first
 |refine cb rfl rfl rfl rfl hxy ?_
 |refine mB ?_
 |refine lO (d:=.int _ _) ?_
 |refine lO (d:=.slice _ _ _) ?_
 |refine cA rfl (h _ _) ?_
 |refine pB ?_
 |refine cm rfl rfl rfl rfl rfl ?_
 |refine fD ?_
 |refine Hd ?_)
 |refine He ?_
 |refine Ir ?_
 |refine an ?_)
  exact aK (.inr rfl) rfl rfl
 ·rw[decide_eq_false (fun h=>hxy h.1)]
  repeat' (first
 |(refine al ?_;first
 |refine b7 rfl rfl rfl rfl hxy ?_
 |refine mB ?_
 |refine ak rfl ?_
 |refine lO (d:=.int _ _) ?_
 |refine ak rfl ?_
 |refine pB ?_
 |refine cm rfl rfl rfl rfl rfl ?_
 |refine fD ?_
 |refine ak rfl ?_
 |refine Hd ?_)
 |refine He ?_
 |refine Ir ?_
 |refine an ?_)
  exact aK (.inr rfl) rfl rfl
/-! ### Which one is better -/
theorem lZ:∀(p a b:List Int),ce (p++a) (p++b)=ce a b
 |[],a,b=>rfl
 |x::p,a,b=>by rw[List.cons_append,List.cons_append,ce,if_neg (Int.lt_irrefl _),if_neg (Int.lt_irrefl _),lZ p]
theorem Gz (a b:List Int) (hla:a.length≤1073741824) (hlb:b.length≤1073741824) (t t':Tok) (sa sb:Nat) (ha:sa=1∨a=[]) (hb:sb=1∨b=[]):∀(post pre rest:List Int),a=pre++post→b=pre++rest→∀(ρ:Nat→D) (st:Store),
  ρ 0=.slice t sa (a.map (D.int .i64))→ρ 1=.slice t' sb (b.map (D.int .i64))→ρ 9=.slice t sa (a.map (D.int .i64))→ρ 10=.int .i64 a.length→ρ 11=.int .i64 pre.length→∀(Q:X→(Nat→D)→Store→Prop),
  (ce a b=(if a.length<b.length then -1 else 0)→∀ρ',ρ' 0=.slice t sa (a.map (D.int .i64))→ρ' 1=.slice t' sb (b.map (D.int .i64))→Q (.exit 0) ρ' st)→(∀ρ',ρ' 4=.int .i64 (ce a b)→Q .ret ρ' st)→WC Γ (.loop dn) ρ st Q:=by
 intro post
 induction post with
 |nil=>
  intro pre rest hpp hpr ρ st h0 h1 h9 h10 h11 Q hQ hQ2
  have hL:ce a b=(if a.length<b.length then -1 else 0):=by
   rw[hpp,hpr,lZ]
   cases rest with
   |nil=>simp[ce]
   |cons y r=>simp[ce]
  rw[List.append_nil]at hpp
  subst hpp
  rw[←aa h0,←aa h1,←aa h9,←aa h10,←aa h11]
  refine Hh ?_
  repeat' (first
 |(refine al ?_;first
 |refine lF ?_
 |refine Hd ?_)
 |refine He ?_
 |refine Ir ?_
 |refine ah rfl ?_
 |refine Hi ?_)
  exact hQ hL _ rfl rfl
 |cons x post ih=>
  intro pre rest hpp hpr ρ st h0 h1 h9 h10 h11 Q hQ hQ2
  have hv:=pZ hpp
  have hlen:a.length=pre.length+(post.length+1):=by rw[hpp];simp
  have hz:sa=1:=ha.resolve_right (by rintro rfl;simp at hlen)
  subst hz
  have hpl:pre.length<(a.map (D.int .i64)).length:=by simp;omega
  have hltl:(pre.length:Int)<a.length:=by omega
  cases rest with
  |nil=>
   have hbl:(b.length:Int)≤pre.length:=by rw[hpr];simp
   have hL:ce a b=1:=by rw[hpp,hpr,lZ];rfl
   rw[hL]at hQ2
   clear ih hQ hpp
   rw[←aa h0,←aa h1,←aa h9,←aa h10,←aa h11]
   refine Hh ?_
   repeat' (first
 |(refine al ?_;first
 |refine lN ?_
 |refine iA (pre.length) hpl ?_
 |refine mI ?_
 |refine mS ?_
 |refine lT ?_
 |refine AE rfl rfl rfl rfl (by omega) ?_
 |refine lE (d:=.int _ _) hv ?_
 |refine Hd ?_)
 |refine He ?_
 |refine Ir ?_
 |refine Hg ?_
 |refine aj rfl ?_
 |refine Hf ?_
 |refine an ?_)
   exact hQ2 _ rfl
  |cons y rest=>
   have hv2:=pZ hpr
   have hlen2:b.length=pre.length+(rest.length+1):=by rw[hpr];simp
   have hz:sb=1:=hb.resolve_right (by rintro rfl;simp at hlen2)
   subst hz
   have hpl2:pre.length<(b.map (D.int .i64)).length:=by simp;omega
   have hltl2:(pre.length:Int)<b.length:=by omega
   have hC:=mj x y
   by_cases hxy:x=y
   ·subst hxy
    have hc:ke x x=0:=by unfold ke;rw[if_neg (by omega),if_neg (by omega)]
    rw[hc]at hC
    have hnext:∀(ρ':Nat→D),ρ' 0=.slice t 1 (a.map (D.int .i64))→ρ' 1=.slice t' 1 (b.map (D.int .i64))→ρ' 9=.slice t 1 (a.map (D.int .i64))→ρ' 10=.int .i64 a.length→ρ' 11=.int .i64 ((pre.length:Int)+1)→WC Γ (.loop dn) ρ' st Q:=fun ρ' k0 k1 k9 k10 k11=>
     ih (pre++[x]) rest (by simp[hpp]) (by simp[hpr]) ρ' st k0 k1 k9 k10 (by rw[List.length_append];exact k11) Q hQ hQ2
    clear ih hQ hQ2 hpp hpr
    rw[←aa h0,←aa h1,←aa h9,←aa h10,←aa h11]
    refine Hh ?_
    repeat' (first
 |(refine al ?_;first
 |refine lN ?_
 |refine iA (pre.length) hpl ?_
 |refine iA (pre.length) hpl2 ?_
 |refine mI ?_
 |refine mS ?_
 |refine lT ?_
 |refine xB rfl rfl rfl rfl (by omega) ?_
 |refine ca rfl rfl rfl rfl (by omega) ?_
 |refine aD ?_
 |refine lE (d:=.int _ _) hv ?_
 |refine lE (d:=.int _ _) hv2 ?_
 |refine cA rfl hC ?_
 |refine Hd ?_)
 |refine He ?_
 |refine Ir ?_
 |refine Hg ?_
 |refine aj rfl ?_
 |refine ah rfl ?_
 |refine Hf ?_)
    refine hnext _ ?_ ?_ ?_ ?_ ?_<;>rfl
   ·have hL:ce a b=ke x y:=by
     rw[hpp,hpr,lZ,ce]
     unfold ke
     by_cases h:x<y
     ·rw[if_pos h,if_pos h]
     ·rw[if_neg h,if_neg h,if_pos (by omega),if_pos (by omega)]
    have hne:¬ke x y=0:=by
     unfold ke
     by_cases h:x<y
     ·rw[if_pos h];omega
     ·rw[if_neg h,if_pos (by omega)];omega
    rw[hL]at hQ2
    generalize ke x y=c at*
    clear ih hQ hpp hpr
    rw[←aa h0,←aa h1,←aa h9,←aa h10,←aa h11]
    refine Hh ?_
    repeat' (first
 |(refine al ?_;first
 |refine lN ?_
 |refine iA (pre.length) hpl ?_
 |refine iA (pre.length) hpl2 ?_
 |refine cu rfl rfl rfl rfl hne ?_
 |refine mI ?_
 |refine mS ?_
 |refine lT ?_
 |refine xB rfl rfl rfl rfl (by omega) ?_
 |refine lE (d:=.int _ _) hv ?_
 |refine lE (d:=.int _ _) hv2 ?_
 |refine cA rfl hC ?_
 |refine Hd ?_)
 |refine He ?_
 |refine Ir ?_
 |refine Hg ?_
 |refine aj rfl ?_
 |refine ah rfl ?_
 |refine Hf ?_
 |refine an ?_)
    exact hQ2 _ rfl
theorem Gw (a b:List Int) (hla:a.length≤1073741824) (hlb:b.length≤1073741824) (t t':Tok) (sa sb:Nat) (ha:sa=1∨a=[]) (hb:sb=1∨b=[]):EvP Γ 25 [.slice t sa (a.map (D.int .i64)),.slice t' sb (b.map (D.int .i64))] (.int .i64 (ce a b)):=by
 refine aJ rfl rfl ?_
 repeat' (first
 |(refine al ?_;first
 |refine lN ?_
 |refine mI ?_
 |refine mS ?_
 |refine Hd ?_)
 |refine He ?_
 |refine Ir ?_
 |refine Hf ?_)
 refine Gz a b hla hlb t t' sa sb ha hb a [] b rfl rfl _ _ ?_ ?_ ?_ ?_ ?_ _ (fun hL ρ' h0 h1=>?_) (fun ρ' h4=>?_)
 all_goals first|rfl|skip
 ·rw[←aa h0,←aa h1,hL]
  by_cases h:a.length<b.length
  ·rw[if_pos h]
   have h':(a.length:Int)<b.length:=by omega
   repeat' (first
 |(refine al ?_;first
 |refine lN ?_
 |refine mI ?_
 |refine mS ?_
 |refine lT ?_
 |refine Hd ?_)
 |refine He ?_
 |refine Ir ?_
 |refine aj rfl ?_
 |refine an ?_)
   exact fJ (.inr rfl) rfl rfl
  ·rw[if_neg h]
   have h':(b.length:Int)≤a.length:=by omega
   repeat' (first
 |(refine al ?_;first
 |refine lN ?_
 |refine mI ?_
 |refine mS ?_
 |refine lF ?_
 |refine Hd ?_)
 |refine He ?_
 |refine Ir ?_
 |refine Hg ?_
 |refine ah rfl ?_
 |refine an ?_)
   exact fJ (.inr rfl) rfl rfl
 ·rw[←aa h4]
  exact fJ (.inr rfl) rfl rfl
def db (h:List Hp) (a:Int) (h':List Hp) (a':Int):Int:=tJ [tJ [ke a a',ke h.length h'.length],ce (h.map Hp.id) (h'.map Hp.id)]
set_option maxHeartbeats 2000000 in
theorem gl (h:List Hp) (a:Int) (h':List Hp) (a':Int) (hl:h.length≤1000000) (hl':h'.length≤1000000) (t t':Tok) (s s':Nat) (hs:s=3∨h=[]) (hs':s'=3∨h'=[]):EvP Γ 13 [.agg [.slice t s (h.map Hp.e),.int .i64 a],.agg [.slice t' s' (h'.map Hp.e),.int .i64 a']] (.int .i64 (db h a h' a')):=by
 refine aJ rfl rfl ?_
 unfold db
 have h1:=mj a a'
 have h2:=mj h.length h'.length
 have h3:=fun t=>mY h hl a t s hs
 have h4:=fun t=>mY h' hl' a' t s' hs'
 have h5:=fun t t' s s' h1 h2=>Gw (h.map Hp.id) (h'.map Hp.id) (by simp;omega) (by simp;omega) t t' s s' h1 h2
 generalize ke a a'=c1 at*
 generalize ke h.length h'.length=c2 at*
 generalize ce (h.map Hp.id) (h'.map Hp.id)=c3 at*
 have h6:=fun t=>Cm t c1 c2
 generalize tJ [c1,c2]=c4 at*
 have h7:=fun t=>Cm t c4 c3
 generalize tJ [c4,c3]=c5 at*
 repeat' (first
 |(refine al ?_;first
 |refine lN ?_
 |refine mI ?_
 |refine lO (d:=.int _ _) ?_
 |refine lO (d:=.slice _ _ _) ?_
 |refine lO (d:=.agg [_,_]) ?_
 |refine cA rfl h1 ?_
 |refine cA rfl h2 ?_
 |refine cA rfl (h6 _) ?_
 |refine cA rfl (h7 _) ?_
 |(refine cD rfl rfl rfl (h3 _) rfl ?_;intro ta sa hsa hta)
 |(refine cD rfl rfl rfl (h4 _) rfl ?_;intro tb sb hsb htb)
 |refine cA rfl (h5 _ _ _ _ hsa hsb) ?_
 |refine cm rfl rfl rfl rfl rfl ?_
 |refine fD ?_
 |refine bg (ys:=[_,_]) rfl rfl rfl (by decide) rfl ?_
 |refine Hd ?_)
 |refine au (aE rfl) ?_
 |refine He ?_
 |refine Ir ?_
 |refine ay ?_
 |refine an ?_)
 exact fJ (.inr rfl) rfl rfl
end Go.Bes
/-
  The nodes that are passed.
-/
namespace Go.Bes
open Go.Ev
theorem FB (m:List Eg) (hml:m.length≤1073741824) (t:Tok) (s:Nat) (hs:s=8∨m=[]):∀(post pre:List Eg),m=pre++post→∀(ρ:Nat→D) (st:Store) (out:List Int) (tk:Tok) (so:Nat),out.length≤pre.length+1→st.lim≤st.next→st.tlim≤st.ntok→ft st 1 tk so (out.map (D.int .i64))→
  ρ 10=.slice tk so (out.map (D.int .i64))→ρ 29=.slice t s (m.map Eg.e)→ρ 30=.int .i64 m.length→ρ 31=.int .i64 pre.length→∀(Q:X→(Nat→D)→Store→Prop),
  (∀ρ' st' tk' so',ft st' 1 tk' so' ((out++post.map Eg.to).map (D.int .i64))→ρ' 10=.slice tk' so' ((out++post.map Eg.to).map (D.int .i64))→Q (.exit 0) ρ' st')→WC Γ (.loop jd) ρ st Q:=by
 intro post
 induction post with
 |nil=>
  intro pre hpp ρ st out tk so hol hlim htl hO h10 h29 h30 h31 Q hQ
  rw[List.append_nil]at hpp
  subst hpp
  rw[←aa h10,←aa h29,←aa h30,←aa h31]
  refine Hh ?_
  repeat' (first
 |(refine al ?_;first
 |refine lF ?_
 |refine Hd ?_)
 |refine He ?_
 |refine Ir ?_
 |refine ah rfl ?_
 |refine Hi ?_)
  exact hQ _ _ tk so (by simpa using hO) (by rw[List.map_nil,List.append_nil];rfl)
 |cons e post ih=>
  intro pre hpp ρ st out tk so hol hlim htl hO h10 h29 h30 h31 Q hQ
  have hv:=lU hpp
  have hlen:m.length=pre.length+(post.length+1):=by rw[hpp];simp
  have hz:s=8:=hs.resolve_right (by rintro rfl;simp at hlen)
  subst hz
  have hpl:pre.length<(m.map Eg.e).length:=by simp;omega
  have hltl:(pre.length:Int)<m.length:=by omega
  have hbd:((out.map (D.int .i64)).length+[D.int .i64 e.to].length)*8≤140737488355328:=by simp;omega
  have hnext:∀(ρ':Nat→D) (st':Store) (tk':Tok) (so':Nat),st'.lim≤st'.next→st'.tlim≤st'.ntok→ft st' 1 tk' so' ((out++[e.to]).map (D.int .i64))→ρ' 10=.slice tk' so' ((out++[e.to]).map (D.int .i64))→ρ' 29=.slice t 8 (m.map Eg.e)→ρ' 30=.int .i64 m.length→ρ' 31=.int .i64 ((pre.length:Int)+1)→WC Γ (.loop jd) ρ' st' Q:=fun ρ' st' tk' so' e1 e2 e3 k10 k29 k30 k31=>
   ih (pre++[e]) (by simp[hpp]) ρ' st' _ tk' so' (by simp;omega) e1 e2 e3 k10 k29 k30 (by rw[List.length_append];exact k31) Q
    (fun ρ'' st'' tk'' so'' f1 f2=>hQ ρ'' st'' tk'' so'' (by simpa using f1) (by rw[f2];simp))
  clear ih hQ
  rw[←aa h10,←aa h29,←aa h30,←aa h31]
  refine Hh ?_
  repeat' (first
 |(refine al ?_;first
 |refine iA (pre.length) hpl ?_
 |refine am (cs':=[_,_,_,_,_,_,_,_]) rfl rfl (ae _ _ _) rfl hlim rfl rfl rfl ?_
 |(refine oZ rfl rfl rfl hO (.inl rfl) hbd htl rfl ?_<;>intro k' st' c1 c2 c3 c4 c5 c6 c7)
 |refine mI ?_
 |refine mS ?_
 |refine lT ?_
 |refine aD ?_
 |refine lE (d:=.agg [_,_,_,_,_,_,_,_]) hv ?_
 |refine lP (d:=.int _ _) ?_
 |refine fD ?_
 |refine av rfl rfl ?_
 |refine bg (ys:=[_]) rfl rfl rfl (by decide) rfl ?_
 |refine Hd ?_)
 |refine He ?_
 |refine Ir ?_
 |refine Hg ?_
 |refine aj rfl ?_
 |refine Hf ?_)
  refine hnext _ _ (.own k') 1 ?_ c5 (.inr ⟨k',rfl,c6,c7,rfl⟩) ?_ ?_ ?_ ?_
  ·rw[c3,c2];exact Nat.le_succ_of_le hlim
  all_goals first|rfl|(rw[List.map_append];rfl)
theorem pr (l:List Eg) (hll:l.length≤1073741824) (ids:List Int) (hil:ids.length≤1073741824) (fr:Int) (ha:bV l fr 0 0) (m:List Eg) (hm:bG l ids fr=some m) (t:Tok) (s:Nat) (hs:s=8∨l=[]) (t':Tok) (s':Nat) (hs':s'=1∨ids=[]):
  EvX Γ 21 [.slice t s (l.map Eg.e),.slice t' s' (ids.map (D.int .i64)),.int .i64 fr] (Go.Ev.IsT (D.int .i64) 1 (fr::m.map Eg.to) [.bool true]):=by
 refine bR rfl rfl ?_
 have hml:=ka l ids fr m hm
 have hS:=fun t t'=>oj l hll ids hil fr m hm t s hs t' s' hs'
 have hA:=fun t=>l9 l hll fr 0 0 t s hs
 rw[decide_eq_true ha]at hA
 repeat' (first
 |(refine al ?_;first
 |refine lN ?_
 |refine mI ?_
 |refine mB ?_
 |refine mS ?_
 |refine mT ?_
 |refine cA rfl (hA _) ?_
 |(refine iu rfl rfl rfl (hS _ _) rfl ?_;intro tm sm hsm tk2 nt2)
 |refine eB ?_
 |refine eS ?_
 |refine nT ?_
 |refine bg (ys:=[_]) rfl rfl rfl (by decide) rfl ?_
 |refine Hd ?_)
 |refine He ?_
 |refine Ir ?_
 |refine Hg ?_
 |refine ah rfl ?_
 |refine Hf ?_)
 refine FB m (by omega) tm sm hsm m [] rfl _ {Store.empty with toks:=tk2,ntok:=nt2} [fr] .exact 1 (by simp) (Nat.le_refl _) (Nat.zero_le _) (.inl ⟨.inr rfl,.inl rfl⟩) ?_ ?_ ?_ ?_ _ (fun ρ' st' tk so hO h10=>?_)
 all_goals first|rfl|skip
 rw[←aa h10]
 repeat' (first
 |(refine al ?_;first
 |refine mB ?_
 |refine mS ?_
 |refine Hd ?_)
 |refine He ?_
 |refine Ir ?_
 |refine an ?_)
 have hso:so=1∨(fr::m.map Eg.to)=[]:=by
  rcases hO with⟨_,h|⟨_,h⟩⟩|⟨_,_,_,_,h⟩
  ·exact .inl h
  ·simp at h
  ·exact .inl h
 exact xf (us:=[.bool true]) (.inr rfl) rfl rfl hso rfl rfl
theorem CX (l:List Eg) (hll:l.length≤1073741824) (ids:List Int) (hil:ids.length≤1073741824) (fr:Int) (h:¬bV l fr 0 0∨bG l ids fr=none) (t:Tok) (s:Nat) (hs:s=8∨l=[]) (t':Tok) (s':Nat) (hs':s'=1∨ids=[]):
  EvP Γ 21 [.slice t s (l.map Eg.e),.slice t' s' (ids.map (D.int .i64)),.int .i64 fr] (.tuple [.slice .isnil 0 [],.bool false]):=by
 refine aJ rfl rfl ?_
 have hA:=fun t=>l9 l hll fr 0 0 t s hs
 by_cases ha:bV l fr 0 0
 ·have hm:=h.resolve_left (fun h=>h ha)
  have hS:=fun t t'=>vA l hll ids hil fr hm t s hs t' s' hs'
  rw[decide_eq_true ha]at hA
  repeat' (first
 |(refine al ?_;first
 |refine mI ?_
 |refine mB ?_
 |refine mS ?_
 |refine mT ?_
 |refine cA rfl (hA _) ?_
 |refine cA rfl (hS _ _) ?_
 |refine eB ?_
 |refine eS ?_
 |refine nT ?_
 |refine Hd ?_)
 |refine He ?_
 |refine Ir ?_
 |refine Hg ?_
 |refine aj rfl ?_
 |refine ah rfl ?_
 |refine an ?_)
  exact⟨.inr rfl,rfl⟩
 ·rw[decide_eq_false ha]at hA
  repeat' (first
 |(refine al ?_;first
 |refine mI ?_
 |refine mB ?_
 |refine mS ?_
 |refine cA rfl (hA _) ?_
 |refine nT ?_
 |refine Hd ?_)
 |refine He ?_
 |refine Ir ?_
 |refine aj rfl ?_
 |refine an ?_)
  exact⟨.inr rfl,rfl⟩
theorem zS {id:Int}:∀{l:List Eg} {e:Eg},oo id l=some e→e∈l:=fun{l}=>by
 have key:∀(l:List Eg) (o:Option Eg) (e:Eg),l.foldl (fun o x=>if id=x.id then some x else o) o=some e→e∈l∨o=some e:=by
  intro l
  induction l with
  |nil=>intro o e h;exact .inr h
  |cons x l ih=>
   intro o e h
   rw[List.foldl_cons]at h
   rcases ih _ e h with h|h
   ·exact .inl (List.mem_cons_of_mem _ h)
   ·split at h
    ·cases h;exact .inl List.mem_cons_self
    ·exact .inr h
 intro e h
 rcases key l none e h with h|h
 ·exact h
 ·cases h
end Go.Bes
/-
  The best route is the best one.
-/
namespace Go.Bes
variable {l:List Eg} {fr to now by' sz:Int} {shut:List Int}
theorem sV {n t:Int} (h:Reach (kA sz) (mZ shut) l fr now n t):∃es,Way sz l fr now es n t∧∀e∈es,e.to∉shut:=by
 induction h with
 |here=>exact⟨[],.nil,by simp⟩
 |go hr he hf hp hc ih=>
  obtain⟨es,h1,h2⟩:=ih
  obtain⟨h3,rfl⟩:=fS.1 hp
  refine⟨es++[_],h1.trans (.cons he hf h3 .nil),fun e h=>?_⟩
  rcases List.mem_append.1 h with h|h
  ·exact h2 e h
  ·rw[List.mem_singleton.1 h]
   simpa[mZ]using hc
theorem Du {n t m u:Int} {es:List Eg} (h:Way sz l n t es m u):∃es' u',Way sz l n t es' m u'∧u'≤u∧(∀e∈es',e∈es)∧∀e∈es',e.fr≠m:=by
 induction h with
 |nil=>exact⟨[],_,.nil,Int.le_refl _,by simp,by simp⟩
 |cons he hf hp h ih=>
  rename_i n t m u e es
  by_cases hn:n=m
  ·subst hn
   exact⟨[],t,.nil,(Way.cons he hf hp h).ge,by simp,by simp⟩
  ·obtain⟨es',u',h1,h2,h3,h4⟩:=ih
   refine⟨e::es',u',.cons he hf hp h1,h2,fun e' h=>?_,fun e' h=>?_⟩
   ·rcases List.mem_cons.1 h with rfl|h
    ·exact List.mem_cons_self
    ·exact List.mem_cons_of_mem _ (h3 e' h)
   ·rcases List.mem_cons.1 h with rfl|h
    ·rw[hf];exact hn
    ·exact h4 e' h
theorem ua {n t m u:Int} {es:List Eg} (h:Way sz l n t es m u):m∈aL n es:=by
 induction h with
 |nil=>simp[aL]
 |cons he hf hp h ih=>
  rename_i n t m u e es
  exact List.mem_cons_of_mem _ ih
theorem A9 {n t m u:Int} {es:List Eg} (h:Way sz l n t es m u) (hn:(aL n es).Nodup):∀e∈es,e.fr≠m:=by
 induction h with
 |nil=>simp
 |cons he hf hp h ih=>
  rename_i n t m u e es
  have hn':=List.nodup_cons.1 hn
  intro e' he'
  rcases List.mem_cons.1 he' with rfl|he'
  ·rw[hf]
   rintro rfl
   exact hn'.1 (ua h)
  ·exact ih hn'.2 e' he'
structure BestR (l:List Eg) (fr to now sz by':Int) (shut:List Int) (es:List Eg) (a:Int):Prop where
 at_:cK to (ee l fr now sz shut)=some a
 le:a≤by'
 way:Way sz l fr now es to a
 nd:(aL fr es).Nodup
 op:∀e∈es,e.to∉shut
 few:rq l fr to now a sz shut=some es.length
 best:∀es' u',Way sz l fr now es' to u'→(aL fr es').Nodup→(∀e∈es',e.to∉shut)→a<u'∨(a=u'∧(es.length<es'.length∨(es.length=es'.length∧(es=es'∨ce (es.map Eg.id) (es'.map Eg.id)= -1))))
theorem vM {n:Nat} (h:pK to sz shut l fr now (l.length+1) 0 [⟨to,by'⟩]=some n):uw l to by' sz shut n fr now:=by
 obtain⟨_,h2,h3,h4⟩:=pU _ _ _ h
 exact⟨h3,h4⟩
theorem tQ {a:Int} (h:cK to (ee l fr now sz shut)=some a):bV l fr now sz∧bV l to a sz:=by
 have ha:=An (fE h)
 have hr:=(ky ha shut).t1 _ (fE h)
 have h0:now≤a:=ws hr
 exact⟨ha,kE ha.1 hr,ha.2.1,⟨by have:=ha.2.2.1.1;omega,s7 ha.2.2.1.2 hr⟩,ha.2.2.2⟩
theorem ml {es:List Eg} {a:Int} (h:fq l fr to now sz by' shut=some (es,a)):BestR l fr to now sz by' shut es a:=by
 unfold fq at h
 split at h
 ·cases h
 ·rename_i a' h1
  split at h
  ·cases h
  ·rename_i hle
   split at h
   ·cases h
   ·rename_i n hn
    obtain⟨ha,hb⟩:=tQ h1
    have hn':=hn
    unfold rq at hn'
    rw[if_pos ⟨ha,hb⟩]at hn'
    have hw:=vM hn'
    obtain⟨es',g1,g2,g3⟩:=y6 hb n ha.2.2.1.1 hw
    rw[g1]at h
    cases h
    obtain⟨u,hway,hu⟩:=g2.way
    have hT:=ky ha shut
    have hr:=hT.t1 _ (fE h1)
    have hop:∀e∈es,e.to∉shut:=fun e he=>by
     rcases g2.op e he with h2|h2
     ·rw[h2]
      rcases B8 hr with h3|h3
      · -- to is where it begins: there is no hop
        exfalso
        have h3:to=fr:=h3
        have hnd:=A9 hway g2.nd
        cases hway with
        |nil=>cases he
        |cons _ hf _ _=>exact hnd _ List.mem_cons_self (by rw[hf,h3])
      ·simpa[mZ]using h3
     ·exact h2
    have hau:a=u:=by
     obtain⟨v,h2,h3⟩:=hT.at_ (hway.reach hop .here)
     rw[h1]at h2
     cases h2
     omega
    refine⟨h1,by omega,by subst hau;exact hway,g2.nd,hop,by rw[g2.len];exact hn,fun es' u' hw' hnd' hop'=>?_⟩
    have hau':a≤u':=by
     obtain⟨v,h2,h3⟩:=hT.at_ (hw'.reach hop' .here)
     rw[h1]at h2
     cases h2
     exact h3
    rcases Int.lt_or_eq_of_le hau' with h2|h2
    ·exact .inl h2
    ·refine .inr ⟨h2,?_⟩
     subst h2
     have hnd2:=A9 hw' hnd'
     have hl:=hw'.late rfl (Int.le_refl _) hb.2.2.1.2 hnd2 (fun e h=>.inr (hop' e h))
     have hnl:n≤es'.length:=by
      rcases Nat.lt_or_ge es'.length n with h3|h3
      ·rw[hw.2 _ h3]at hl;cases hl
      ·exact h3
     rw[g2.len]
     rcases Nat.lt_or_eq_of_le hnl with h3|h3
     ·exact .inl h3
     ·exact .inr ⟨h3,g2.best ha.2.2.2 es' a hw' (Int.le_refl _) h3.symm hnd2 (fun e h=>.inr (hop' e h))⟩
theorem ui (ha:bV l fr now sz) {es':List Eg} {u':Int} (hw:Way sz l fr now es' to u') (hop:∀e∈es',e.to∉shut) (hu:u'≤by'):∃es a,fq l fr to now sz by' shut=some (es,a):=by
 have hT:=ky ha shut
 obtain⟨a,h1,h2⟩:=hT.at_ (hw.reach hop .here)
 obtain⟨_,hb⟩:=tQ h1
 unfold fq
 rw[h1]
 simp only
 rw[if_neg (by omega)]
 obtain⟨es1,h3,h4⟩:=sV (hT.t1 _ (fE h1))
 obtain⟨es2,u2,h5,h6,h7,h8⟩:=Du h3
 have hl:=h5.late rfl h6 hb.2.2.1.2 h8 (fun e h=>.inr (h4 e (h7 e h)))
 have hfull:=oU (to:=to) (sz:=sz) (shut:=shut) (l:=l) hb.2.2.1.2 es2.length
 obtain⟨c,c1,c2⟩:=dA.1 hl
 obtain⟨d,d1,d2⟩:=hfull _ _ c1
 cases hf:rq l fr to now a sz shut with
 |none=>
  exfalso
  unfold rq at hf
  rw[if_pos ⟨ha,hb⟩]at hf
  have:=wx _ _ _ hf l.length (by omega)
  rw[dA.2 ⟨d,d1,by have:now≤c:=c2;omega⟩]at this
  cases this
 |some n=>
  have hn:=hf
  unfold rq at hn
  rw[if_pos ⟨ha,hb⟩]at hn
  obtain⟨es,g1,_⟩:=y6 hb n ha.2.2.1.1 (vM hn)
  exact⟨es,a,by simp only[g1];rfl⟩
theorem Bi:(fq l fr to now sz by' shut).isSome=(match cK to (ee l fr now sz shut)with|some a=>decide (a≤by')|none=>false):=by
 cases h:cK to (ee l fr now sz shut)with
 |none=>unfold fq;rw[h];rfl
 |some a=>
  obtain⟨ha,hb⟩:=tQ h
  by_cases hle:a≤by'
  ·obtain⟨es,h1,h2⟩:=sV ((ky ha shut).t1 _ (fE h))
   obtain⟨es',a',h3⟩:=ui ha h1 h2 hle
   rw[h3]
   simp[hle]
  ·unfold fq
   rw[h]
   simp[hle]
end Go.Bes
/-
  A route by IDs.
-/
namespace Go.Bes
open Go.Ev
/-! ### Plain -/
def aN (sz:Int):List Eg→Int→List Hp
 |[],_=>[]
 |e::r,t=>ud e t sz::aN sz r (aX e t sz)
def gf (now:Int) (h:List Hp):Int:=h.foldl (fun _ x=>x.ar) now
theorem cr (sz:Int):∀(es:List Eg) (t:Int),(aN sz es t).length=es.length
 |[],_=>rfl
 |e::r,t=>by simp[aN,cr sz r]
theorem iR (sz:Int):∀(es:List Eg) (t:Int),(aN sz es t).map Hp.id=es.map Eg.id
 |[],_=>rfl
 |e::r,t=>by simp[aN,iR sz r,ud]
theorem BP {id:Int}:∀{l:List Eg} {e:Eg},oo id l=some e→id=e.id:=fun{l}=>by
 have key:∀(l:List Eg) (o:Option Eg) (e:Eg),(∀x,o=some x→id=x.id)→l.foldl (fun o x=>if id=x.id then some x else o) o=some e→id=e.id:=by
  intro l
  induction l with
  |nil=>intro o e ho h;exact ho e h
  |cons x l ih=>
   intro o e ho h
   rw[List.foldl_cons]at h
   refine ih _ e (fun y hy=>?_) h
   split at hy
   ·cases hy;assumption
   ·exact ho y hy
 exact fun{e} h=>key l none e (fun x h=>by cases h) h
theorem Cu {l:List Eg} (hl:RL l) {e:Eg} (he:e∈l):oo e.id l=some e:=by
 have key:∀(m:List Eg) (o:Option Eg),(∀x∈m,e.id=x.id→x=e)→(o=some e∨e∈m)→m.foldl (fun o x=>if e.id=x.id then some x else o) o=some e:=by
  intro m
  induction m with
  |nil=>intro o hu ho;exact ho.resolve_right (by simp)
  |cons x m ih=>
   intro o hu ho
   rw[List.foldl_cons]
   refine ih _ (fun y hy=>hu y (List.mem_cons_of_mem _ hy)) ?_
   by_cases hx:e.id=x.id
   ·rw[if_pos hx,hu x List.mem_cons_self hx];exact .inl rfl
   ·rw[if_neg hx]
    rcases ho with h|h
    ·exact .inl h
    ·rcases List.mem_cons.1 h with rfl|h
     ·exact absurd rfl hx
     ·exact .inr h
 exact key l none (fun x hx h=>(EX hl hx he h.symm)) (.inr he)
def tc (l:List Eg):Int→List Eg→Int→Prop
 |n,[],m=>n=m
 |n,e::es,m=>e∈l∧e.fr=n∧tc l e.to es m
theorem Iq {l:List Eg}:∀{ids:List Int} {n:Int} {es:List Eg},bG l ids n=some es→es.map Eg.id=ids∧∃m,tc l n es m
 |[],n,es,h=>by cases h;exact⟨rfl,n,rfl⟩
 |id::ids,n,es,h=>by
  simp only[bG]at h
  split at h
  ·rename_i e hl
   split at h
   ·rename_i hf
    obtain⟨es',h1,rfl⟩:=Option.map_eq_some_iff.mp h
    obtain⟨h2,m,h3⟩:=Iq h1
    exact⟨by rw[List.map_cons,h2,←BP hl],m,zS hl,hf,h3⟩
   ·cases h
  ·cases h
theorem ep {l:List Eg} (hl:RL l):∀{es:List Eg} {n m:Int},tc l n es m→bG l (es.map Eg.id) n=some es
 |[],n,m,h=>rfl
 |e::es,n,m,h=>by
  obtain⟨h1,h2,h3⟩:=h
  rw[List.map_cons,bG,Cu hl h1]
  simp only
  rw[if_pos h2,ep hl h3];rfl
theorem Way.chain {sz:Int} {l:List Eg} {n t m u:Int} {es:List Eg} (h:Way sz l n t es m u):tc l n es m:=by
 induction h with
 |nil=>rfl
 |cons he hf hp h ih=>exact⟨he,hf,ih⟩
theorem Way.hops {sz:Int} {l:List Eg} {n t m u:Int} {es:List Eg} (h:Way sz l n t es m u):jo sz es t=some (aN sz es t)∧gf t (aN sz es t)=u:=by
 induction h with
 |nil=>exact⟨rfl,rfl⟩
 |cons he hf hp h ih=>
  rename_i n t m u e es
  refine⟨by simp only[jo,if_pos hp,ih.1,aN,Option.map_some],?_⟩
  simp only[aN,gf,List.foldl_cons]at ih ⊢
  exact ih.2
theorem p7 {sz:Int} {l:List Eg}:∀{es:List Eg} {n m t:Int} {h:List Hp},tc l n es m→jo sz es t=some h→∃u,Way sz l n t es m u∧h=aN sz es t
 |[],n,m,t,h,hc,hh=>by
  cases hh
  have hc:n=m:=hc
  subst hc
  exact⟨t,.nil,rfl⟩
 |e::es,n,m,t,h,hc,hh=>by
  simp only[jo]at hh
  split at hh
  ·rename_i hp
   obtain⟨h',h1,rfl⟩:=Option.map_eq_some_iff.mp hh
   obtain⟨c1,c2,c3⟩:=hc
   obtain⟨u,h2,h3⟩:=p7 c3 h1
   exact⟨u,.cons c1 c2 hp h2,by rw[h3];rfl⟩
  ·cases hh
theorem gv {l:List Eg}:∀{es:List Eg} {n m:Int},tc l n es m→(aL n es)[(aL n es).length - 1]?=some m
 |[],n,m,h=>by
  have h:n=m:=h
  subst h;rfl
 |e::es,n,m,h=>by
  have:=gv h.2.2
  simp[aL]at this ⊢
  exact this
structure IsRoute (l:List Eg) (fr to now sz:Int) (es:List Eg) (u:Int):Prop where
 ask:bV l fr now sz
 way:Way sz l fr now es to u
 nd:(aL fr es).Nodup
theorem kr {l:List Eg} {ids:List Int} {fr now sz:Int} {h:List Hp}:eF l ids fr now sz=some h↔bV l fr now sz∧∃es m u,bG l ids fr=some es∧es.map Eg.id=ids∧Way sz l fr now es m u∧h=aN sz es now:=by
 unfold eF
 by_cases ha:bV l fr now sz
 ·rw[if_pos ha]
  constructor
  ·intro hh
   obtain⟨es,h1,h2⟩:=Option.bind_eq_some_iff.mp hh
   obtain⟨h3,m,h4⟩:=Iq h1
   obtain⟨u,h5,h6⟩:=p7 h4 h2
   exact⟨ha,es,m,u,h1,h3,h5,h6⟩
  ·rintro⟨_,es,m,u,h1,h3,h5,rfl⟩
   rw[h1,Option.bind_some]
   exact h5.hops.1
 ·rw[if_neg ha]
  simp[ha]
def routeM (l:List Eg) (ids:List Int) (fr to now sz:Int):Option (List Eg):=
 if(1≤to∧to≤255)∧bV l fr now sz then match bG l ids fr with
  |some es=>if(jo sz es now).isSome∧(aL fr es)[(aL fr es).length - 1]?=some to∧(aL fr es).Nodup then some es else none
  |none=>none
 else none
theorem fh {l:List Eg} {ids:List Int} {fr to now sz:Int} {es:List Eg}:routeM l ids fr to now sz=some es↔es.map Eg.id=ids∧∃u,IsRoute l fr to now sz es u:=by
 unfold routeM
 constructor
 ·intro h
  split at h
  ·rename_i ha
   split at h
   ·rename_i es' hs
    split at h
    ·rename_i hc
     cases h
     obtain⟨h1,m,h2⟩:=Iq hs
     obtain⟨hh,h3⟩:=Option.isSome_iff_exists.1 hc.1
     obtain⟨u,h4,_⟩:=p7 h2 h3
     have h5:=gv h2
     rw[hc.2.1]at h5
     cases h5
     exact⟨h1,u,ha.2,h4,hc.2.2⟩
    ·cases h
   ·cases h
  ·cases h
 ·rintro⟨rfl,u,ha,hw,hn⟩
  have hto:1≤to∧to≤255:=kE ha.1 (hw.reach (shut:=[]) (by simp) .here)
  rw[if_pos ⟨hto,ha⟩,ep ha.2.2.2 hw.chain]
  simp only
  rw[if_pos ⟨by rw[hw.hops.1];rfl,gv hw.chain,hn⟩]
theorem IsRoute.last {l:List Eg} {fr to now sz:Int} {es:List Eg} {u:Int} (h:IsRoute l fr to now sz es u):gf now (aN sz es now)=u:=h.way.hops.2
theorem IsRoute.to_ok {l:List Eg} {fr to now sz:Int} {es:List Eg} {u:Int} (h:IsRoute l fr to now sz es u):1≤to∧to≤255:=kE h.ask.1 (h.way.reach (shut:=[]) (by simp) .here)
theorem uP {l:List Eg} {fr to now sz:Int} {es:List Eg} {u:Int} (h:IsRoute l fr to now sz es u):es.length≤l.length:=by
 have hn:es.Nodup:=by
  have h1:(es.map Eg.to).Nodup:=(List.nodup_cons.1 h.nd).2
  exact(List.pairwise_map.1 h1).imp fun{a b} hab e=>hab (by rw[e])
 exact yW hn h.way.mem
/-! ### The code -/
theorem KVC.set {kv:List (Int×D)} {pre:List Int} (h:KVC kv (mZ pre)) (x:Int):KVC (cJ x (.bool true) kv) (mZ (pre++[x])):=fun n=>by
 rw[iS]
 by_cases e:n=x
 ·rw[if_pos e];simp[mZ,e]
 ·rw[if_neg e,h n];simp[mZ,e]
theorem FX (ns:List Int) (hnl:ns.length≤1000000) (t:Tok) (s:Nat) (hs:s=1∨ns=[]) (p q0:Nat) (v4 v14:D):∀(post pre:List Int),ns=pre++post→pre.Nodup→∀(kv:List (Int×D)),KVC kv (mZ pre)→∀(ρ:Nat→D) (st:Store) (z:List D),st.lim≤0→p≠q0→st.boxes p=some (.map kv)→st.boxes q0=some (.cells z)→z.length=2→
  ρ 4=v4→ρ 12=.ptr q0 0→ρ 14=v14→ρ 18=.map p→ρ 58=.slice t s (ns.map (D.int .i64))→ρ 59=.int .i64 ns.length→ρ 60=.int .i64 pre.length→∀(Q:X→(Nat→D)→Store→Prop),
  (ns.Nodup→∀ρ' st',st'.lim=st.lim→st'.next=st.next→st'.tlim=st.tlim→st'.toks=st.toks→st'.ntok=st.ntok→st'.boxes q0=some (.cells z)→ρ' 4=v4→ρ' 12=.ptr q0 0→ρ' 14=v14→Q (.exit 0) ρ' st')→(¬ns.Nodup→∀ρ' st',st'.lim=st.lim→st'.boxes q0=some (.cells [.slice .isnil 0 [],.int .i64 0])→ρ' 12=.ptr q0 0→ρ' 13=.bool false→Q .ret ρ' st')→WC Γ (.loop gW) ρ st Q:=by
 intro post
 induction post with
 |nil=>
  intro pre hpp hpn kv hk ρ st z hlim hpq hb hb0 hz2 h4 h12 h14 h18 h58 h59 h60 Q hQ hQ2
  rw[List.append_nil]at hpp
  subst hpp
  rw[←aa h4,←aa h12,←aa h14,←aa h18,←aa h58,←aa h59,←aa h60]
  refine Hh ?_
  repeat' (first
 |(refine al ?_;first
 |refine lF ?_
 |refine Hd ?_)
 |refine He ?_
 |refine Ir ?_
 |refine ah rfl ?_
 |refine Hi ?_)
  exact hQ hpn _ _ rfl rfl rfl rfl rfl hb0 rfl rfl rfl
 |cons x post ih=>
  intro pre hpp hpn kv hk ρ st z hlim hpq hb hb0 hz2 h4 h12 h14 h18 h58 h59 h60 Q hQ hQ2
  have hv:=pZ hpp
  have hlen:ns.length=pre.length+(post.length+1):=by rw[hpp];simp
  have hz:s=1:=hs.resolve_right (by rintro rfl;simp at hlen)
  subst hz
  have hpl:pre.length<(ns.map (D.int .i64)).length:=by simp;omega
  have hltl:(pre.length:Int)<ns.length:=by omega
  have hl0:st.lim≤q0:=by omega
  have hlp:st.lim≤p:=by omega
  obtain⟨z0,z1,rfl⟩:∃a b,z=[a,b]:=by
   match z,hz2 with
   |[a,b],_=>exact⟨a,b,rfl⟩
  by_cases hx:x∈pre
  ·have hg:(aZ x kv).getD (.bool false)=.bool true:=by rw[hk x];simp[mZ,hx]
   have hbad:¬ns.Nodup:=fun h=>by
    rw[hpp]at h
    exact(List.nodup_append.1 h).2.2 x hx x List.mem_cons_self rfl
   have hQ2:=hQ2 hbad
   clear ih hQ hpp hbad
   rw[←aa h4,←aa h12,←aa h14,←aa h18,←aa h58,←aa h59,←aa h60]
   refine Hh ?_
   repeat' (first
 |(refine al ?_;first
 |refine iA (pre.length) hpl ?_
 |refine kc rfl rfl rfl hb hg rfl ?_
 |refine am (cs':=[_,_]) rfl rfl hb0 rfl hl0 rfl rfl rfl ?_
 |refine mI ?_
 |refine mB ?_
 |refine mM ?_
 |refine lT ?_
 |refine lE (d:=.int _ _) hv ?_
 |refine bJ (cs:=[_,_]) rfl rfl rfl ?_
 |refine Hd ?_)
 |refine He ?_
 |refine Ir ?_
 |refine Hg ?_
 |refine aj rfl ?_
 |refine Hf ?_
 |refine an ?_)
   refine hQ2 _ _ ?_ ?_ ?_ ?_
   ·rfl
   ·exact ae _ _ _
   all_goals rfl
  ·have hg:(aZ x kv).getD (.bool false)=.bool false:=by rw[hk x];simp[mZ,hx]
   have hpn2:(pre++[x]).Nodup:=by
    rw[List.nodup_append]
    exact⟨hpn,by simp,fun a ha b hb e=>hx (by rw[List.mem_singleton.1 hb]at e;rw[←e];exact ha)⟩
   have hnext:∀(ρ':Nat→D) (st':Store),st'.lim=st.lim→st'.next=st.next→st'.tlim=st.tlim→st'.toks=st.toks→st'.ntok=st.ntok→st'.boxes p=some (.map (cJ x (.bool true) kv))→st'.boxes q0=some (.cells [z0,z1])→ρ' 4=v4→ρ' 12=.ptr q0 0→ρ' 14=v14→ρ' 18=.map p→ρ' 58=.slice t 1 (ns.map (D.int .i64))→ρ' 59=.int .i64 ns.length→ρ' 60=.int .i64 ((pre.length:Int)+1)→WC Γ (.loop gW) ρ' st' Q:=fun ρ' st' e1 e2 e3 e4 e5 e6 e7 k4 k12 k14 k18 k58 k59 k60=>
    ih (pre++[x]) (by simp[hpp]) hpn2 _ (hk.set x) ρ' st' [z0,z1] (by omega) hpq e6 e7 rfl k4 k12 k14 k18 k58 k59 (by rw[List.length_append];exact k60) Q
     (fun h ρ'' st'' f1 f2 f3 f4 f5 f6 f7 f8 f9=>hQ h ρ'' st'' (f1.trans e1) (f2.trans e2) (f3.trans e3) (f4.trans e4) (f5.trans e5) f6 f7 f8 f9) (fun h ρ'' st'' f1=>hQ2 h ρ'' st'' (f1.trans e1))
   clear ih hQ hQ2 hpp
   rw[←aa h4,←aa h12,←aa h14,←aa h18,←aa h58,←aa h59,←aa h60]
   refine Hh ?_
   repeat' (first
 |(refine al ?_;first
 |refine iA (pre.length) hpl ?_
 |refine kc rfl rfl rfl hb hg rfl ?_
 |refine eM (v:=.bool true) rfl rfl rfl hb hlp rfl rfl ?_
 |refine mI ?_
 |refine mM ?_
 |refine lT ?_
 |refine aD ?_
 |refine lE (d:=.int _ _) hv ?_
 |refine Hd ?_)
 |refine He ?_
 |refine Ir ?_
 |refine Hg ?_
 |refine aj rfl ?_
 |refine ah rfl ?_
 |refine Hf ?_)
   refine hnext _ _ rfl rfl rfl rfl rfl (ae _ _ _) ((ab _ _ (Ne.symm hpq)).trans hb0) ?_ ?_ ?_ ?_ ?_ ?_ ?_<;>rfl
theorem Gb (hs:List Hp) (hll:hs.length≤1000000) (now:Int) (t:Tok) (s:Nat) (hsz:s=3∨hs=[]) (q q0:Nat) (hqq:q≠q0) (S:D):∀(post pre:List Hp),hs=pre++post→∀(ρ:Nat→D) (st:Store) (z:List D),st.lim≤0→q<st.next→q0<st.next→st.boxes q=some (.cells [S,.int .i64 (gf now pre)])→st.boxes q0=some (.cells z)→
  ρ 12=.ptr q0 0→ρ 21=.ptr q 0→ρ 74=.slice t s (hs.map Hp.e)→ρ 75=.int .i64 hs.length→ρ 76=.int .i64 pre.length→∀(Q:X→(Nat→D)→Store→Prop),
  (∀ρ' st',st'.lim=st.lim→st'.tlim=st.tlim→st'.toks=st.toks→st'.ntok=st.ntok→st'.boxes q=some (.cells [S,.int .i64 (gf now hs)])→st'.boxes q0=some (.cells z)→ρ' 12=.ptr q0 0→ρ' 21=.ptr q 0→Q (.exit 2) ρ' st')→WC Γ (.loop Ip) ρ st Q:=by
 intro post
 induction post with
 |nil=>
  intro pre hpp ρ st z hlim hqn hq0n hb hb0 h12 h21 h74 h75 h76 Q hQ
  rw[List.append_nil]at hpp
  subst hpp
  rw[←aa h12,←aa h21,←aa h74,←aa h75,←aa h76]
  refine Hh ?_
  repeat' (first
 |(refine al ?_;first
 |refine lF ?_
 |refine Hd ?_)
 |refine He ?_
 |refine Ir ?_
 |refine ah rfl ?_
 |refine Hi ?_)
  refine hQ _ _ rfl rfl rfl rfl hb hb0 ?_ ?_<;>rfl
 |cons x post ih=>
  intro pre hpp ρ st z hlim hqn hq0n hb hb0 h12 h21 h74 h75 h76 Q hQ
  have hv:=xP hpp
  have hlen:hs.length=pre.length+(post.length+1):=by rw[hpp];simp
  have hz:s=3:=hsz.resolve_right (by rintro rfl;simp at hlen)
  subst hz
  have hpl:pre.length<(hs.map Hp.e).length:=by simp;omega
  have hltl:(pre.length:Int)<hs.length:=by omega
  have hlim2:st.lim≤st.next:=by omega
  have hlq:st.lim≤q:=by omega
  have hne:q≠st.next:=Nat.ne_of_lt hqn
  have hne0:q0≠st.next:=Nat.ne_of_lt hq0n
  have hla:gf now (pre++[x])=x.ar:=by simp[gf]
  have hnext:∀(ρ':Nat→D) (st':Store),st'.lim=st.lim→st.next≤st'.next→st'.tlim=st.tlim→st'.toks=st.toks→st'.ntok=st.ntok→st'.boxes q=some (.cells [S,.int .i64 x.ar])→st'.boxes q0=some (.cells z)→ρ' 12=.ptr q0 0→ρ' 21=.ptr q 0→ρ' 74=.slice t 3 (hs.map Hp.e)→ρ' 75=.int .i64 hs.length→ρ' 76=.int .i64 ((pre.length:Int)+1)→WC Γ (.loop Ip) ρ' st' Q:=fun ρ' st' e1 e2 e3 e4 e5 e6 e7 k12 k21 k74 k75 k76=>
   ih (pre++[x]) (by simp[hpp]) ρ' st' z (by omega) (by omega) (by omega) (by rw[hla];exact e6) e7 k12 k21 k74 k75 (by rw[List.length_append];exact k76) Q
    (fun ρ'' st'' f1 f3 f4 f5=>hQ ρ'' st'' (f1.trans e1) (f3.trans e3) (f4.trans e4) (f5.trans e5))
  clear ih hQ hpp
  generalize gf now pre=c at*
  rw[←aa h12,←aa h21,←aa h74,←aa h75,←aa h76]
  refine Hh ?_
  repeat' (first
 |(refine al ?_;first
 |refine iA (pre.length) hpl ?_
 |refine am (cs':=[_,_,_]) rfl rfl (ae _ _ _) rfl hlim2 rfl rfl rfl ?_
 |refine am (cs':=[_,_]) rfl rfl ((ab _ _ hne).trans ((ab _ _ hne).trans hb)) rfl hlq rfl rfl rfl ?_
 |refine mI ?_
 |refine lT ?_
 |refine aD ?_
 |refine lE (d:=.agg [_,_,_]) hv ?_
 |refine lP (d:=.int _ _) ?_
 |refine fD ?_
 |refine av rfl rfl ?_
 |refine Hd ?_)
 |refine He ?_
 |refine Ir ?_
 |refine Hg ?_
 |refine aj rfl ?_
 |refine Hf ?_)
  refine hnext _ _ rfl (Nat.le_succ _) rfl rfl rfl (ae _ _ _) ((ab _ _ (Ne.symm hqq)).trans ((ab _ _ hne0).trans ((ab _ _ hne0).trans hb0))) ?_ ?_ ?_ ?_ ?_<;>rfl
end Go.Bes
/-
  A route by IDs, as the code finds it; the next hop.
-/
namespace Go.Bes
open Go.Ev
theorem yJ {ρ:Nat→D} {st:Store} {i j q:Nat} {a b d:D} (h1:ρ i=.ptr q 0) (h2:st.boxes q=some (.cells [a,b])) (h3:st.lim≤q) (h4:ρ j=d):aI ρ st [.cell i true 2,.tmp j]=some (.tuple [.agg [a,b],d]):=by
 simp[aI,oS,h1,h4,Store.cellsAt,h2,Box.cs,Nat.not_lt.2 h3,cut]
theorem xw {ρ:Nat→D} {st:Store} {i j q:Nat} (h1:ρ i=.ptr q 0) (h2:st.boxes q=some (.cells [.slice .isnil 0 [],.int .i64 0])) (h3:st.lim≤q) (h4:ρ j=.bool false):(X.ret=.normal∨X.ret=.ret)∧(aI ρ st [.cell i true 2,.tmp j]).bind (eE st)=some (.tuple [.agg [.slice .isnil 0 [],.int .i64 0],.bool false]):=⟨.inr rfl,by rw[yJ h1 h2 h3 h4];rfl⟩
theorem yw {a:List Int} (h:a≠[]):a.length - 1<a.length:=by
 have:=List.length_pos_iff.2 h
 omega
set_option maxHeartbeats 8000000 in
theorem CC (l:List Eg) (hll:l.length≤1000) (ids:List Int) (hil:ids.length≤1000) (fr to now sz:Int) (es:List Eg) (hr:routeM l ids fr to now sz=some es) (t t':Tok) (s s':Nat) (hs:s=8∨l=[]) (hs':s'=1∨ids=[]):
  EvX Γ 10 [.slice t s (l.map Eg.e),.slice t' s' (ids.map (D.int .i64)),.int .i64 fr,.int .i64 to,.int .i64 now,.int .i64 sz] (GN Hp.e 3 (aN sz es now) [.int .i64 (gf now (aN sz es now))] [.bool true]):=by
 obtain⟨hid,u,hR⟩:=fh.1 hr
 have hst:bG l ids fr=some es:=by rw[←hid];exact ep hR.ask.2.2.2 hR.way.chain
 have hW:=fun t t'=>uq l (by omega) ids (by omega) fr now sz (aN sz es now) (kr.2 ⟨hR.ask,es,to,u,hst,hid,hR.way,rfl⟩) t s hs t' s' hs'
 have ha0:bV l fr 0 0:=⟨hR.ask.1,by omega,by omega,hR.ask.2.2.2⟩
 have hE:=fun t t'=>pr l (by omega) ids (by omega) fr ha0 es hst t s hs t' s' hs'
 have hN:=kC to
 rw[decide_eq_true hR.to_ok]at hN
 have hend:=gv hR.way.chain
 have hnd:=hR.nd
 have hnl:=uP hR
 have hhl:=cr sz es now
 have hnn:aL fr es=fr::es.map Eg.to:=rfl
 rw[←hnn]at hE
 have hnl2:(aL fr es).length=es.length+1:=by simp[aL]
 have hne:aL fr es≠[]:=by simp[aL]
 refine bR rfl rfl ?_
 clear hnn
 generalize aL fr es=ns at*
 generalize aN sz es now=hs at*
 have hj:ns.length - 1<(ns.map (D.int .i64)).length:=by rw[List.length_map];exact yw hne
 have hsub:IntKind.i64.wrap ((ns.length:Int) - 1)=((ns.length - 1:Nat):Int):=by rw[ea (by omega)];omega
 clear hR hr hst hid ha0
 repeat' (first
 |(refine al ?_;first
 |refine lN ?_
 |refine aS (s:=((ns.length - 1:Nat):Int)) (hs:=hsub) ?_
 |refine dT (j:=ns.length - 1) rfl rfl rfl rfl (jB hsn (by omega)) hj ?_
 |refine gI rfl rfl ?_
 |refine mI ?_
 |refine mB ?_
 |refine mS ?_
 |refine mT ?_
 |refine mM ?_
 |refine ca rfl rfl rfl rfl (by omega) ?_
 |refine lE (d:=.int _ _) hend ?_
 |refine cA rfl hN ?_
 |(refine iu rfl rfl rfl (hW _ _) rfl ?_;intro tm sm hsm tk2 nt2)
 |(refine iu rfl rfl rfl (hE _ _) rfl ?_;intro tn sn hsn tk3 nt3)
 |refine pB ?_
 |refine eB ?_
 |refine eS ?_
 |refine nT ?_
 |refine av rfl rfl ?_
 |refine Hd ?_)
 |refine He ?_
 |refine Ir ?_
 |refine Hg ?_
 |refine ah rfl ?_
 |refine Hf ?_)
 refine FX ns (by omega) tn sn hsn 1 0 (.int .i64 now) (.slice tm sm (hs.map Hp.e)) ns [] rfl List.nodup_nil [] (fun n=>rfl) _ _ [.slice .isnil 0 [],.int .i64 0] ?_ (by decide) ?_ ?_ rfl ?_ ?_ ?_ ?_ ?_ ?_ ?_ _ (fun _ ρ' st' e1 e2 e3 e4 e5 e6 k4 k12 k14=>?_) (fun h=>absurd hnd h)
 ·exact Nat.le_refl _
 ·rfl
 ·rfl
 all_goals first|rfl|skip
 have e1':st'.lim=0:=e1
 have e2':st'.next=2:=e2
 have hl2:st'.lim≤st'.next:=by omega
 have hn0:(0:Nat)≠st'.next:=by omega
 rw[←aa k4,←aa k12,←aa k14]
 repeat' (first
 |(refine al ?_;first
 |refine am (cs':=[_,_]) rfl rfl (ae _ _ _) rfl hl2 rfl rfl rfl ?_
 |refine mI ?_
 |refine mS ?_
 |refine bJ (cs:=[_,_]) rfl rfl rfl ?_
 |refine lN ?_
 |refine av rfl rfl ?_
 |refine Hd ?_)
 |refine He ?_
 |refine Ir ?_
 |refine Hf ?_)
 refine Gb hs (by omega) now tm sm hsm st'.next 0 (by omega) (.slice tm sm (hs.map Hp.e)) hs [] rfl _ _ [.slice .isnil 0 [],.int .i64 0] ?_ ?_ ?_ ?_ ?_ ?_ ?_ ?_ ?_ ?_ _ (fun ρ2 st2 f1 f3 f4 f5 f6 f7 k12 k21=>?_)
 ·show st'.lim≤0
  omega
 ·exact Nat.lt_succ_self _
 ·show 0<st'.next+1
  omega
 ·exact ae _ _ _
 ·exact(ab _ _ hn0).trans ((ab _ _ hn0).trans e6)
 all_goals first|rfl|skip
 have f1':st2.lim=0:=f1.trans e1'
 have hl3:st2.lim≤0:=by omega
 have hl4:st2.lim≤st'.next:=by omega
 rw[←aa k12,←aa k21]
 have hbx:(st2.boxes st'.next).bind Box.cs=some [.slice tm sm (hs.map Hp.e),.int .i64 (gf now hs)]:=by rw[f6];rfl
 repeat' (first
 |(refine al ?_;first
 |refine am (cs':=[_,_]) rfl rfl f7 rfl hl3 rfl rfl rfl ?_
 |refine mB ?_
 |refine ai (agg:=true) (d:=.agg [_,_]) rfl rfl rfl hbx hl4 rfl ?_
 |refine Hd ?_)
 |refine He ?_
 |refine Ir ?_
 |refine an ?_)
 exact AP (.inr rfl) (yJ (q:=0) rfl rfl (by show st2.lim≤0;omega) rfl) rfl rfl hsm rfl rfl rfl
set_option maxHeartbeats 8000000 in
theorem Ib (l:List Eg) (hll:l.length≤1000) (ids:List Int) (hil:ids.length≤1000) (fr to now sz:Int) (hr:routeM l ids fr to now sz=none) (t t':Tok) (s s':Nat) (hs:s=8∨l=[]) (hs':s'=1∨ids=[]):
  EvP Γ 10 [.slice t s (l.map Eg.e),.slice t' s' (ids.map (D.int .i64)),.int .i64 fr,.int .i64 to,.int .i64 now,.int .i64 sz] (.tuple [.agg [.slice .isnil 0 [],.int .i64 0],.bool false]):=by
 refine aJ rfl rfl ?_
 have hN:=kC to
 by_cases hto:1≤to∧to≤255
 ·rw[decide_eq_true hto]at hN
  cases hw:eF l ids fr now sz with
  |none=>
   have hW:=fun t t'=>uM l (by omega) ids (by omega) fr now sz hw t s hs t' s' hs'
   by_cases hE:bV l fr 0 0∧∃es,bG l ids fr=some es
   ·obtain⟨ha0,es,hes⟩:=hE
    have hE:=fun t t'=>pr l (by omega) ids (by omega) fr ha0 es hes t s hs t' s' hs'
    repeat' (first
 |(refine al ?_;first
 |refine ak rfl ?_
 |refine mI ?_
 |refine mB ?_
 |refine mS ?_
 |refine mT ?_
 |refine ak rfl ?_
 |refine ak rfl ?_
 |refine cA rfl hN ?_
 |refine cA rfl (hW _ _) ?_
 |(refine iu rfl rfl rfl (hE _ _) rfl ?_;intro tn sn hsn tk3 nt3)
 |refine pB ?_
 |refine eB ?_
 |refine eS ?_
 |refine bJ (cs:=[_,_]) rfl rfl rfl ?_
 |refine am (cs':=[_,_]) rfl rfl rfl rfl (by first|exact Nat.zero_le _|omega) rfl rfl rfl ?_
 |refine nT ?_
 |refine av rfl rfl ?_
 |refine ak rfl ?_
 |refine Hd ?_)
 |refine He ?_
 |refine Ir ?_
 |refine Hg ?_
 |refine aj rfl ?_
 |refine ah rfl ?_
 |refine an ?_)
    exact⟨.inr rfl,rfl⟩
   ·have hE0:¬bV l fr 0 0∨bG l ids fr=none:=by
     by_cases h:bV l fr 0 0
     ·right
      cases h':bG l ids fr with
      |none=>rfl
      |some es=>exact absurd ⟨h,es,h'⟩ hE
     ·exact .inl h
    have hE:=fun t t'=>CX l (by omega) ids (by omega) fr hE0 t s hs t' s' hs'
    repeat' (first
 |(refine al ?_;first
 |refine ak rfl ?_
 |refine mI ?_
 |refine mB ?_
 |refine mS ?_
 |refine mT ?_
 |refine ak rfl ?_
 |refine ak rfl ?_
 |refine cA rfl hN ?_
 |refine cA rfl (hW _ _) ?_
 |refine cA rfl (hE _ _) ?_
 |refine pB ?_
 |refine eB ?_
 |refine eS ?_
 |refine bJ (cs:=[_,_]) rfl rfl rfl ?_
 |refine am (cs':=[_,_]) rfl rfl rfl rfl (by first|exact Nat.zero_le _|omega) rfl rfl rfl ?_
 |refine nT ?_
 |refine av rfl rfl ?_
 |refine ak rfl ?_
 |refine Hd ?_)
 |refine He ?_
 |refine Ir ?_
 |refine Hg ?_
 |refine aj rfl ?_
 |refine ah rfl ?_
 |refine an ?_)
    exact⟨.inr rfl,rfl⟩
  |some h=>
   have hW:=fun t t'=>uq l (by omega) ids (by omega) fr now sz h hw t s hs t' s' hs'
   obtain⟨ha,es,m,u,hst,hid,hway,rfl⟩:=kr.1 hw
   have ha0:bV l fr 0 0:=⟨ha.1,by omega,by omega,ha.2.2.2⟩
   have hE:=fun t t'=>pr l (by omega) ids (by omega) fr ha0 es hst t s hs t' s' hs'
   have hend:=gv hway.chain
   have hel:es.length=ids.length:=by rw[←hid];simp
   have hnn:aL fr es=fr::es.map Eg.to:=rfl
   rw[←hnn]at hE
   have hnl2:(aL fr es).length=es.length+1:=by simp[aL]
   have hne:aL fr es≠[]:=by simp[aL]
   have hbad:m=to→¬(aL fr es).Nodup:=fun e hn=>by
    subst e
    have:=fh.2 ⟨hid,u,ha,hway,hn⟩
    rw[hr]at this
    cases this
   clear hnn
   generalize aL fr es=ns at*
   generalize aN sz es now=hs at*
   have hj:ns.length - 1<(ns.map (D.int .i64)).length:=by rw[List.length_map];exact yw hne
   have hsub:IntKind.i64.wrap ((ns.length:Int) - 1)=((ns.length - 1:Nat):Int):=by rw[ea (by omega)];omega
   clear hr hst hid ha0 hw hway
   by_cases hm:m=to
   ·subst hm
    have hbad:=hbad rfl
    repeat' (first
 |(refine al ?_;first
 |refine lN ?_
 |refine aS (s:=((ns.length - 1:Nat):Int)) (hs:=hsub) ?_
 |refine dT (j:=ns.length - 1) rfl rfl rfl rfl (jB hsn (by omega)) hj ?_
 |refine gI rfl rfl ?_
 |refine mI ?_
 |refine mB ?_
 |refine mS ?_
 |refine mT ?_
 |refine mM ?_
 |refine ca rfl rfl rfl rfl (by omega) ?_
 |refine lE (d:=.int _ _) hend ?_
 |refine cA rfl hN ?_
 |(refine iu rfl rfl rfl (hW _ _) rfl ?_;intro tm sm hsm tk2 nt2)
 |(refine iu rfl rfl rfl (hE _ _) rfl ?_;intro tn sn hsn tk3 nt3)
 |refine pB ?_
 |refine eB ?_
 |refine eS ?_
 |refine nT ?_
 |refine av rfl rfl ?_
 |refine Hd ?_)
 |refine He ?_
 |refine Ir ?_
 |refine Hg ?_
 |refine ah rfl ?_
 |refine Hf ?_)
    refine FX ns (by omega) tn sn hsn 1 0 (.int .i64 now) (.slice tm sm (hs.map Hp.e)) ns [] rfl List.nodup_nil [] (fun n=>rfl) _ _ [.slice .isnil 0 [],.int .i64 0] ?_ (by decide) ?_ ?_ rfl ?_ ?_ ?_ ?_ ?_ ?_ ?_ _ (fun h=>absurd h hbad) (fun _ ρ' st' e1 e2 k12 k13=>?_)
    ·exact Nat.le_refl _
    ·rfl
    ·rfl
    all_goals first|rfl|skip
    have e1':st'.lim=0:=e1
    exact xw k12 e2 (by omega) k13
   ·repeat' (first
 |(refine al ?_;first
 |refine lN ?_
 |refine aS (s:=((ns.length - 1:Nat):Int)) (hs:=hsub) ?_
 |refine dT (j:=ns.length - 1) rfl rfl rfl rfl (jB hsn (by omega)) hj ?_
 |refine cu rfl rfl rfl rfl hm ?_
 |refine mI ?_
 |refine mB ?_
 |refine mS ?_
 |refine mT ?_
 |refine lE (d:=.int _ _) hend ?_
 |refine cA rfl hN ?_
 |(refine iu rfl rfl rfl (hW _ _) rfl ?_;intro tm sm hsm tk2 nt2)
 |(refine iu rfl rfl rfl (hE _ _) rfl ?_;intro tn sn hsn tk3 nt3)
 |refine pB ?_
 |refine eB ?_
 |refine eS ?_
 |refine bJ (cs:=[_,_]) rfl rfl rfl ?_
 |refine am (cs':=[_,_]) rfl rfl rfl rfl (by first|exact Nat.zero_le _|omega) rfl rfl rfl ?_
 |refine nT ?_
 |refine av rfl rfl ?_
 |refine Hd ?_)
 |refine He ?_
 |refine Ir ?_
 |refine Hg ?_
 |refine aj rfl ?_
 |refine ah rfl ?_
 |refine an ?_)
    exact⟨.inr rfl,rfl⟩
 ·rw[decide_eq_false hto]at hN
  repeat' (first
 |(refine al ?_;first
 |refine mI ?_
 |refine mB ?_
 |refine cA rfl hN ?_
 |refine bJ (cs:=[_,_]) rfl rfl rfl ?_
 |refine am (cs':=[_,_]) rfl rfl rfl rfl (by first|exact Nat.zero_le _|omega) rfl rfl rfl ?_
 |refine nT ?_
 |refine av rfl rfl ?_
 |refine Hd ?_)
 |refine He ?_
 |refine Ir ?_
 |refine aj rfl ?_
 |refine an ?_)
  exact⟨.inr rfl,rfl⟩
end Go.Bes
/-
  The next hop of the best route.
-/
namespace Go.Bes
open Go.Ev
theorem yx (n:Int) (l:List Rd) (hll:l.length≤1073741824) (u:Int) (hu:cK n l=some u) (t:Tok) (sz:Nat) (hs:sz=2∨l=[]):EvP Γ2 26 [.slice t sz (l.map Rd.e),.int .i64 n] (.tuple [.int .i64 u,.bool true]):=by
 have h:=GC n l hll t sz hs
 rw[hu]at h
 exact h.grow ly
theorem Cz (n:Int) (l:List Rd) (hll:l.length≤1073741824) (hu:cK n l=none) (t:Tok) (sz:Nat) (hs:sz=2∨l=[]):EvP Γ2 26 [.slice t sz (l.map Rd.e),.int .i64 n] (.tuple [.int .i64 0,.bool false]):=by
 have h:=GC n l hll t sz hs
 rw[hu]at h
 exact h.grow ly
theorem Fu (n:Int) (l:List Rd) (hll:l.length≤1073741824) (sz:Nat) (hs:sz=2∨l=[]):∃v b,∀t,EvP Γ2 26 [.slice t sz (l.map Rd.e),.int .i64 n] (.tuple [.int .i64 v,.bool b]):=by
 cases h:cK n l with
 |none=>exact⟨_,_,fun t=>Cz n l hll h t sz hs⟩
 |some u=>exact⟨_,_,fun t=>yx n l hll u h t sz hs⟩
def DM (t sz:Int):Option Eg→D
 |some e=>.tuple [.agg [.int .i64 e.id,.int .i64 (mx t e.op),.int .i64 (aX e t sz)],.int .i64 e.to,.bool true]
 |none=>.tuple [.agg [.int .i64 0,.int .i64 0,.int .i64 0],.int .i64 0,.bool false]
theorem DK {ρ:Nat→D} {st:Store} {X0:X} {i j k q:Nat} {a b c n:Int} {o:Bool} {r:D} (hx:X0=.normal∨X0=.ret) (h1:ρ i=.ptr q 0) (h2:st.boxes q=some (.cells [.int .i64 a,.int .i64 b,.int .i64 c])) (h3:st.lim≤q) (h4:ρ j=.int .i64 n) (h5:ρ k=.bool o) (hr:r=.tuple [.agg [.int .i64 a,.int .i64 b,.int .i64 c],.int .i64 n,.bool o]):(X0=.normal∨X0=.ret)∧(aI ρ st [.cell i true 3,.tmp j,.tmp k]).bind (eE st)=some r:=by
 subst hr
 refine⟨hx,?_⟩
 have:aI ρ st [.cell i true 3,.tmp j,.tmp k]=some (.tuple [.agg [.int .i64 a,.int .i64 b,.int .i64 c],.int .i64 n,.bool o]):=by
  simp[aI,oS,h1,h4,h5,Store.cellsAt,h2,Box.cs,Nat.not_lt.2 h3,cut]
 rw[this]
 rfl
set_option maxHeartbeats 16000000 in
theorem Eu (to sz by':Int) (shut:List Int) (hsl:shut.length≤1000000) (node now:Int) (L:List Rd) (hLl:L.length≤1000000) (E:D) (te tl t':Tok) (se sl s':Nat) (hs':s'=1∨shut=[]) (hsl':sl=2∨L=[]) (es:List Eg) (hel:es.length≤1000000) (hse:se=8∨es=[]):∀(post pre:List Eg),es=pre++post→∀(ρ:Nat→D) (st:Store),st.lim≤0→2≤st.next→st.boxes 0=some (.cells [E,.int .i64 to,.int .i64 sz,.int .i64 by',.slice t' s' (shut.map (D.int .i64))])→st.boxes 1=some (.cells [.int .i64 0,.int .i64 0,.int .i64 0])→
  ρ 2=.int .i64 now→ρ 4=.ptr 0 0→ρ 8=.ptr 1 0→ρ 11=.slice tl sl (L.map Rd.e)→ρ 34=.slice te se (es.map Eg.e)→ρ 35=.int .i64 es.length→ρ 36=.int .i64 pre.length→∀(Q:X→(Nat→D)→Store→Prop),
  (post.find? (tD to sz shut L now)=none→∀ρ' st',st'.lim=st.lim→st'.boxes 1=some (.cells [.int .i64 0,.int .i64 0,.int .i64 0])→ρ' 8=.ptr 1 0→Q (.exit 0) ρ' st')→(∀e,post.find? (tD to sz shut L now)=some e→∀ρ' st',st'.lim=st.lim→st'.boxes 1=some (.cells [.int .i64 e.id,.int .i64 (mx now e.op),.int .i64 (aX e now sz)])→ρ' 8=.ptr 1 0→ρ' 9=.int .i64 e.to→ρ' 10=.bool true→Q .ret ρ' st')→WC Γ2 (.loop dB) ρ st Q:=by
 intro post
 induction post with
 |nil=>
  intro pre hpp ρ st hlim hnx hb0 hb1 h2 h4 h8 h11 h34 h35 h36 Q hQ hQ2
  rw[List.append_nil]at hpp
  subst hpp
  rw[←aa h2,←aa h4,←aa h8,←aa h11,←aa h34,←aa h35,←aa h36]
  refine Hh ?_
  repeat' (first
 |(refine al ?_;first
 |refine lF ?_
 |refine Hd ?_)
 |refine He ?_
 |refine Ir ?_
 |refine ah rfl ?_
 |refine Hi ?_)
  exact hQ rfl _ _ rfl hb1 rfl
 |cons e post ih=>
  intro pre hpp ρ st hlim hnx hb0 hb1 h2 h4 h8 h11 h34 h35 h36 Q hQ hQ2
  have hv:=lU hpp
  have hlen:es.length=pre.length+(post.length+1):=by rw[hpp];simp
  have hz:se=8:=hse.resolve_right (by rintro rfl;simp at hlen)
  subst hz
  have hpl:pre.length<(es.map Eg.e).length:=by simp;omega
  have hltl:(pre.length:Int)<es.length:=by omega
  have hlim2:st.lim≤st.next:=by omega
  have hlim0:st.lim≤0:=hlim
  have hlim1:st.lim≤1:=by omega
  have hn0:0≠st.next:=by omega
  have hn1:1≠st.next:=by omega
  have q0:∀{x y:Option Box},((ap (ap st.boxes st.next x) st.next y) 0).bind Box.cs=some [E,.int .i64 to,.int .i64 sz,.int .i64 by',.slice t' s' (shut.map (D.int .i64))]:=fun{x y}=>by rw[ab _ _ hn0,ab _ _ hn0,hb0];rfl
  have q0':∀{x y:Option Box},ap (ap st.boxes st.next x) st.next y 0=some (.cells [E,.int .i64 to,.int .i64 sz,.int .i64 by',.slice t' s' (shut.map (D.int .i64))]):=fun{x y}=>(ab _ _ hn0).trans ((ab _ _ hn0).trans hb0)
  have q1':∀{x y:Option Box},ap (ap st.boxes st.next x) st.next y 1=some (.cells [.int .i64 0,.int .i64 0,.int .i64 0]):=fun{x y}=>(ab _ _ hn1).trans ((ab _ _ hn1).trans hb1)
  have q1:∀{x:Option Box},((ap (ap st.boxes st.next x) st.next (some (Box.cells e.e.cells))) st.next).bind Box.cs=some e.e.cells:=fun{x}=>by rw[ae];rfl
  have hN1:(st.next==1)=false:=by simp;omega
  have hN2:(1==st.next)=false:=by simp;omega
  have hnext:tD to sz shut L now e=false→∀(ρ':Nat→D) (st':Store),st'.lim=st.lim→st.next≤st'.next→st'.boxes 0=some (.cells [E,.int .i64 to,.int .i64 sz,.int .i64 by',.slice t' s' (shut.map (D.int .i64))])→st'.boxes 1=some (.cells [.int .i64 0,.int .i64 0,.int .i64 0])→ρ' 2=.int .i64 now→ρ' 4=.ptr 0 0→ρ' 8=.ptr 1 0→ρ' 11=.slice tl sl (L.map Rd.e)→ρ' 34=.slice te 8 (es.map Eg.e)→ρ' 35=.int .i64 es.length→ρ' 36=.int .i64 ((pre.length:Int)+1)→WC Γ2 (.loop dB) ρ' st' Q:=fun ho ρ' st' e1 e2 e3 e4 k2 k4 k8 k11 k34 k35 k36=>
   ih (pre++[e]) (by simp[hpp]) ρ' st' (by omega) (by omega) e3 e4 k2 k4 k8 k11 k34 k35 (by rw[List.length_append];exact k36) Q
    (fun h ρ'' st'' f1=>hQ (by rw[List.find?_cons,ho];exact h) ρ'' st'' (f1.trans e1)) (fun x h ρ'' st'' f1=>hQ2 x (by rw[List.find?_cons,ho];exact h) ρ'' st'' (f1.trans e1))
  have hgo:tD to sz shut L now e=true→∀ρ' st',st'.lim=st.lim→st'.boxes 1=some (.cells [.int .i64 e.id,.int .i64 (mx now e.op),.int .i64 (aX e now sz)])→ρ' 8=.ptr 1 0→ρ' 9=.int .i64 e.to→ρ' 10=.bool true→Q .ret ρ' st':=fun ho=>hQ2 e (by rw[List.find?_cons,ho])
  have hP:=(xJ e now sz).grow ly
  unfold vL at hP
  have hC:=fun t=>(nf e.to shut (by omega) t s' hs').grow ly
  obtain⟨v1,b1,hAny⟩:=Fu e.to L (by omega) sl hsl'
  clear ih hQ hQ2 hpp
  rw[←aa h2,←aa h4,←aa h8,←aa h11,←aa h34,←aa h35,←aa h36]
  refine Hh ?_
  by_cases hc:eT e now sz
  ·rw[if_pos hc]at hP
   cases ha:cK e.to L with
   |none=>
    have ho:tD to sz shut L now e=false:=by unfold tD;rw[ha]
    have hA:=fun t=>Cz e.to L (by omega) ha t sl hsl'
    have hnext:=hnext ho
    clear hgo
    repeat' (first
 |(refine al ?_;first
 |refine iA (pre.length) hpl ?_
 |refine am (cs':=[_,_,_,_,_,_,_,_]) rfl rfl (ae _ _ _) rfl hlim2 rfl rfl rfl ?_
 |refine ak rfl ?_
 |refine mI ?_
 |refine mB ?_
 |refine mS ?_
 |refine mT ?_
 |refine ak rfl ?_
 |refine lT ?_
 |refine aD ?_
 |refine ak rfl ?_
 |refine lE (d:=.agg [_,_,_,_,_,_,_,_]) hv ?_
 |refine ai (agg:=true) (d:=.agg [_,_,_,_,_,_,_,_]) rfl rfl rfl q1 hlim2 rfl ?_
 |refine ai (agg:=false) (d:=.int _ _) rfl rfl rfl q1 hlim2 rfl ?_
 |refine ai (agg:=false) (d:=.int _ _) rfl rfl rfl q0 hlim0 rfl ?_
 |refine ak rfl ?_
 |refine cA rfl hP ?_
 |refine cA rfl (hA _) ?_
 |refine pB ?_
 |refine ak rfl ?_
 |refine eI ?_
 |refine eB ?_
 |refine fD ?_
 |refine av rfl rfl ?_
 |refine ak rfl ?_
 |refine Hd ?_)
 |refine He ?_
 |refine Ir ?_
 |refine Hg ?_
 |refine aj rfl ?_
 |refine ah rfl ?_
 |refine Hf ?_)
    refine hnext _ _ rfl (Nat.le_succ _) q0' q1' ?_ ?_ ?_ ?_ ?_ ?_ ?_<;>rfl
   |some b=>
    have hA:=fun t=>yx e.to L (by omega) b ha t sl hsl'
    by_cases hle:aX e now sz≤b
    ·by_cases hto:e.to=to
     ·have hgo:=hgo (ik.2 ⟨b,ha,hc,hle,.inl hto⟩)
      clear hnext
      generalize aX e now sz=th at*
      generalize mx now e.op=sd at*
      repeat' (first
 |(refine al ?_;first
 |refine iA (pre.length) hpl ?_
 |refine am (cs':=[_,_,_,_,_,_,_,_]) rfl rfl (ae _ _ _) rfl hlim2 rfl rfl rfl ?_
 |refine ek rfl rfl rfl rfl hle ?_
 |refine cb rfl rfl rfl rfl hto ?_
 |refine am (cs':=[_,_,_]) rfl rfl q1' rfl hlim1 rfl rfl rfl ?_
 |refine mI ?_
 |refine mB ?_
 |refine mS ?_
 |refine mT ?_
 |refine lT ?_
 |refine ak rfl ?_
 |refine lE (d:=.agg [_,_,_,_,_,_,_,_]) hv ?_
 |refine ai (agg:=true) (d:=.agg [_,_,_,_,_,_,_,_]) rfl rfl rfl q1 hlim2 rfl ?_
 |refine ai (agg:=false) (d:=.int _ _) rfl rfl rfl q1 hlim2 rfl ?_
 |refine ai (agg:=false) (d:=.int _ _) rfl rfl rfl q0 hlim0 rfl ?_
 |refine ak rfl ?_
 |refine cA rfl hP ?_
 |refine cA rfl (hA _) ?_
 |refine pB ?_
 |refine eI ?_
 |refine eB ?_
 |refine bJ (cs:=[_,_,_]) rfl rfl rfl ?_
 |refine fD ?_
 |refine av rfl rfl ?_
 |refine ak rfl ?_
 |refine Hd ?_)
 |refine au (by simp[bB,List.range,List.range.loop,Fl.clash,hN1,hN2]) ?_
 |refine He ?_
 |refine Ir ?_
 |refine ay ?_
 |refine Hg ?_
 |refine aj rfl ?_
 |refine Hf ?_
 |refine an ?_)
      refine hgo _ _ rfl rfl ?_ ?_ ?_<;>rfl
     ·by_cases hin:e.to∈shut
      ·have ho:tD to sz shut L now e=false:=by
        cases h:tD to sz shut L now e with
        |false=>rfl
        |true=>
         obtain⟨_,_,_,_,h|h⟩:=ik.1 h
         ·exact absurd h hto
         ·exact absurd hin h
       have hnext:=hnext ho
       rw[decide_eq_true hin]at hC
       clear hgo
       repeat' (first
 |(refine al ?_;first
 |refine iA (pre.length) hpl ?_
 |refine am (cs':=[_,_,_,_,_,_,_,_]) rfl rfl (ae _ _ _) rfl hlim2 rfl rfl rfl ?_
 |refine ek rfl rfl rfl rfl hle ?_
 |refine b7 rfl rfl rfl rfl hto ?_
 |refine mI ?_
 |refine mB ?_
 |refine mS ?_
 |refine mT ?_
 |refine lT ?_
 |refine aD ?_
 |refine lE (d:=.agg [_,_,_,_,_,_,_,_]) hv ?_
 |refine ai (agg:=true) (d:=.agg [_,_,_,_,_,_,_,_]) rfl rfl rfl q1 hlim2 rfl ?_
 |refine ai (agg:=false) (d:=.int _ _) rfl rfl rfl q1 hlim2 rfl ?_
 |refine ai (agg:=false) (d:=.int _ _) rfl rfl rfl q0 hlim0 rfl ?_
 |refine ai (agg:=false) (d:=.slice _ _ _) rfl rfl rfl q0 hlim0 rfl ?_
 |refine cA rfl (hC _) ?_
 |refine cA rfl hP ?_
 |refine cA rfl (hA _) ?_
 |refine pB ?_
 |refine eI ?_
 |refine eB ?_
 |refine nT ?_
 |refine fD ?_
 |refine av rfl rfl ?_
 |refine Hd ?_)
 |refine He ?_
 |refine Ir ?_
 |refine Hg ?_
 |refine aj rfl ?_
 |refine ah rfl ?_
 |refine Hf ?_)
       refine hnext _ _ rfl (Nat.le_succ _) q0' q1' ?_ ?_ ?_ ?_ ?_ ?_ ?_<;>rfl
      ·have hgo:=hgo (ik.2 ⟨b,ha,hc,hle,.inr hin⟩)
       rw[decide_eq_false hin]at hC
       clear hnext
       generalize aX e now sz=th at*
       generalize mx now e.op=sd at*
       repeat' (first
 |(refine al ?_;first
 |refine iA (pre.length) hpl ?_
 |refine am (cs':=[_,_,_,_,_,_,_,_]) rfl rfl (ae _ _ _) rfl hlim2 rfl rfl rfl ?_
 |refine ek rfl rfl rfl rfl hle ?_
 |refine b7 rfl rfl rfl rfl hto ?_
 |refine am (cs':=[_,_,_]) rfl rfl q1' rfl hlim1 rfl rfl rfl ?_
 |refine mI ?_
 |refine mB ?_
 |refine mS ?_
 |refine mT ?_
 |refine lT ?_
 |refine lE (d:=.agg [_,_,_,_,_,_,_,_]) hv ?_
 |refine ai (agg:=true) (d:=.agg [_,_,_,_,_,_,_,_]) rfl rfl rfl q1 hlim2 rfl ?_
 |refine ai (agg:=false) (d:=.int _ _) rfl rfl rfl q1 hlim2 rfl ?_
 |refine ai (agg:=false) (d:=.int _ _) rfl rfl rfl q0 hlim0 rfl ?_
 |refine ai (agg:=false) (d:=.slice _ _ _) rfl rfl rfl q0 hlim0 rfl ?_
 |refine cA rfl (hC _) ?_
 |refine cA rfl hP ?_
 |refine cA rfl (hA _) ?_
 |refine pB ?_
 |refine eI ?_
 |refine eB ?_
 |refine bJ (cs:=[_,_,_]) rfl rfl rfl ?_
 |refine nT ?_
 |refine fD ?_
 |refine av rfl rfl ?_
 |refine Hd ?_)
 |refine au (by simp[bB,List.range,List.range.loop,Fl.clash,hN1,hN2]) ?_
 |refine He ?_
 |refine Ir ?_
 |refine ay ?_
 |refine Hg ?_
 |refine aj rfl ?_
 |refine Hf ?_
 |refine an ?_)
       refine hgo _ _ rfl rfl ?_ ?_ ?_<;>rfl
    ·have ho:tD to sz shut L now e=false:=by
      cases h:tD to sz shut L now e with
      |false=>rfl
      |true=>
       obtain⟨b',h1,_,h2,_⟩:=ik.1 h
       rw[ha]at h1
       cases h1
       exact absurd h2 hle
     have hnext:=hnext ho
     have hle':b<aX e now sz:=by omega
     clear hgo
     repeat' (first
 |(refine al ?_;first
 |refine iA (pre.length) hpl ?_
 |refine am (cs':=[_,_,_,_,_,_,_,_]) rfl rfl (ae _ _ _) rfl hlim2 rfl rfl rfl ?_
 |refine eH rfl rfl rfl rfl hle' ?_
 |refine ak rfl ?_
 |refine mI ?_
 |refine mB ?_
 |refine mS ?_
 |refine mT ?_
 |refine ak rfl ?_
 |refine lT ?_
 |refine aD ?_
 |refine ak rfl ?_
 |refine lE (d:=.agg [_,_,_,_,_,_,_,_]) hv ?_
 |refine ai (agg:=true) (d:=.agg [_,_,_,_,_,_,_,_]) rfl rfl rfl q1 hlim2 rfl ?_
 |refine ai (agg:=false) (d:=.int _ _) rfl rfl rfl q1 hlim2 rfl ?_
 |refine ai (agg:=false) (d:=.int _ _) rfl rfl rfl q0 hlim0 rfl ?_
 |refine ak rfl ?_
 |refine cA rfl hP ?_
 |refine cA rfl (hA _) ?_
 |refine pB ?_
 |refine ak rfl ?_
 |refine eI ?_
 |refine eB ?_
 |refine fD ?_
 |refine av rfl rfl ?_
 |refine ak rfl ?_
 |refine Hd ?_)
 |refine He ?_
 |refine Ir ?_
 |refine Hg ?_
 |refine aj rfl ?_
 |refine ah rfl ?_
 |refine Hf ?_)
     refine hnext _ _ rfl (Nat.le_succ _) q0' q1' ?_ ?_ ?_ ?_ ?_ ?_ ?_<;>rfl
  ·rw[if_neg hc]at hP
   have ho:tD to sz shut L now e=false:=by
    cases h:tD to sz shut L now e with
    |false=>rfl
    |true=>
     obtain⟨_,_,h1,_⟩:=ik.1 h
     exact absurd h1 hc
   have hnext:=hnext ho
   clear hgo
   repeat' (first
 |(refine al ?_;first
 |refine iA (pre.length) hpl ?_
 |refine am (cs':=[_,_,_,_,_,_,_,_]) rfl rfl (ae _ _ _) rfl hlim2 rfl rfl rfl ?_
 |refine ak rfl ?_
 |refine mI ?_
 |refine mB ?_
 |refine mS ?_
 |refine mT ?_
 |refine ak rfl ?_
 |refine lT ?_
 |refine aD ?_
 |refine ak rfl ?_
 |refine lE (d:=.agg [_,_,_,_,_,_,_,_]) hv ?_
 |refine ai (agg:=true) (d:=.agg [_,_,_,_,_,_,_,_]) rfl rfl rfl q1 hlim2 rfl ?_
 |refine ai (agg:=false) (d:=.int _ _) rfl rfl rfl q1 hlim2 rfl ?_
 |refine ai (agg:=false) (d:=.int _ _) rfl rfl rfl q0 hlim0 rfl ?_
 |refine ak rfl ?_
 |refine cA rfl hP ?_
 |refine cA rfl (hAny _) ?_
 |refine pB ?_
 |refine ak rfl ?_
 |refine eI ?_
 |refine eB ?_
 |refine fD ?_
 |refine av rfl rfl ?_
 |refine ak rfl ?_
 |refine Hd ?_)
 |refine He ?_
 |refine Ir ?_
 |refine Hg ?_
 |refine aj rfl ?_
 |refine ah rfl ?_
 |refine Hf ?_)
   refine hnext _ _ rfl (Nat.le_succ _) q0' q1' ?_ ?_ ?_ ?_ ?_ ?_ ?_<;>rfl
set_option maxHeartbeats 8000000 in
theorem Ff (l:List Eg) (hll:l.length≤900) (to sz by':Int) (shut:List Int) (hsl:shut.length≤1000000) (node now hops:Int) (t t':Tok) (s s':Nat) (hs:s=8∨l=[]) (hs':s'=1∨shut=[]):
  EvP Γ2 29 [.agg [.slice t s (l.map Eg.e),.int .i64 to,.int .i64 sz,.int .i64 by',.slice t' s' (shut.map (D.int .i64))],.int .i64 node,.int .i64 now,.int .i64 hops] (DM now sz (nextM l to by' sz shut node now hops)):=by
 refine aJ rfl rfl ?_
 have hT:=fun t t'=>A3 l hll to by' sz hops shut hsl t t' s s' hs hs'
 have hF:=fun t=>(Az node l (by omega) t s hs).grow ly
 have hLl:=sG l to by' sz hops shut
 have hsq:=DT hll
 have hel:(ci node l).length≤l.length:=List.length_filter_le _ _
 unfold nextM
 generalize ll l to by' sz hops shut=L at*
 generalize ci node l=es at*
 repeat' (first
 |(refine al ?_;first
 |refine lN ?_
 |refine mI ?_
 |refine mB ?_
 |refine mS ?_
 |refine lO (d:=.int _ _) ?_
 |refine lO (d:=.slice _ _ _) ?_
 |(refine cD rfl rfl rfl (hT _ _) rfl ?_;intro ta sa hsa hta)
 |(refine jG rfl rfl rfl (hF _) rfl ?_;intro tf sf hsf tk nt)
 |refine cm rfl rfl rfl rfl rfl ?_
 |refine fD ?_
 |refine av rfl rfl ?_
 |refine Hd ?_)
 |refine He ?_
 |refine Ir ?_
 |refine Hf ?_)
 refine Eu to sz by' shut hsl node now L (by omega) (.slice t s (l.map Eg.e)) tf ta t' sf sa s' hs' hsa es (by omega) hsf es [] rfl _ _ ?_ ?_ ?_ ?_ ?_ ?_ ?_ ?_ ?_ ?_ ?_ _ (fun h ρ' st' e1 e2 k8=>?_) (fun e h ρ' st' e1 e2 k8 k9 k10=>?_)
 ·exact Nat.le_refl _
 ·exact Nat.le_refl _
 all_goals first|rfl|skip
 ·rw[h]
  have e1':st'.lim=0:=e1
  have hl1:st'.lim≤1:=by omega
  rw[←aa k8]
  repeat' (first
 |(refine al ?_;first
 |refine am (cs':=[_,_,_]) rfl rfl e2 rfl hl1 rfl rfl rfl ?_
 |refine mI ?_
 |refine mB ?_
 |refine bJ (cs:=[_,_,_]) rfl rfl rfl ?_
 |refine Hd ?_)
 |refine He ?_
 |refine Ir ?_
 |refine an ?_)
  exact DK (q:=1) (i:=8) (j:=9) (k:=10) (.inr rfl) rfl rfl hl1 rfl rfl rfl
 ·rw[h]
  have e1':st'.lim=0:=e1
  exact DK (.inr rfl) k8 e2 (by omega) k9 k10 rfl
end Go.Bes
/-
  The best route, as the code finds it.
-/
namespace Go.Bes
open Go.Ev
theorem yf {l:List Eg} {fr to now a sz:Int} {shut:List Int} {n:Nat} (h:rq l fr to now a sz shut=some n):n≤l.length:=by
 unfold rq at h
 split at h
 ·have:=(pU _ _ _ h).2.1
  omega
 ·cases h
set_option maxHeartbeats 16000000 in
theorem G5 (l:List Eg) (hll:l.length≤900) (to sz by':Int) (shut:List Int) (hsl:shut.length≤1000000) (t t':Tok) (s s':Nat) (hs:s=8∨l=[]) (hs':s'=1∨shut=[]) (arr:Int) (z:List D):∀(k:Nat),k≤1000→∀(node now:Int) (out:List Hp) (tk:Tok) (so:Nat) (ρ:Nat→D) (st:Store),out.length+k≤1000→st.lim≤0→3≤st.next→st.tlim≤st.ntok→ft st 3 tk so (out.map Hp.e)→st.boxes 0=some (.cells z)→st.boxes 1=some (.cells [.slice t s (l.map Eg.e),.int .i64 to,.int .i64 sz,.int .i64 by',.slice t' s' (shut.map (D.int .i64))])→st.boxes 2=some (.cells [.slice tk so (out.map Hp.e),.int .i64 arr])→
  ρ 14=.ptr 0 0→ρ 17=.bool true→ρ 18=.int .i64 k→ρ 19=.ptr 1 0→ρ 20=.ptr 2 0→ρ 21=.int .i64 node→ρ 22=.int .i64 now→∀(Q:X→(Nat→D)→Store→Prop),
  (∀es,DU l to by' sz shut k node now=some es→∀ρ' st' tk' so',st'.lim=st.lim→st'.boxes 0=some (.cells z)→(so'=3∨out++aN sz es now=[])→st'.boxes 2=some (.cells [.slice tk' so' ((out++aN sz es now).map Hp.e),.int .i64 arr])→ρ' 14=.ptr 0 0→ρ' 17=.bool true→ρ' 20=.ptr 2 0→Q (.exit 0) ρ' st')→(DU l to by' sz shut k node now=none→∀ρ' st',st'.lim=st.lim→st'.boxes 0=some (.cells z)→ρ' 14=.ptr 0 0→ρ' 17=.bool false→Q (.exit 0) ρ' st')→WC Γ2 (.loop gj) ρ st Q:=by
 intro k
 induction k with
 |zero=>
  intro hk node now out tk so ρ st hol hlim hnx htl hO hb0 hb1 hb2 h14 h17 h18 h19 h20 h21 h22 Q hQ hQ2
  rw[←aa h14,←aa h17,←aa h18,←aa h19,←aa h20,←aa h21,←aa h22]
  refine Hh ?_
  repeat' (first
 |(refine al ?_;first
 |refine mI ?_
 |refine mB ?_
 |refine gF ?_
 |refine pB ?_
 |refine Hd ?_)
 |refine He ?_
 |refine Ir ?_
 |refine ah rfl ?_
 |refine Hi ?_)
  refine hQ [] rfl _ _ tk so rfl hb0 ?_ (by simpa[aN]using hb2) rfl rfl rfl
  rcases hO with⟨_,h|⟨_,h⟩⟩|⟨_,_,_,_,h⟩
  ·exact .inl h
  ·exact .inr (by simpa[aN]using h)
  ·exact .inl h
 |succ k ih=>
  intro hk node now out tk so ρ st hol hlim hnx htl hO hb0 hb1 hb2 h14 h17 h18 h19 h20 h21 h22 Q hQ hQ2
  have hgt:(0:Int)<((k+1:Nat):Int):=by omega
  have hw:IntKind.i64.wrap (((k+1:Nat):Int) - 1)=(k:Int):=by rw[ea (by omega)];omega
  have hN:=fun t t'=>Ff l hll to sz by' shut hsl node now k t t' s s' hs hs'
  have hlim2:st.lim≤st.next:=by omega
  have hl1:st.lim≤1:=by omega
  have hl2:st.lim≤2:=by omega
  have hn0:0≠st.next:=by omega
  have hn1:1≠st.next:=by omega
  have hn2:2≠st.next:=by omega
  have hN1:(st.next==2)=false:=by simp;omega
  have hN2:(2==st.next)=false:=by simp;omega
  have q1:∀{x:Option Box},((ap st.boxes st.next x) 1).bind Box.cs=some [.slice t s (l.map Eg.e),.int .i64 to,.int .i64 sz,.int .i64 by',.slice t' s' (shut.map (D.int .i64))]:=fun{x}=>by rw[ab _ _ hn1,hb1];rfl
  have q1':∀{x y:Option Box},ap (ap st.boxes st.next x) st.next y 1=some (.cells [.slice t s (l.map Eg.e),.int .i64 to,.int .i64 sz,.int .i64 by',.slice t' s' (shut.map (D.int .i64))]):=fun{x y}=>(ab _ _ hn1).trans ((ab _ _ hn1).trans hb1)
  have q0':∀{x y:Option Box},ap (ap st.boxes st.next x) st.next y 0=some (.cells z):=fun{x y}=>(ab _ _ hn0).trans ((ab _ _ hn0).trans hb0)
  have q2:∀{x y:Option Box},((ap (ap st.boxes st.next x) st.next y) 2).bind Box.cs=some [.slice tk so (out.map Hp.e),.int .i64 arr]:=fun{x y}=>by rw[ab _ _ hn2,ab _ _ hn2,hb2];rfl
  have q2':∀{x y:Option Box},ap (ap st.boxes st.next x) st.next y 2=some (.cells [.slice tk so (out.map Hp.e),.int .i64 arr]):=fun{x y}=>(ab _ _ hn2).trans ((ab _ _ hn2).trans hb2)
  have qh:∀{x:Option Box} {a b c:Int},((ap (ap st.boxes st.next x) st.next (some (.cells [.int .i64 a,.int .i64 b,.int .i64 c]))) st.next).bind Box.cs=some [.int .i64 a,.int .i64 b,.int .i64 c]:=fun{x a b c}=>by rw[ae];rfl
  have hbd:∀a b c:Int,((out.map Hp.e).length+[D.agg [.int .i64 a,.int .i64 b,.int .i64 c]].length)*24≤140737488355328:=fun a b c=>by simp;omega
  have hgo:DU l to by' sz shut (k+1) node now=match nextM l to by' sz shut node now k with
   |none=>none
   |some e=>(DU l to by' sz shut k e.to (aX e now sz)).map (e:: ·):=rfl
  rw[hgo]at hQ hQ2
  clear hgo
  unfold DM at hN
  cases hn:nextM l to by' sz shut node now k with
  |none=>
   rw[hn]at hN hQ2
   have hQ2:=hQ2 rfl
   clear ih hQ hn
   rw[←aa h14,←aa h17,←aa h18,←aa h19,←aa h20,←aa h21,←aa h22]
   refine Hh ?_
   repeat' (first
 |(refine al ?_;first
 |refine aS (s:=(k:Int)) (hs:=hw) ?_
 |refine am (cs':=[_,_,_]) rfl rfl (ae _ _ _) rfl hlim2 rfl rfl rfl ?_
 |(refine oZ rfl rfl rfl hO (.inl rfl) (hbd _ _ _) htl rfl ?_;intro k' st' c1 c2 c3 c4 c5 c6 c7)
 |refine am (cs':=[_,_]) rfl rfl ((congrFun c1 2).trans q2') rfl (c3▸hl2) rfl rfl rfl ?_
 |refine mI ?_
 |refine mB ?_
 |refine mT ?_
 |refine gT ?_
 |refine ai (agg:=true) (d:=.agg [_,_,_,_,_]) rfl rfl rfl q1 hl1 rfl ?_
 |refine ai (agg:=false) (d:=.slice _ _ _) rfl rfl rfl q2 hl2 rfl ?_
 |refine ai (agg:=true) (d:=.agg [_,_,_]) rfl rfl rfl qh hlim2 rfl ?_
 |refine ai (agg:=false) (d:=.int _ _) rfl rfl rfl ((congrArg (Option.bind · Box.cs) (congrFun c1 _)).trans qh) (c3▸hlim2) rfl ?_
 |refine cA rfl (hN _ _) ?_
 |refine pB ?_
 |refine eI ?_
 |refine eB ?_
 |refine eA ?_
 |refine fD ?_
 |refine av rfl rfl ?_
 |refine bg (ys:=[_]) rfl rfl rfl (by decide) rfl ?_
 |refine Hd ?_)
 |refine au (by simp[bB,List.range,List.range.loop,Fl.clash,hN1,hN2]) ?_
 |refine He ?_
 |refine Ir ?_
 |refine ay ?_
 |refine Hg ?_
 |refine aj rfl ?_
 |refine Hf ?_)
   refine Hh ?_
   repeat' (first
 |(refine al ?_;first
 |refine ak rfl ?_
 |refine mB ?_
 |refine ak rfl ?_
 |refine pB ?_
 |refine Hd ?_)
 |refine He ?_
 |refine Ir ?_
 |refine ah rfl ?_
 |refine Hi ?_)
   refine hQ2 _ _ ?_ ?_ ?_ ?_
   ·exact c3
   ·exact(congrFun c1 0).trans q0'
   all_goals rfl
  |some e=>
   rw[hn]at hN hQ hQ2
   simp only at hN hQ hQ2
   have hnext:∀(tk':Tok) (so':Nat) (ρ':Nat→D) (st':Store),st'.lim=st.lim→3≤st'.next→st'.tlim≤st'.ntok→ft st' 3 tk' so' (out.map Hp.e++[.agg [.int .i64 e.id,.int .i64 (mx now e.op),.int .i64 (aX e now sz)]])→st'.boxes 0=some (.cells z)→st'.boxes 1=some (.cells [.slice t s (l.map Eg.e),.int .i64 to,.int .i64 sz,.int .i64 by',.slice t' s' (shut.map (D.int .i64))])→st'.boxes 2=some (.cells [.slice tk' so' (out.map Hp.e++[.agg [.int .i64 e.id,.int .i64 (mx now e.op),.int .i64 (aX e now sz)]]),.int .i64 arr])→
     ρ' 14=.ptr 0 0→ρ' 17=.bool true→ρ' 18=.int .i64 k→ρ' 19=.ptr 1 0→ρ' 20=.ptr 2 0→ρ' 21=.int .i64 e.to→ρ' 22=.int .i64 (aX e now sz)→WC Γ2 (.loop gj) ρ' st' Q:=fun tk' so' ρ' st' g1 g2 g3 g4 g5 g6 g7 k14 k17 k18 k19 k20 k21 k22=>by
    have hm:(out++[ud e now sz]).map Hp.e=out.map Hp.e++[.agg [.int .i64 e.id,.int .i64 (mx now e.op),.int .i64 (aX e now sz)]]:=by rw[List.map_append];rfl
    have hh:∀es,out++[ud e now sz]++aN sz es (aX e now sz)=out++aN sz (e::es) now:=fun es=>by rw[aN,List.append_assoc];rfl
    refine ih (by omega) e.to (aX e now sz) (out++[ud e now sz]) tk' so' ρ' st' (by simp;omega) (by omega) g2 g3 (by rw[hm];exact g4) g5 g6 (by rw[hm];exact g7) k14 k17 k18 k19 k20 k21 k22 Q (fun es he ρ2 st2 tk2 so2 f1 f2 f3 f4=>?_) (fun he ρ2 st2 f1=>hQ2 (by rw[he];rfl) ρ2 st2 (f1.trans g1))
    rw[hh]at f3 f4
    exact hQ (e::es) (by rw[he];rfl) ρ2 st2 tk2 so2 (f1.trans g1) f2 f3 f4
   clear ih hn hQ hQ2
   rw[←aa h14,←aa h17,←aa h18,←aa h19,←aa h20,←aa h21,←aa h22]
   generalize aX e now sz=th at*
   generalize mx now e.op=sd at*
   refine Hh ?_
   repeat' (first
 |(refine al ?_;first
 |refine aS (s:=(k:Int)) (hs:=hw) ?_
 |refine am (cs':=[_,_,_]) rfl rfl (ae _ _ _) rfl hlim2 rfl rfl rfl ?_
 |(refine oZ rfl rfl rfl hO (.inl rfl) (hbd _ _ _) htl rfl ?_;intro k' st' c1 c2 c3 c4 c5 c6 c7)
 |refine am (cs':=[_,_]) rfl rfl ((congrFun c1 2).trans q2') rfl (c3▸hl2) rfl rfl rfl ?_
 |refine mI ?_
 |refine mB ?_
 |refine mT ?_
 |refine gT ?_
 |refine ai (agg:=true) (d:=.agg [_,_,_,_,_]) rfl rfl rfl q1 hl1 rfl ?_
 |refine ai (agg:=false) (d:=.slice _ _ _) rfl rfl rfl q2 hl2 rfl ?_
 |refine ai (agg:=true) (d:=.agg [_,_,_]) rfl rfl rfl qh hlim2 rfl ?_
 |refine ai (agg:=false) (d:=.int _ _) rfl rfl rfl ((congrArg (Option.bind · Box.cs) (congrFun c1 _)).trans qh) (c3▸hlim2) rfl ?_
 |refine cA rfl (hN _ _) ?_
 |refine pB ?_
 |refine eI ?_
 |refine eB ?_
 |refine eA ?_
 |refine fD ?_
 |refine av rfl rfl ?_
 |refine bg (ys:=[_]) rfl rfl rfl (by decide) rfl ?_
 |refine Hd ?_)
 |refine au (by simp[bB,List.range,List.range.loop,Fl.clash,hN1,hN2]) ?_
 |refine He ?_
 |refine Ir ?_
 |refine ay ?_
 |refine Hg ?_
 |refine aj rfl ?_
 |refine Hf ?_)
   refine hnext (.own k') 3 _ _ ?_ ?_ ?_ ?_ ?_ ?_ ?_ ?_ ?_ ?_ ?_ ?_ ?_ ?_
   ·exact c3
   ·show 3≤st'.next
    rw[show st'.next=st.next+1 from c2]
    exact Nat.le_succ_of_le hnx
   ·exact c5
   ·exact .inr ⟨k',rfl,c6,c7,rfl⟩
   ·exact(congrFun c1 0).trans q0'
   ·exact(congrFun c1 1).trans q1'
   all_goals rfl
set_option maxHeartbeats 16000000 in
theorem xN (l:List Eg) (hll:l.length≤900) (fr to now sz by':Int) (shut:List Int) (hsl:shut.length≤1000000) (t t':Tok) (s s':Nat) (hs:s=8∨l=[]) (hs':s'=1∨shut=[]) (es:List Eg) (a:Int) (hB:fq l fr to now sz by' shut=some (es,a)):
  EvX Γ2 14 [.slice t s (l.map Eg.e),.int .i64 fr,.int .i64 to,.int .i64 now,.int .i64 sz,.int .i64 by',.slice t' s' (shut.map (D.int .i64))] (GN Hp.e 3 (aN sz es now) [.int .i64 a] [.bool true]):=by
 refine bR rfl rfl ?_
 have hT:=fun t t'=>(yH l (by omega) fr now sz shut (by omega) t t' s s' hs hs').grow ly
 have hTl:=sA l fr now sz shut
 unfold fq at hB
 generalize ee l fr now sz shut=T at*
 cases ha:cK to T with
 |none=>rw[ha]at hB;cases hB
 |some a'=>
  rw[ha]at hB
  simp only at hB
  have hA:=fun t s h=>yx to T (by omega) a' ha t s h
  by_cases hle:by'<a'
  ·rw[if_pos hle]at hB;cases hB
  ·rw[if_neg hle]at hB
   have hle':a'≤by':=by omega
   have hF:=fun t t'=>A4 l hll fr to now a' sz shut hsl t t' s s' hs hs'
   cases hf:rq l fr to now a' sz shut with
   |none=>rw[hf]at hB;cases hB
   |some n=>
    rw[hf]at hB hF
    simp only at hB
    obtain⟨es',hg,he⟩:=Option.map_eq_some_iff.1 hB
    cases he
    have hn:=yf hf
    repeat' (first
 |(refine al ?_;first
 |refine am (cs':=[_,_]) rfl rfl rfl rfl (Nat.zero_le _) rfl rfl rfl ?_
 |refine am (cs':=[_,_,_,_,_]) rfl rfl rfl rfl (Nat.zero_le _) rfl rfl rfl ?_
 |refine mI ?_
 |refine mB ?_
 |refine mS ?_
 |refine mT ?_
 |refine gF ?_
 |refine cA rfl (hA _ _ hsa) ?_
 |refine cA rfl (hF _ _) ?_
 |(refine cD rfl rfl rfl (hT _ _) rfl ?_;intro ta sa hsa hta)
 |refine pB ?_
 |refine eI ?_
 |refine eB ?_
 |refine bJ (cs:=[_,_]) rfl rfl rfl ?_
 |refine bJ (cs:=[_,_,_,_,_]) rfl rfl rfl ?_
 |refine nT ?_
 |refine av rfl rfl ?_
 |refine Hd ?_)
 |refine He ?_
 |refine Ir ?_
 |refine Hg ?_
 |refine ah rfl ?_
 |refine Hf ?_)
    refine G5 l hll to sz a shut hsl t t' s s' hs hs' a [.slice .isnil 0 [],.int .i64 0] n (by omega) fr now [] .isnil 0 _ _ (by simp;omega) ?_ ?_ ?_ (.inl ⟨.inl rfl,.inr ⟨rfl,rfl⟩⟩) ?_ ?_ ?_ ?_ ?_ ?_ ?_ ?_ ?_ ?_ _ (fun es2 he ρ' st' tk so e1 e2 e3 e4 k14 k17 k20=>?_) (fun he=>by rw[hg]at he;cases he)
    all_goals first|rfl|exact Nat.le_refl _|exact Nat.zero_le _|skip
    rw[hg]at he
    cases he
    rw[List.nil_append]at e3 e4
    have e1':st'.lim=0:=e1
    have hl0:st'.lim≤0:=by omega
    have hl2:st'.lim≤2:=by omega
    have hbx:(st'.boxes 2).bind Box.cs=some [.slice tk so ((aN sz es now).map Hp.e),.int .i64 a]:=by rw[e4];rfl
    rw[←aa k14,←aa k17,←aa k20]
    repeat' (first
 |(refine al ?_;first
 |refine am (cs':=[_,_]) rfl rfl e2 rfl hl0 rfl rfl rfl ?_
 |refine mB ?_
 |refine ai (agg:=true) (d:=.agg [_,_]) rfl rfl rfl hbx hl2 rfl ?_
 |refine nT ?_
 |refine Hd ?_)
 |refine He ?_
 |refine Ir ?_
 |refine Hg ?_
 |refine ah rfl ?_
 |refine an ?_)
    exact AP (.inr rfl) (yJ (q:=0) rfl rfl hl0 rfl) rfl rfl e3 rfl rfl rfl
set_option maxHeartbeats 16000000 in
theorem tA (l:List Eg) (hll:l.length≤900) (fr to now sz by':Int) (shut:List Int) (hsl:shut.length≤1000000) (t t':Tok) (s s':Nat) (hs:s=8∨l=[]) (hs':s'=1∨shut=[]) (hB:fq l fr to now sz by' shut=none):
  EvP Γ2 14 [.slice t s (l.map Eg.e),.int .i64 fr,.int .i64 to,.int .i64 now,.int .i64 sz,.int .i64 by',.slice t' s' (shut.map (D.int .i64))] (.tuple [.agg [.slice .isnil 0 [],.int .i64 0],.bool false]):=by
 refine aJ rfl rfl ?_
 have hT:=fun t t'=>(yH l (by omega) fr now sz shut (by omega) t t' s s' hs hs').grow ly
 have hTl:=sA l fr now sz shut
 have hi:=Bi (l:=l) (fr:=fr) (to:=to) (now:=now) (sz:=sz) (by':=by') (shut:=shut)
 rw[hB]at hi
 generalize ee l fr now sz shut=T at*
 cases ha:cK to T with
 |none=>
  have hA:=fun t s h=>Cz to T (by omega) ha t s h
  repeat' (first
 |(refine al ?_;first
 |refine am (cs':=[_,_]) rfl rfl rfl rfl (Nat.zero_le _) rfl rfl rfl ?_
 |refine ak rfl ?_
 |refine mI ?_
 |refine mB ?_
 |refine mS ?_
 |refine mT ?_
 |refine ak rfl ?_
 |refine cA rfl (hA _ _ hsa) ?_
 |(refine cD rfl rfl rfl (hT _ _) rfl ?_;intro ta sa hsa hta)
 |refine pB ?_
 |refine eI ?_
 |refine eB ?_
 |refine bJ (cs:=[_,_]) rfl rfl rfl ?_
 |refine nT ?_
 |refine av rfl rfl ?_
 |refine Hd ?_)
 |refine He ?_
 |refine Ir ?_
 |refine aj rfl ?_
 |refine an ?_)
  exact⟨.inr rfl,rfl⟩
 |some a'=>
  rw[ha]at hi
  have hle:by'<a':=by simpa using hi
  have hA:=fun t s h=>yx to T (by omega) a' ha t s h
  repeat' (first
 |(refine al ?_;first
 |refine am (cs':=[_,_]) rfl rfl rfl rfl (Nat.zero_le _) rfl rfl rfl ?_
 |refine mI ?_
 |refine mB ?_
 |refine mS ?_
 |refine mT ?_
 |refine gT ?_
 |refine cA rfl (hA _ _ hsa) ?_
 |(refine cD rfl rfl rfl (hT _ _) rfl ?_;intro ta sa hsa hta)
 |refine pB ?_
 |refine eI ?_
 |refine eB ?_
 |refine bJ (cs:=[_,_]) rfl rfl rfl ?_
 |refine nT ?_
 |refine av rfl rfl ?_
 |refine Hd ?_)
 |refine He ?_
 |refine Ir ?_
 |refine aj rfl ?_
 |refine an ?_)
  exact⟨.inr rfl,rfl⟩
end Go.Bes
/-
  Leaving out the edges that are banned.
-/
namespace Go.Bes
open Go.Ev
def Eg.bn (e:Eg) (na:Int) (bans:List Int):Bool:=decide (e.fr=na)&&decide (e.id∈bans)
def BanB (st:Store) (qa qb:Nat) (na:Int) (ti:Tok) (si:Nat) (ids:List Int):Prop:=(st.boxes qa).bind Box.cs=some [.int .i64 na]∧(st.boxes qb).bind Box.cs=some [.slice ti si (ids.map (D.int .i64))]
theorem BanB.of {st st':Store} {qa qb:Nat} {na:Int} {ti:Tok} {si:Nat} {ids:List Int} (h:BanB st qa qb na ti si ids) (h1:st'.boxes qa=st.boxes qa) (h2:st'.boxes qb=st.boxes qb):BanB st' qa qb na ti si ids:=⟨by rw[h1];exact h.1,by rw[h2];exact h.2⟩
theorem BanB.up {st:Store} {qa qb:Nat} {na:Int} {ti:Tok} {si:Nat} {ids:List Int} (h:BanB st qa qb na ti si ids) {q:Nat} {n2:Nat} {tk:Nat→Bool} {nt l1 l2:Nat} {x:Option Box} (hn:qa<q∧qb<q):BanB ⟨ap st.boxes q x,n2,tk,nt,l1,l2⟩ qa qb na ti si ids:=h.of (ab _ _ (Nat.ne_of_lt hn.1)) (ab _ _ (Nat.ne_of_lt hn.2))
theorem Ha {a b n:Nat} (h:a<n∧b<n):a<n+1∧b<n+1:=⟨Nat.lt_succ_of_lt h.1,Nat.lt_succ_of_lt h.2⟩
theorem DY (na:Int) (ids:List Int) (hl:ids.length≤1073741824) (qa qb:Nat) (ti:Tok) (si:Nat) (hsi:si=1∨ids=[]) (st:Store) (h00:BanB st qa qb na ti si ids) (hn0:qa<st.next∧qb<st.next) (e:Eg):EvRO Γ2 50 [e.e,.ptr qa 0,.ptr qb 0] st (.bool (e.bn na ids)):=by
 have hc:=fun t=>(nf e.id ids hl t si hsi).grow ly
 refine dg rfl rfl rfl ?_
 unfold Eg.bn
 by_cases hf:e.fr=na
 ·rw[decide_eq_true hf,Bool.true_and]
  generalize decide (e.id∈ids)=bb at*
  repeat' (first
 |(refine al ?_;first
 |refine cb rfl rfl rfl rfl hf ?_
 |refine mB ?_
 |refine fT (agg:=false) (d:=.int _ _) rfl rfl rfl (eG (Nat.ne_of_lt hn0.1) h00.1) hn0.1 rfl ?_
 |refine fT (agg:=false) (d:=.slice _ _ _) rfl rfl rfl (eG (Nat.ne_of_lt hn0.2) h00.2) hn0.2 rfl ?_
 |refine ai (agg:=false) (d:=.int _ _) rfl rfl rfl (aY rfl) (Nat.le_refl _) rfl ?_
 |refine cA rfl (hc _) ?_
 |refine pB ?_
 |refine cm rfl rfl rfl rfl rfl ?_
 |refine fD ?_
 |refine Hd ?_)
 |refine He ?_
 |refine Ir ?_
 |refine an ?_)
  exact⟨.inr rfl,rfl⟩
 ·rw[decide_eq_false hf,Bool.false_and]
  repeat' (first
 |(refine al ?_;first
 |refine b7 rfl rfl rfl rfl hf ?_
 |refine mB ?_
 |refine ak rfl ?_
 |refine fT (agg:=false) (d:=.int _ _) rfl rfl rfl (eG (Nat.ne_of_lt hn0.1) h00.1) hn0.1 rfl ?_
 |refine ai (agg:=false) (d:=.int _ _) rfl rfl rfl (aY rfl) (Nat.le_refl _) rfl ?_
 |refine ak rfl ?_
 |refine pB ?_
 |refine cm rfl rfl rfl rfl rfl ?_
 |refine fD ?_
 |refine ak rfl ?_
 |refine Hd ?_)
 |refine He ?_
 |refine Ir ?_
 |refine an ?_)
  exact⟨.inr rfl,rfl⟩
def b8 (na:Int) (ids:List Int) (l:List Eg):List Eg:=l.filter (fun e=> !e.bn na ids)
theorem DJ {l:List Eg} {i:Nat} {x:Eg} (h:l[i]?=some x):(l.map Eg.e)[i]?=some (.agg [.int .i64 x.id,.int .i64 x.fr,.int .i64 x.to,.int .i64 x.op,.int .i64 x.en,.int .i64 x.ra,.int .i64 x.ow,.int .i64 x.ro]):=by
 rw[List.getElem?_map,h];rfl
theorem E5 {α:Type} {l pre post:List α} {x:α} (h:l=pre++x::post):l[pre.length]?=some x:=by rw[h];simp
theorem tC {l:List Eg}:∀d∈l.map Eg.e,d.cells.length=8:=fun d hd=>by
 obtain⟨e,_,rfl⟩:=List.mem_map.1 hd
 rfl
theorem FC (na:Int) (ids:List Int) (hl:ids.length≤1073741824) (qa qb:Nat) (ti:Tok) (si:Nat) (hsi:si=1∨ids=[]) (l:List Eg) (hll:l.length≤1073741824) (st:Store) (p c:Nat) (h00:BanB st qa qb na ti si ids) (hn0:qa<st.next∧qb<st.next) (hR:RowAt st p 8 (l.map Eg.e)):∀(post pre:List Eg),l=pre++post→(∀b∈pre,b.bn na ids=false)→
  ∀(ρ:Nat→D) (h0:ρ 0=.rs p 0 8 l.length c) (h1:ρ 1=.func 50 [.ptr qa 0,.ptr qb 0]) (h7:ρ 7=.int .i64 l.length) (h8:ρ 8=.int .i64 pre.length) (Q:X→(Nat→D)→Store→Prop),
  ((∀b∈l,b.bn na ids=false)→∀ρ',Q (.exit 0) ρ' st)→(∀(pre':List Eg) (x:Eg) (post':List Eg),l=pre'++x::post'→(∀b∈pre',b.bn na ids=false)→x.bn na ids=true→∀ρ',ρ' 4=.int .i64 pre'.length→Q .ret ρ' st)→WC Γ2 (.loop cz) ρ st Q:=by
 intro post
 induction post with
 |nil=>
  intro pre hp hn ρ h0 h1 h7 h8 Q hQ hQ2
  rw[List.append_nil]at hp
  subst hp
  rw[←aa h0,←aa h1,←aa h7,←aa h8]
  refine Hh ?_
  repeat' (first
 |(refine al ?_;first
 |refine lF ?_
 |refine Hd ?_)
 |refine He ?_
 |refine Ir ?_
 |refine ah rfl ?_
 |refine Hi ?_)
  exact hQ hn _
 |cons x post ih=>
  intro pre hp hn ρ h0 h1 h7 h8 Q hQ hQ2
  have hv:=DJ (E5 hp)
  have hlen:l.length=pre.length+(post.length+1):=by rw[hp];simp
  have hpr:=DY na ids hl qa qb ti si hsi st h00 hn0
  rw[←aa h0,←aa h1,←aa h7,←aa h8]
  refine Hh ?_
  repeat' (first
 |(refine al ?_;first
 |refine mI ?_
 |refine aB (v:=.func _ _) rfl rfl rfl ?_
 |refine mR ?_
 |refine lT ?_
 |refine aD ?_
 |refine aH (j:=pre.length) rfl rfl hR (Nat.zero_add _) tC hv rfl ?_
 |(refine oO rfl rfl rfl (hpr x) rfl ?_ ?_<;>intro _)
 |refine aA rfl rfl rfl rfl (by first|decide|omega) ?_
 |refine Hd ?_)
 |refine He ?_
 |refine Ir ?_
 |refine Hg ?_
 |refine aj rfl ?_
 |refine ah rfl ?_
 |refine Hf ?_
 |refine an ?_)
  ·rename_i hx
   exact hQ2 pre x post hp hn hx _ rfl
  ·rename_i hx
   refine ih (pre++[x]) (by simp[hp]) (fun b hb=>?_) _ rfl rfl rfl (by rw[List.length_append];rfl) Q hQ hQ2
   rcases List.mem_append.mp hb with hb|hb
   ·exact hn b hb
   ·rw[List.mem_singleton.mp hb]
    exact hx
theorem vm {na:Int} {ids:List Int}:∀{pre pre':List Eg} {x x':Eg} {post post':List Eg},pre++x::post=pre'++x'::post'→(∀b∈pre,b.bn na ids=false)→x.bn na ids=true→(∀b∈pre',b.bn na ids=false)→x'.bn na ids=true→pre=pre'
 |[],[],_,_,_,_,_,_,_,_,_=>rfl
 |[],a::pre',x,x',post,post',h,_,hx,h',_=>by
  simp only[List.nil_append,List.cons_append,List.cons.injEq]at h
  exact absurd hx (by rw[h.1,h' a (by simp)];decide)
 |a::pre,[],x,x',post,post',h,h1,_,_,hx=>by
  simp only[List.nil_append,List.cons_append,List.cons.injEq]at h
  exact absurd hx (by rw[←h.1,h1 a (by simp)];decide)
 |a::pre,a'::pre',x,x',post,post',h,h1,hx,h1',hx'=>by
  simp only[List.cons_append,List.cons.injEq]at h
  rw[h.1,vm h.2 (fun b hb=>h1 b (List.mem_cons_of_mem _ hb)) hx (fun b hb=>h1' b (List.mem_cons_of_mem _ hb)) hx']
theorem wE (na:Int) (ids:List Int) (hl:ids.length≤1073741824) (qa qb:Nat) (ti:Tok) (si:Nat) (hsi:si=1∨ids=[]) (l:List Eg) (hll:l.length≤1073741824) (st:Store) (p c:Nat) (h00:BanB st qa qb na ti si ids) (hn0:qa<st.next∧qb<st.next) (hR:RowAt st p 8 (l.map Eg.e)):
  ((∀b∈l,b.bn na ids=false)∧EvRO Γ2 70 [.rs p 0 8 l.length c,.func 50 [.ptr qa 0,.ptr qb 0]] st (.int .i64 (-1)))∨
  (∃(pre:List Eg) (x:Eg) (post:List Eg),l=pre++x::post∧(∀b∈pre,b.bn na ids=false)∧x.bn na ids=true∧EvRO Γ2 70 [.rs p 0 8 l.length c,.func 50 [.ptr qa 0,.ptr qb 0]] st (.int .i64 pre.length)):=by
 have hstart:∀(Q:X→(Nat→D)→Store→Prop),((∀b∈l,b.bn na ids=false)→∀ρ',Q (.exit 0) ρ' {st with lim:=st.next,tlim:=st.ntok})→(∀(pre':List Eg) (x:Eg) (post':List Eg),l=pre'++x::post'→(∀b∈pre',b.bn na ids=false)→x.bn na ids=true→∀ρ',ρ' 4=.int .i64 pre'.length→Q .ret ρ' {st with lim:=st.next,tlim:=st.ntok})→
   ∀ρ:Nat→D,ρ 0=.rs p 0 8 l.length c→ρ 1=.func 50 [.ptr qa 0,.ptr qb 0]→ρ 7=.int .i64 l.length→ρ 8=.int .i64 (0:Nat)→WC Γ2 (.loop cz) ρ {st with lim:=st.next,tlim:=st.ntok} Q:=
  fun Q a b ρ e0 e1 e7 e8=>FC na ids hl qa qb ti si hsi l hll {st with lim:=st.next,tlim:=st.ntok} p c h00 hn0 (hR.of rfl) l [] rfl (by simp) ρ e0 e1 e7 e8 Q a b
 by_cases hall:∀b∈l,b.bn na ids=false
 ·refine .inl ⟨hall,dg rfl rfl rfl ?_⟩
  repeat' (first
 |(refine al ?_;first
 |refine mI ?_
 |refine mR ?_
 |refine bD rfl rfl rfl ?_
 |refine Hd ?_)
 |refine He ?_
 |refine Ir ?_
 |refine Hf ?_)
  refine hstart _ (fun _ ρ=>?_) (fun pre' x post' he _ hx=>absurd hx (by rw[hall x (by rw[he];simp)];decide)) _ rfl rfl rfl rfl
  repeat' (first
 |(refine al ?_;first
 |refine mI ?_
 |refine Hd ?_)
 |refine He ?_
 |refine Ir ?_
 |refine an ?_)
  exact⟨.inr rfl,rfl⟩
 ·have:∃(pre:List Eg) (x:Eg) (post:List Eg),l=pre++x::post∧(∀b∈pre,b.bn na ids=false)∧x.bn na ids=true:=by
   clear hstart hR hll
   induction l with
   |nil=>exact absurd (by simp) hall
   |cons b l ih=>
    by_cases hb:b.bn na ids=true
    ·exact⟨[],b,l,rfl,by simp,hb⟩
    ·obtain⟨pre,x,post,h1,h2,h3⟩:=ih (fun h=>hall (fun c hc=>by
      rcases List.mem_cons.mp hc with rfl|hc
      ·exact Bool.not_eq_true _▸hb
      ·exact h c hc))
     refine⟨b::pre,x,post,by rw[h1];rfl,fun c hc=>?_,h3⟩
     rcases List.mem_cons.mp hc with rfl|hc
     ·exact Bool.not_eq_true _▸hb
     ·exact h2 c hc
  obtain⟨pre,x,post,he,h1,h2⟩:=this
  refine .inr ⟨pre,x,post,he,h1,h2,dg rfl rfl rfl ?_⟩
  repeat' (first
 |(refine al ?_;first
 |refine mI ?_
 |refine mR ?_
 |refine bD rfl rfl rfl ?_
 |refine Hd ?_)
 |refine He ?_
 |refine Ir ?_
 |refine Hf ?_)
  refine hstart _ (fun h=>absurd h hall) (fun pre' x' post' he' h1' h2' ρ h4=>?_) _ rfl rfl rfl rfl
  rw[←aa h4]
  have:pre'=pre:=vm (he'.symm.trans he) h1' h2' h1 h2
  subst this
  exact⟨.inr rfl,rfl⟩
theorem fg (na:Int) (ids:List Int) (l:List Eg) (x:Eg):b8 na ids (l++[x])=if x.bn na ids=true then b8 na ids l else b8 na ids l++[x]:=by
 unfold b8
 rw[List.filter_append]
 cases h:x.bn na ids<;>simp[h]
theorem F0 (na:Int) (ids:List Int) (hl:ids.length≤1073741824) (qa qb:Nat) (ti:Tok) (si:Nat) (hsi:si=1∨ids=[]) (l:List Eg) (hll:l.length≤1073741824) (p c:Nat) (hp0:p≠qa∧p≠qb):∀(post pre junk:List Eg),l=pre++post→(b8 na ids pre).length+junk.length=pre.length→junk≠[]→
  ∀(ρ:Nat→D) (st:Store) (h00:BanB st qa qb na ti si ids) (hn0:qa<st.next∧qb<st.next) (hR:RowIs st p 8 ((b8 na ids pre++junk++post).map Eg.e)) (h0:ρ 0=.rs p 0 8 l.length c) (h1:ρ 1=.func 50 [.ptr qa 0,.ptr qb 0]) (h5:ρ 5=.int .i64 (b8 na ids pre).length) (h6:ρ 6=.int .i64 pre.length) (Q:X→(Nat→D)→Store→Prop),
  (∀ρ' st' junk',st'.lim=st.lim→RowIs st' p 8 ((b8 na ids l).map Eg.e++List.map Eg.e junk')→(b8 na ids l).length+junk'.length=l.length→ρ' 0=.rs p 0 8 l.length c→ρ' 5=.int .i64 (b8 na ids l).length→Q (.exit 0) ρ' st')→WC Γ2 (.loop Hr) ρ st Q:=by
 intro post
 induction post with
 |nil=>
  intro pre junk hp hj hj0 ρ st h00 hn0 hR h0 h1 h5 h6 Q hQ
  rw[List.append_nil]at hp
  subst hp
  rw[←aa h0,←aa h1,←aa h5,←aa h6]
  refine Hh ?_
  repeat' (first
 |(refine al ?_;first
 |refine mI ?_
 |refine mR ?_
 |refine lF ?_
 |refine bD rfl rfl rfl ?_
 |refine Hd ?_)
 |refine He ?_
 |refine Ir ?_
 |refine ah rfl ?_
 |refine Hi ?_)
  exact hQ _ _ junk rfl (by simpa using hR) hj rfl rfl
 |cons x post ih=>
  intro pre junk hp hj hj0 ρ st h00 hn0 hR h0 h1 h5 h6 Q hQ
  obtain⟨y,junk,rfl⟩:=List.exists_cons_of_ne_nil hj0
  have hlen:l.length=pre.length+(post.length+1):=by rw[hp];simp
  have hjl:(b8 na ids pre).length+(junk.length+1)=pre.length:=by simpa using hj
  have hv:((b8 na ids pre++y::junk++x::post).map Eg.e)[pre.length]?=some (.agg [.int .i64 x.id,.int .i64 x.fr,.int .i64 x.to,.int .i64 x.op,.int .i64 x.en,.int .i64 x.ra,.int .i64 x.ow,.int .i64 x.ro]):=by
   refine DJ ?_
   rw[List.getElem?_append_right (by simp;omega)]
   rw[show pre.length - (b8 na ids pre++y::junk).length=0 by simp;omega]
   rfl
  have hset:((b8 na ids pre++y::junk++x::post).map Eg.e).set (b8 na ids pre).length (.agg [.int .i64 x.id,.int .i64 x.fr,.int .i64 x.to,.int .i64 x.op,.int .i64 x.en,.int .i64 x.ra,.int .i64 x.ow,.int .i64 x.ro])=((b8 na ids pre++[x])++(junk++[x])++post).map Eg.e:=by
   rw[List.append_assoc,List.map_append,List.set_append_right _ _ (by simp)]
   simp[Eg.e]
  have hkl:(b8 na ids pre).length<((b8 na ids pre++y::junk++x::post).map Eg.e).length:=by simp
  have hlim2:st.lim≤st.next:=Nat.le_trans hR.1 (Nat.le_of_lt hR.2.1)
  have hne:p≠st.next:=Nat.ne_of_lt hR.2.1
  rw[←aa h0,←aa h1,←aa h5,←aa h6]
  refine Hh ?_
  repeat' (first
 |(refine al ?_;first
 |refine aA (j:=(b8 na ids pre).length) rfl rfl rfl rfl (by omega) ?_
 |refine mI ?_
 |refine aB (v:=.func _ _) rfl rfl rfl ?_
 |refine mR ?_
 |refine lT ?_
 |refine aD ?_
 |refine aH (j:=pre.length) rfl rfl hR.at (Nat.zero_add _) tC hv rfl ?_
 |refine lP (d:=.agg [_,_,_,_,_,_,_,_]) ?_
 |(refine oO rfl rfl rfl (DY na ids hl qa qb ti si hsi _ ((h00.up hn0).up hn0) (Ha hn0) x) rfl ?_ ?_<;>intro _)
 |(refine ck (j:=(b8 na ids pre).length) rfl rfl rfl (RowIs.of hR hR.1 (Nat.lt_succ_of_lt hR.2.1) ((ab _ _ hne).trans (ab _ _ hne))) (Nat.zero_add _) tC hkl rfl rfl rfl ?_<;>intro st2 e1 e2 e3 e4 e5 hR2 hoth)
 |refine am (cs':=[_,_,_,_,_,_,_,_]) rfl rfl (ae _ _ _) rfl (by first|exact Nat.zero_le _|assumption|exact Nat.le_trans hlim (Nat.zero_le _)|omega) rfl rfl rfl ?_
 |refine nT ?_
 |refine bD rfl rfl rfl ?_
 |refine av rfl rfl ?_
 |refine aA rfl rfl rfl rfl (by first|decide|omega) ?_
 |refine Hd ?_)
 |refine He ?_
 |refine Ir ?_
 |refine Hg ?_
 |refine aj rfl ?_
 |refine ah rfl ?_
 |refine Hf ?_)
  ·rename_i hx
   refine ih (pre++[x]) (y::junk++[x]) (by simp[hp]) (by rw[fg,if_pos hx];simp;omega) (by simp) _ _ ((h00.up hn0).up hn0) (Ha hn0) ?_ rfl rfl (by rw[fg,if_pos hx];rfl) (by rw[List.length_append];rfl) Q ?_
   ·rw[fg,if_pos hx]
    have hR':RowIs st p 8 ((b8 na ids pre++(y::junk++[x])++post).map Eg.e):=by simpa using hR
    exact hR'.of hR.1 (Nat.lt_succ_of_lt hR.2.1) ((ab _ _ hne).trans (ab _ _ hne))
   ·exact fun ρ' st' junk' a b d e f=>hQ ρ' st' junk' a b d e f
  ·rename_i hx
   have hx':¬x.bn na ids=true:=by rw[hx];decide
   rw[hset]at hR2
   have hb0:BanB st2 qa qb na ti si ids:=((h00.up hn0).up hn0).of (hoth qa (Ne.symm hp0.1)) (hoth qb (Ne.symm hp0.2))
   have hn2:qa<st2.next∧qb<st2.next:=by rw[e5];exact Ha hn0
   refine ih (pre++[x]) (junk++[x]) (by simp[hp]) (by rw[fg,if_neg hx'];simp;omega) (by simp) _ st2 hb0 hn2 ?_ rfl rfl (by rw[fg,if_neg hx',List.length_append];rfl) (by rw[List.length_append];rfl) Q ?_
   ·rw[fg,if_neg hx']
    exact hR2
   ·exact fun ρ' st' junk' a b d e f=>hQ ρ' st' junk' (a.trans e1) b d e f
theorem oF {na:Int} {ids:List Int} {l:List Eg} (h:∀b∈l,b.bn na ids=false):b8 na ids l=l:=by
 unfold b8
 rw[List.filter_eq_self]
 exact fun b hb=>by rw[h b hb];rfl
theorem AD (na:Int) (ids:List Int) (l:List Eg):(b8 na ids l).length≤l.length:=List.length_filter_le _ _
theorem uO (na:Int) (ids:List Int) (hl:ids.length≤1073741824) (qa qb:Nat) (ti:Tok) (si:Nat) (hsi:si=1∨ids=[]) (l:List Eg) (hll:l.length≤1073741824) (st:Store) (p:Nat) (hp0:p≠qa∧p≠qb) (h00:BanB st qa qb na ti si ids) (hn0:qa<st.next∧qb<st.next) (hR:RowIs st p 8 (l.map Eg.e)):
  EvRWX Γ2 51 [.rs p 0 8 l.length l.length,.func 50 [.ptr qa 0,.ptr qb 0]] st (fun r st'=>r=.rs p 0 8 (b8 na ids l).length l.length∧RowIs st' p 8 ((b8 na ids l).map Eg.e)∧st'.lim=st.lim):=by
 refine aR rfl rfl ?_
 rcases wE na ids hl qa qb ti si hsi l hll st p l.length h00 hn0 hR.at with⟨hall,hi⟩|⟨pre,x,post,he,h1,h2,hi⟩
 ·repeat' (first
 |(refine al ?_;first
 |refine mI ?_
 |refine mS ?_
 |refine aB (v:=.func _ _) rfl rfl rfl ?_
 |refine mR ?_
 |refine cb rfl rfl rfl rfl (by omega) ?_
 |refine dM rfl rfl rfl hi rfl rfl ?_
 |refine Hd ?_)
 |refine He ?_
 |refine Ir ?_
 |refine aj rfl ?_
 |refine an ?_)
  exact⟨.inr rfl,_,rfl,by rw[oF hall];rfl,by rw[oF hall];exact hR,rfl⟩
 ·have hlen:l.length=pre.length+(post.length+1):=by rw[he];simp
  repeat' (first
 |(refine al ?_;first
 |refine mI ?_
 |refine mS ?_
 |refine aB (v:=.func _ _) rfl rfl rfl ?_
 |refine mR ?_
 |refine b7 rfl rfl rfl rfl (by omega) ?_
 |refine aD ?_
 |refine dM rfl rfl rfl hi rfl rfl ?_
 |refine Hd ?_)
 |refine He ?_
 |refine Ir ?_
 |refine Hg ?_
 |refine ah rfl ?_
 |refine Hf ?_)
  have hkp:b8 na ids (pre++[x])=pre:=by rw[fg,if_pos h2,oF h1]
  refine F0 na ids hl qa qb ti si hsi l hll p l.length hp0 post (pre++[x]) [x] (by simp[he]) (by rw[hkp];simp) (by simp) _ st h00 hn0 (by rw[hkp];simpa[he]using hR) rfl rfl (by rw[hkp];rfl) (by rw[List.length_append];rfl) _ ?_
  intro ρ' st' junk' e1 hR' e2 k0 k5
  have hkl:=AD na ids l
  rw[←aa k0,←aa k5]
  repeat' (first
 |(refine al ?_;first
 |refine nl (j:=(b8 na ids l).length) rfl rfl (by simp[A.ev,ap,bL]) hkl (Nat.le_refl _) rfl ?_
 |(refine qp (j:=(b8 na ids l).length) (zs:=junk'.map Eg.e) rfl rfl hR' (Nat.zero_add _) (by simp) (by simp;omega) tC rfl rfl rfl ?_<;>intro st2 f1 _ _ _ _ hR2 _)
 |refine nr (j:=(b8 na ids l).length) rfl rfl (by simp[A.ev,ap,bL]) hkl rfl ?_
 |refine mI ?_
 |refine mR ?_
 |refine Hd ?_)
 |refine He ?_
 |refine Ir ?_
 |refine an ?_)
  exact⟨.inr rfl,_,rfl,rfl,hR2,f1.trans e1⟩
end Go.Bes
/-
  Plain laws of the best route, for the statements.
-/
namespace Go.Bes
open Go.Ev
variable {l:List Eg} {fr to now by' sz:Int} {shut:List Int}
theorem BestR.route {es:List Eg} {a:Int} (h:BestR l fr to now sz by' shut es a):IsRoute l fr to now sz es a:=⟨(tQ h.at_).1,h.way,h.nd⟩
theorem BestR.routeM {es:List Eg} {a:Int} (h:BestR l fr to now sz by' shut es a):routeM l (es.map Eg.id) fr to now sz=some es:=fh.2 ⟨rfl,a,h.route⟩
theorem yD {a b:Int} (h:a<b):ke a b= -1:=if_pos h
theorem oE (a:Int):ke a a=0:=by unfold ke;rw[if_neg (Int.lt_irrefl _),if_neg (Int.lt_irrefl _)]
theorem Bn {h h':List Hp} {a a':Int} (e:a<a'):db h a h' a'= -1:=by
 unfold db
 rw[yD e]
 rfl
theorem Bu {h h':List Hp} {a:Int} (e:h.length<h'.length):db h a h' a= -1:=by
 unfold db
 rw[oE,yD (by omega)]
 rfl
theorem qN {h h':List Hp} {a:Int} (e:h.length=h'.length):db h a h' a=ce (h.map Hp.id) (h'.map Hp.id):=by
 unfold db
 rw[oE,e,oE]
 simp only[tJ,if_true]
 split
 ·rename_i h0;rw[h0]
 ·rfl
theorem BestR.cmp {es:List Eg} {a:Int} (h:BestR l fr to now sz by' shut es a) {es':List Eg} {u':Int} (hw:IsRoute l fr to now sz es' u') (ho:∀e∈es',e.to∉shut):(db (aN sz es now) a (aN sz es' now) u'= -1)∨(db (aN sz es now) a (aN sz es' now) u'=0∧es=es'∧a=u'):=by
 rcases h.best es' u' hw.way hw.nd ho with h1|⟨rfl,h1|⟨h1,h2|h2⟩⟩
 ·exact .inl (Bn h1)
 ·exact .inl (Bu (by rw[cr,cr];exact h1))
 ·subst h2
  exact .inr ⟨by rw[qN rfl,my],rfl,rfl⟩
 ·exact .inl (by rw[qN (by rw[cr,cr];exact h1),iR,iR];exact h2)
theorem oL:∀a b:List Int,ce a b= - ce b a
 |[],[]=>rfl
 |[],_::_=>rfl
 |_::_,[]=>rfl
 |a::xs,b::ys=>by
  rw[ce,ce]
  by_cases h:a<b
  ·rw[if_pos h,if_neg (by omega),if_pos h]
  ·rw[if_neg h]
   by_cases h':b<a
   ·rw[if_pos h',if_pos h'];rfl
   ·rw[if_neg h',if_neg h',if_neg h,oL xs ys]
theorem BestR.same {es es':List Eg} {a a':Int} (h:BestR l fr to now sz by' shut es a) (h':BestR l fr to now sz by' [] es' a') (ho:∀e∈es',e.to∉shut):es=es'∧a=a':=by
 have h1:=h.best es' a' h'.way h'.nd ho
 have h2:=h'.best es a h.way h.nd (by simp)
 rcases h1 with h1|⟨h1,h3⟩
 ·rcases h2 with h2|⟨h2,_⟩<;>omega
 ·subst h1
  rcases h2 with h2|⟨_,h4⟩
  ·omega
  ·rcases h3 with h3|⟨h3,h5⟩
   ·rcases h4 with h4|⟨h4,_⟩<;>omega
   ·rcases h4 with h4|⟨_,h6⟩
    ·omega
    ·rcases h5 with h5|h5
     ·exact⟨h5,rfl⟩
     ·rcases h6 with h6|h6
      ·exact⟨h6.symm,rfl⟩
      ·rw[oL,h6]at h5
       cases h5
end Go.Bes
/-
  Plain laws of the best way on.
-/
namespace Go.Bes
open Go.Ev
def jK (l:List Eg) (bans:List Int) (n:Int):List Eg:=l.filter (fun e=> !(decide (e.fr=n)&&decide (e.id∈bans)))
theorem mE {l:List Eg} {bans:List Int} {n:Int} {e:Eg}:e∈jK l bans n↔e∈l∧¬(e.fr=n∧e.id∈bans):=by
 unfold jK
 rw[List.mem_filter,Bool.not_eq_true',Bool.and_eq_false_iff,decide_eq_false_iff_not,decide_eq_false_iff_not]
 constructor
 ·rintro⟨h1,h2⟩
  exact⟨h1,fun h=>h2.elim (fun h3=>h3 h.1) (fun h3=>h3 h.2)⟩
 ·rintro⟨h1,h2⟩
  refine⟨h1,?_⟩
  by_cases h3:e.fr=n
  ·exact .inr (fun h4=>h2 ⟨h3,h4⟩)
  ·exact .inl h3
theorem AS {l:List Eg} (h:RL l) (bans:List Int) (n:Int):RL (jK l bans n):=⟨fun e he=>h.1 e (mE.1 he).1,h.2.filter _⟩
def DA (fr:Int) (es:List Eg):Int:=((aL fr es)[(aL fr es).length - 1]?).getD fr
def el (l:List Eg) (root bans:List Int) (fr to now sz by':Int):Option (List Eg×Int):=
 if eF l root fr now sz=none then none else match bG l root fr with
  |none=>none
  |some es=>if(aL fr es).Nodup then(fq (jK l bans (DA fr es)) (DA fr es) to (gf now (aN sz es now)) sz by' (aL fr es)).map (fun p=>(es++p.1,p.2))else none
structure SpurIn (l:List Eg) (root bans:List Int) (fr to now sz by':Int) (es:List Eg) (u:Int):Prop where
 route:IsRoute l fr to now sz es u
 le:u≤by'
 pre:∃r,es.map Eg.id=root++r
 ban:∀k,(es.map Eg.id)[root.length]?=some k→k∉bans
variable {l:List Eg} {root bans:List Int} {fr to now sz by':Int}
theorem nw (n:Int) (a b:List Eg):aL n (a++b)=aL n a++b.map Eg.to:=by simp[aL]
theorem zD {n t m u:Int} {a:List Eg} (h:Way sz l n t a m u) (b:List Eg):aN sz (a++b) t=aN sz a t++aN sz b u:=by
 induction h with
 |nil=>rfl
 |cons he hf hp h ih=>
  rename_i n t m u e es
  show _::aN sz (es++b) _=_::(aN sz es _++_)
  rw[ih]
theorem BX {n t m u:Int} {es:List Eg} (h:Way sz l n t es m u):∀e∈es,e.fr∈aL n es:=by
 induction h with
 |nil=>intro e he;cases he
 |cons he hf hp h ih=>
  rename_i n t m u e es
  intro e' he'
  rcases List.mem_cons.1 he' with rfl|he'
  ·rw[hf];exact List.mem_cons_self
  ·exact List.mem_cons_of_mem _ (ih e' he')
theorem CN (ha:bV l fr now sz) {es:List Eg} {m u:Int} (h:Way sz l fr now es m u):bV l m u sz:=by
 have hr:=h.reach (shut:=[]) (by simp) (.here (fr:=fr) (now:=now))
 have h0:=h.ge
 exact⟨kE ha.1 hr,ha.2.1,⟨by have:=ha.2.2.1.1;omega,s7 ha.2.2.1.2 hr⟩,ha.2.2.2⟩
theorem BW {es:List Eg} {m u:Int} (h:Way sz l fr now es m u):DA fr es=m:=by
 unfold DA
 rw[gv h.chain]
 rfl
theorem qy {es:List Eg} {a:Int} (h:el l root bans fr to now sz by'=some (es,a)):∃es0 m u es1,es=es0++es1∧es0.map Eg.id=root∧bV l fr now sz∧bG l root fr=some es0∧Way sz l fr now es0 m u∧(aL fr es0).Nodup∧fq (jK l bans m) m to u sz by' (aL fr es0)=some (es1,a):=by
 unfold el at h
 split at h
 ·cases h
 ·rename_i hw
  obtain⟨hs,hw⟩:∃x,eF l root fr now sz=some x:=by
   cases hx:eF l root fr now sz with
   |none=>exact absurd hx hw
   |some x=>exact⟨x,rfl⟩
  obtain⟨ha,es0,m,u,h1,h2,h3,rfl⟩:=kr.1 hw
  rw[h1]at h
  simp only at h
  split at h
  ·rename_i hnd
   obtain⟨⟨es1,a1⟩,h4,h5⟩:=Option.map_eq_some_iff.1 h
   cases h5
   rw[BW h3,h3.hops.2]at h4
   exact⟨es0,m,u,es1,rfl,h2,ha,h1,h3,hnd,h4⟩
  ·cases h
theorem rW {es0:List Eg} {m u:Int} (hid:es0.map Eg.id=root) (ha:bV l fr now sz) (hw:Way sz l fr now es0 m u) (hnd:(aL fr es0).Nodup):el l root bans fr to now sz by'=(fq (jK l bans m) m to u sz by' (aL fr es0)).map (fun p=>(es0++p.1,p.2)):=by
 have hs:bG l root fr=some es0:=by rw[←hid];exact ep ha.2.2.2 hw.chain
 have hwk:eF l root fr now sz=some (aN sz es0 now):=kr.2 ⟨ha,es0,m,u,hs,hid,hw,rfl⟩
 unfold el
 rw[hwk,if_neg (by simp),hs]
 simp only
 rw[if_pos hnd,BW hw,hw.hops.2]
theorem og {es:List Eg} {a:Int} (h:el l root bans fr to now sz by'=some (es,a)):SpurIn l root bans fr to now sz by' es a:=by
 obtain⟨es0,m,u,es1,rfl,hid,ha,hs,hw,hnd,hb⟩:=qy h
 have hB:=ml hb
 have hw1:Way sz l m u es1 to a:=hB.way.sub (fun e he=>(mE.1 (hB.way.mem e he)).1)
 refine⟨⟨ha,hw.trans hw1,?_⟩,hB.le,⟨es1.map Eg.id,by rw[List.map_append,hid]⟩,fun k hk=>?_⟩
 ·rw[nw,List.nodup_append]
  refine⟨hnd,(List.nodup_cons.1 hB.nd).2,fun x hx y hy e=>?_⟩
  subst e
  obtain⟨e,he,rfl⟩:=List.mem_map.1 hy
  exact hB.op e he hx
 ·have hl:root.length=es0.length:=by rw[←hid,List.length_map]
  rw[List.map_append,List.getElem?_append_right (by rw[List.length_map];omega),List.length_map,hl,Nat.sub_self]at hk
  cases es1 with
  |nil=>cases hk
  |cons x r=>
   have hk:some x.id=some k:=hk
   cases hk
   cases hB.way with
   |cons he hf hp h=>exact fun hb=>(mE.1 he).2 ⟨hf,hb⟩
theorem p8 {es:List Eg} {u:Int} (h:SpurIn l root bans fr to now sz by' es u):∃es0 m v es1,es=es0++es1∧es0.map Eg.id=root∧Way sz l fr now es0 m v∧(aL fr es0).Nodup∧Way sz (jK l bans m) m v es1 to u∧(aL m es1).Nodup∧(∀e∈es1,e.to∉aL fr es0):=by
 obtain⟨r,hr⟩:=h.pre
 have hl:root.length≤es.length:=by
  have:=congrArg List.length hr
  rw[List.length_map,List.length_append]at this
  omega
 have hsp:es=es.take root.length++es.drop root.length:=(List.take_append_drop _ _).symm
 have hid:(es.take root.length).map Eg.id=root:=by
  rw[List.map_take,hr,List.take_left']
  rfl
 have hbn:=h.ban
 have hnd:=h.route.nd
 have hwy:=h.route.way
 generalize hA:es.take root.length=es0 at*
 generalize hB:es.drop root.length=es1 at*
 rw[hsp]at hbn hnd hwy
 obtain⟨m,v,hw0,hw1⟩:=hwy.split
 rw[nw,List.nodup_append]at hnd
 obtain⟨n1,n2,n3⟩:=hnd
 have hm:m∈aL fr es0:=ua hw0
 have hop:∀e∈es1,e.to∉aL fr es0:=fun e he hin=>n3 _ hin _ (List.mem_map.2 ⟨e,he,rfl⟩) rfl
 have hnd1:(aL m es1).Nodup:=List.nodup_cons.2 ⟨fun hin=>by
  obtain⟨e,he,h2⟩:=List.mem_map.1 hin
  exact hop e he (by rw[h2];exact hm),n2⟩
 refine⟨es0,m,v,es1,hsp,hid,hw0,n1,hw1.sub (fun e he=>?_),hnd1,hop⟩
 refine mE.2 ⟨hw1.mem e he,fun⟨hf,hb⟩=>?_⟩
 have hl0:root.length=es0.length:=by rw[←hid,List.length_map]
 cases es1 with
 |nil=>cases he
 |cons x r'=>
  rcases List.mem_cons.1 he with rfl|he
  ·refine hbn e.id ?_ hb
   rw[List.map_append,List.getElem?_append_right (by rw[List.length_map];omega),List.length_map,hl0,Nat.sub_self]
   rfl
  ·cases hw1 with
   |cons he' hf' hp' h'=>
    have:=BX h' e he
    rw[hf]at this
    exact(List.nodup_cons.1 hnd1).1 this
theorem tM {es:List Eg} {u:Int} (h:SpurIn l root bans fr to now sz by' es u):∃es' a,el l root bans fr to now sz by'=some (es',a):=by
 obtain⟨es0,m,v,es1,rfl,hid,hw0,n1,hw1,n2,hop⟩:=p8 h
 have ha:=h.route.ask
 have hm:=CN ha hw0
 have hm':bV (jK l bans m) m v sz:=⟨hm.1,hm.2.1,hm.2.2.1,AS hm.2.2.2 _ _⟩
 obtain⟨es',a,hb⟩:=ui hm' hw1 hop h.le
 rw[rW hid ha hw0 n1,hb]
 exact⟨_,_,rfl⟩
theorem mw {es:List Eg} {a:Int} (h:el l root bans fr to now sz by'=some (es,a)) {es':List Eg} {u':Int} (h':SpurIn l root bans fr to now sz by' es' u'):db (aN sz es now) a (aN sz es' now) u'= -1∨(db (aN sz es now) a (aN sz es' now) u'=0∧es=es'∧a=u'):=by
 obtain⟨es0,m,u,es1,rfl,hid,ha,hs,hw,hnd,hb⟩:=qy h
 obtain⟨es0',m',v,es1',rfl,hid',hw0,n1,hw1,n2,hop⟩:=p8 h'
 have e0:es0'=es0:=by
  have h1:=ep ha.2.2.2 hw0.chain
  rw[hid',hs]at h1
  cases h1
  rfl
 subst e0
 obtain⟨rfl,rfl⟩:=hw.inj hw0
 have hB:=ml hb
 have hlen:∀x:List Eg,(aN sz (es0'++x) now).length=es0'.length+x.length:=fun x=>by rw[cr,List.length_append]
 rcases hB.best es1' u' hw1 n2 hop with h1|⟨rfl,h1|⟨h1,h2|h2⟩⟩
 ·exact .inl (Bn h1)
 ·exact .inl (Bu (by rw[hlen,hlen];omega))
 ·subst h2
  exact .inr ⟨by rw[qN rfl,my],rfl,rfl⟩
 ·refine .inl ?_
  rw[qN (by rw[hlen,hlen];omega),iR,iR,List.map_append,List.map_append,lZ]
  exact h2
end Go.Bes
