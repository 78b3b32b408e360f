/-
  More functions change nothing.
-/
import Derived.Test.YtjcilbnbciclpaaEvEvX10
set_option linter.unusedVariables false
set_option linter.unusedSimpArgs false
set_option linter.unnecessarySimpa false
namespace Go.Ev
section
variable {Γ Γ2:Nat→Option FD} (hx:∀f fd,Γ f=some fd→Γ2 f=some fd)
include hx in
theorem zq {f:Nat} (h:vU Γ f=true):vU Γ2 f=true:=by
 unfold vU at h ⊢
 cases hf:Γ f with
 |none=>rw[hf]at h;cases h
 |some fd=>rw[hx _ _ hf];rw[hf]at h;exact h
include hx in
theorem zj {f n:Nat} {ds:List D} {st:Store} {x:D×Store} (h:¬vU Γ f=true) (hr:aE Γ n f ds st=some x):¬vU Γ2 f=true:=by
 unfold vU at h ⊢
 cases hf:Γ f with
 |none=>
  cases n with
  |zero=>simp[aE]at hr
  |succ n=>simp[aE,hf]at hr
 |some fd=>rw[hx _ _ hf];rw[hf]at h;exact h
include hx in
theorem yL {n:Nat} {f:Nat} {ds:List D} {st:Store} {x:D×Store} (h:aE Γ n f ds st=some x) (hall:(ds.map D.strip).all D.freeA=true) (m:Nat) (es:List D):az Γ2 m f es=none:=by
 cases n with
 |zero=>simp[aE]at h
 |succ n=>
  cases m with
  |zero=>rfl
  |succ m=>
   simp only[aE]at h
   split at h
   ·rename_i cf hf
    split at h
    ·first|(rw[if_pos hall]at h;cases h)|cases h
    ·rename_i hro
     simp only[az,hx _ _ hf,hro];rfl
   ·rename_i F hf
    simp only[az,hx _ _ hf]
   ·cases h
include hx in
theorem mJ {n:Nat} {f:Nat} {ds:List D} {st:Store} {x:D×Store} (h:aE Γ n f ds st=some x) (m:Nat) (hP:∀f ds r,az Γ (n - 1) f ds=some r→az Γ2 (m - 1) f ds=some r):aV Γ2 m f ds st=none:=by
 cases n with
 |zero=>simp[aE]at h
 |succ n=>
  cases m with
  |zero=>rfl
  |succ m=>
   simp only[aE]at h
   split at h
   ·rename_i cf hf
    split at h
    ·split at h
     ·cases h
     rename_i hnf
     split at h
     ·rename_i hfz
      simp only[Bool.and_eq_true]at hfz
      split at h
      ·rename_i r0 hr0
       split at h
       ·cases h
       rename_i hap
       simp only[aV]
       have hP:=hP _ _ _ hr0
       simp only[Nat.add_sub_cancel]at hP
       rw[if_neg hnf,if_pos hfz.1.1,if_pos hfz.1.2,hP]
       simp only[hap]
       rfl
      ·cases h
     ·cases h
    ·rename_i hro
     simp only[aV]
     split
     ·cases m with
      |zero=>rfl
      |succ m=>simp only[az,hx _ _ hf,hro];rfl
     split
     ·split
      ·cases m with
       |zero=>rfl
       |succ m=>simp only[az,hx _ _ hf,hro];rfl
      ·rfl
     ·simp only[hx _ _ hf,hro];rfl
   ·rename_i F hf
    simp only[aV]
    split
    ·cases m with
     |zero=>rfl
     |succ m=>simp only[az,hx _ _ hf]
    split
    ·split
     ·cases m with
      |zero=>rfl
      |succ m=>simp only[az,hx _ _ hf]
     ·rfl
    ·simp only[hx _ _ hf]
   ·cases h
include hx in
theorem grow (n:Nat):(∀f ds r,az Γ n f ds=some r→az Γ2 n f ds=some r)∧(∀f ds st r,aV Γ n f ds st=some r→aV Γ2 n f ds st=some r)∧(∀f ds st r,aE Γ n f ds st=some r→aE Γ2 n f ds st=some r)∧
  (∀d l ρ st r,aU Γ n d l ρ st=some r→aU Γ2 n d l ρ st=some r)∧(∀l ρ st r,aX Γ n l ρ st=some r→aX Γ2 n l ρ st=some r)∧(∀c ρ st r,aI Γ n c ρ st=some r→aI Γ2 n c ρ st=some r):=by
 induction n using Nat.strongRecOn with
 |_ n IH=>
 cases n with
 |zero=>
  refine⟨fun f ds r h=>by simp[az]at h,fun f ds st r h=>by simp[aV]at h,fun f ds st r h=>by simp[aE]at h,fun d l ρ st r h=>?_,fun l ρ st r h=>?_,fun c ρ st r h=>by simp[aI]at h⟩
  ·cases l with
   |nil=>simpa[aU]using h
   |cons=>simp[aU]at h
  ·cases l with
   |nil=>simpa[aX]using h
   |cons=>simp[aX]at h
 |succ n=>
  obtain⟨iP,iRO,iRW,iO,iD,iC⟩:=IH n (Nat.lt_succ_self n)
  have iQ:∀f ds r,az Γ (n - 1) f ds=some r→az Γ2 (n - 1) f ds=some r:=by
   cases n with
   |zero=>intro f ds r h;simp[az]at h
   |succ k=>exact(IH k (by omega)).1
  refine⟨fun f ds r h=>?_,fun f ds st r h=>?_,fun f ds st r h=>?_,fun d l ρ st r h=>?_,fun l ρ st r h=>?_,fun c ρ st r h=>?_⟩
  ·rw[az]at h ⊢
   split at h
   ·rename_i cf hf
    simp only[hx _ _ hf]
    split at h
    ·rename_i hro
     rw[if_pos hro]
     cases hr:aI Γ n cf.body (enter ds) Store.empty with
     |none=>rw[hr]at h;cases h
     |some y=>rw[iC _ _ _ _ hr];rw[hr]at h;exact h
    ·cases h
   ·rename_i F hf;simp only[hx _ _ hf];exact h
   ·cases h
  ·rw[aV]at h ⊢
   split at h
   ·rename_i ha
    rw[if_pos ha]
    exact iP _ _ _ h
   ·rename_i ha
    rw[if_neg ha]
    split at h
    ·rename_i hse
     rw[if_pos hse]
     split at h
     ·rename_i hse2
      rw[if_pos hse2]
      cases hp:az Γ n f (ds.map (seen st))with
      |none=>rw[hp]at h;cases h
      |some y=>rw[iP _ _ _ hp];rw[hp]at h;exact h
     ·cases h
    rename_i hse
    rw[if_neg hse]
    split at h
    ·rename_i cf hf
     simp only[hx _ _ hf]
     split at h
     ·rename_i hro
      rw[if_pos hro]
      cases hr:aI Γ n cf.body (enter (ds.map D.strip)) {st with lim:=st.next,tlim:=st.ntok}with
      |none=>rw[hr]at h;cases h
      |some y=>rw[iC _ _ _ _ hr];rw[hr]at h;exact h
     ·cases h
    ·rename_i F hf
     simp only[hx _ _ hf]
     exact h
    ·cases h
  ·rw[aE]at h ⊢
   split at h
   ·rename_i cf hf
    simp only[hx _ _ hf]
    split at h
    ·rename_i hro
     rw[if_pos hro]
     split at h
     ·cases h
     rename_i hnf
     rw[if_neg hnf]
     split at h
     ·rename_i hfz
      rw[if_pos hfz]
      cases hp:az Γ n f (ds.map (seen st))with
      |none=>rw[hp]at h;cases h
      |some y=>rw[iP _ _ _ hp];rw[hp]at h;exact h
     ·cases h
    ·rename_i hro
     rw[if_neg hro]
     cases hr:aI Γ n cf.body (enter (ds.map D.strip)) st with
     |none=>rw[hr]at h;cases h
     |some y=>rw[iC _ _ _ _ hr];rw[hr]at h;exact h
   ·rename_i F hf
    simp only[hx _ _ hf]
    exact h
   ·cases h
  ·cases l with
   |nil=>simpa[aU]using h
   |cons o l=>
    rw[aU]at h ⊢
    split at h
    ·cases h
    ·exact iO _ _ _ _ _ h
    ·rename_i hgx
     clear hgx
     obtain⟨dst,gd,mv,op⟩:=o
     simp only at h ⊢
     cases op
     case call fa args=>
      simp only at h ⊢
      cases hfa:fa.ev ρ with
      |func f caps=>
       rw[hfa]at h
       simp only at h ⊢
       cases hro:aV Γ n f (args.map (·.ev ρ)++caps) st with
       |some r1=>
        rw[iRO _ _ _ _ hro]
        rw[hro]at h
        simp only at h ⊢
        split at h
        ·rename_i d' st' he
         try rw[he]
         exact iO _ _ _ _ _ h
        ·cases h
       |none=>
        rw[hro]at h
        simp only at h
        cases d with
        |true=>simp at h
        |false=>
         simp only[Bool.false_eq_true,if_false]at h
         cases hrw:aE Γ n f (args.map (·.ev ρ)++caps) st with
         |none=>rw[hrw]at h;cases h
         |some y=>
          rw[mJ hx hrw n iQ]
          simp only[Bool.false_eq_true,if_false]
          rw[iRW _ _ _ _ hrw]
          rw[hrw]at h
          exact iO _ _ _ _ _ h
      |_=>rw[hfa]at h;cases h
     all_goals
      simp only at h ⊢
      split at h
      ·rename_i d' st' he
       try rw[he]
       exact iO _ _ _ _ _ h
      ·cases h
  ·cases l with
   |nil=>simpa[aX]using h
   |cons o l=>
    rw[aX]at h ⊢
    have hD:∀(ρ':Nat→D) (st':Store) (fl:Fl),(match aX Γ n l ρ' st' with|some (a,b,c)=>some (a,b,fl::c)|none=>none)=some r→(match aX Γ2 n l ρ' st' with|some (a,b,c)=>some (a,b,fl::c)|none=>none)=some r:=fun ρ' st' fl h=>by
     cases hr:aX Γ n l ρ' st' with
     |none=>rw[hr]at h;cases h
     |some y=>rw[iD _ _ _ _ hr];rw[hr]at h;exact h
    split at h
    ·cases h
    ·exact hD _ _ _ h
    ·rename_i hgx
     clear hgx
     obtain⟨dst,gd,mv,op⟩:=o
     simp only at h ⊢
     cases op
     case call fa args=>
      simp only at h ⊢
      cases hfa:fa.ev ρ with
      |func f caps=>
       rw[hfa]at h
       simp only at h ⊢
       by_cases ha:((args.map (·.ev ρ)++caps).map D.strip).all D.freeA=true
       ·rw[if_pos ha]at h ⊢
        cases hp:az Γ n f ((args.map (·.ev ρ)++caps).map D.strip)with
        |none=>
         rw[hp]at h
         simp only at h
         cases hrw:aE Γ n f (args.map (·.ev ρ)++caps) st with
         |none=>rw[hrw]at h;cases h
         |some y=>
          rw[yL hx hrw ha n]
          simp only
          rw[iRW _ _ _ _ hrw]
          rw[hrw]at h
          exact hD _ _ _ h
        |some r1=>
         rw[iP _ _ _ hp]
         rw[hp]at h
         simp only at h ⊢
         by_cases hf:av r1=true
         ·rw[if_pos hf]at h ⊢
          by_cases hw:(mv&&(r1.free&& !cS r1))=true
          ·rw[if_pos hw]at h ⊢
           exact hD _ _ _ h
          ·rw[if_neg hw]at h;cases h
         ·rw[if_neg hf]at h ⊢
          by_cases hw:(mv&&cS r1)=true
          ·rw[if_pos hw]at h ⊢
           exact hD _ _ _ h
          ·rw[if_neg hw]at h ⊢
           exact hD _ _ _ h
       ·rw[if_neg ha]at h ⊢
        by_cases hmv:mv=true
        ·rw[if_pos hmv]at h ⊢
         cases hcut:jM (args.map (·.ev ρ)++caps)with
         |none=>
          rw[hcut]at h
          simp only at h ⊢
          cases hcn:uI (args.map (·.ev ρ)++caps)with
          |none=>rw[hcn]at h;cases h
          |some y=>
           obtain⟨p,ps⟩:=y
           rw[hcn]at h
           simp only at h ⊢
           cases hp:aE Γ n f (args.map (·.ev ρ)++caps) (lZ st p ps)with
           |none=>rw[hp]at h;cases h
           |some y=>
            obtain⟨r1,C1⟩:=y
            rw[iRW _ _ _ _ hp]
            rw[hp]at h
            simp only at h ⊢
            by_cases hf:gZ r1=true
            ·rw[if_pos hf]at h ⊢
             exact hD _ _ _ h
            ·rw[if_neg hf]at h;cases h
         |some y=>
          obtain⟨p,ps⟩:=y
          rw[hcut]at h
          simp only at h ⊢
          by_cases hro:vU Γ f=true
          ·rw[if_pos hro]at h
           rw[if_pos (zq hx hro)]
           by_cases hc:((((args.map (·.ev ρ)++caps).map (seen st)).all D.freeA&&eX st (args.map (·.ev ρ)++caps))=true)
           ·rw[if_pos hc]at h ⊢
            cases hp:az Γ n f ((args.map (·.ev ρ)++caps).map (seen st))with
            |none=>rw[hp]at h;cases h
            |some r1=>
             rw[iP _ _ _ hp]
             rw[hp]at h
             simp only at h ⊢
             by_cases hf:(r1.free&& !cS r1)=true
             ·rw[if_pos hf]at h ⊢
              exact hD _ _ _ h
             ·rw[if_neg hf]at h;cases h
           ·rw[if_neg hc]at h;cases h
          ·rw[if_neg hro]at h
           by_cases hc:fN st p ps=true
           ·rw[if_pos hc]at h
            cases hp:aE Γ n f (args.map (·.ev ρ)++caps) (jd st p ps)with
            |none=>rw[hp]at h;cases h
            |some y=>
             obtain⟨r1,C1⟩:=y
             rw[if_neg (zj hx hro hp),if_pos hc,iRW _ _ _ _ hp]
             rw[hp]at h
             simp only at h ⊢
             by_cases hf:kN r1 p=true
             ·rw[if_pos hf]at h ⊢
              exact hD _ _ _ h
             ·rw[if_neg hf]at h;cases h
           ·rw[if_neg hc]at h;cases h
        rw[if_neg hmv]at h ⊢
        cases hro:aV Γ n f (args.map (·.ev ρ)++caps) st with
        |some r1=>
         rw[iRO _ _ _ _ hro]
         rw[hro]at h
         simp only at h ⊢
         by_cases hf:av r1=true
         ·rw[if_pos hf]at h;cases h
         ·rw[if_neg hf]at h ⊢
          exact hD _ _ _ h
        |none=>
         rw[hro]at h
         simp only at h
         cases hrw:aE Γ n f (args.map (·.ev ρ)++caps) st with
         |none=>rw[hrw]at h;cases h
         |some y=>
          rw[mJ hx hrw n iQ]
          simp only
          rw[iRW _ _ _ _ hrw]
          rw[hrw]at h
          exact hD _ _ _ h
      |_=>rw[hfa]at h;cases h
     all_goals
      simp only at h ⊢
      split at h
      ·rename_i d' st' a b he
       try rw[he]
       exact hD _ _ _ h
      ·cases h
  ·rw[aI.eq_def]at h ⊢
   simp only at h ⊢
   cases c with
   |skip|exit|ret|goto|bad=>exact h
   |ops d l=>
    simp only at h ⊢
    cases hr:aU Γ n d l ρ st with
    |none=>rw[hr]at h;cases h
    |some y=>rw[iO _ _ _ _ _ hr];rw[hr]at h;exact h
   |draw bef l=>
    simp only at h ⊢
    cases hr:aX Γ n l ρ st with
    |none=>rw[hr]at h;cases h
    |some y=>rw[iD _ _ _ _ hr];rw[hr]at h;exact h
   |drawA bef l=>
    simp only at h ⊢
    cases hr:aX Γ n (eW st.next l) ρ (st.ahead l)with
    |none=>rw[hr]at h;cases h
    |some y=>rw[iD _ _ _ _ hr];rw[hr]at h;exact h
   |seq a b=>
    simp only at h ⊢
    cases hr:aI Γ n a ρ st with
    |none=>rw[hr]at h;cases h
    |some y=>
     rw[iC _ _ _ _ hr]
     rw[hr]at h
     obtain⟨x,ρ1,st1⟩:=y
     cases x with
     |normal=>exact iC _ _ _ _ h
     |_=>exact h
   |cond x a b=>
    simp only at h ⊢
    split at h
    ·exact iC _ _ _ _ h
    ·cases h
   |block id b=>
    simp only at h ⊢
    cases hr:aI Γ n b ρ st with
    |none=>rw[hr]at h;cases h
    |some y=>rw[iC _ _ _ _ hr];rw[hr]at h;exact h
   |loop b=>
    simp only at h ⊢
    cases hr:aI Γ n b ρ st with
    |none=>rw[hr]at h;cases h
    |some y=>
     rw[iC _ _ _ _ hr]
     rw[hr]at h
     obtain⟨x,ρ1,st1⟩:=y
     cases x with
     |normal=>exact iC _ _ _ _ h
     |_=>exact h
   |scope c l rest=>
    simp only at h ⊢
    cases hr:aI Γ n c ρ st with
    |none=>rw[hr]at h;cases h
    |some y=>
     rw[iC _ _ _ _ hr]
     rw[hr]at h
     obtain⟨x,ρ1,st1⟩:=y
     cases x with
     |goto l'=>
      simp only at h ⊢
      split at h
      ·rename_i hl
       rw[if_pos hl]
       exact iC _ _ _ _ h
      ·cases h
     |_=>exact h
   |again l rest=>
    simp only at h ⊢
    cases hr:aI Γ n rest ρ st with
    |none=>rw[hr]at h;cases h
    |some y=>
     rw[iC _ _ _ _ hr]
     rw[hr]at h
     obtain⟨x,ρ1,st1⟩:=y
     cases x with
     |goto l'=>
      simp only at h ⊢
      split at h
      ·rename_i hl
       rw[if_pos hl]
       exact iC _ _ _ _ h
      ·cases h
     |_=>exact h
include hx in
theorem EvP.grow {f:Nat} {ds:List D} {r:D} (h:EvP Γ f ds r):EvP Γ2 f ds r:=by
 obtain⟨N,hN⟩:=h
 exact⟨N,fun n hn=>(Go.Ev.grow hx n).1 _ _ _ (hN n hn)⟩
include hx in
theorem EvX.grow {f:Nat} {ds:List D} {Pr:D→Prop} (h:EvX Γ f ds Pr):EvX Γ2 f ds Pr:=by
 obtain⟨r,h1,h2⟩:=h
 exact⟨r,h1,EvP.grow hx h2⟩
include hx in
theorem EvRO.grow {f:Nat} {ds:List D} {st:Store} {r:D} (h:EvRO Γ f ds st r):EvRO Γ2 f ds st r:=by
 obtain⟨N,hN⟩:=h
 exact⟨N,fun n hn=>(Go.Ev.grow hx n).2.1 _ _ _ _ (hN n hn)⟩
include hx in
theorem EvRW.grow {f:Nat} {ds:List D} {st st':Store} {r:D} (h:EvRW Γ f ds st r st'):EvRW Γ2 f ds st r st':=by
 obtain⟨N,hN⟩:=h
 exact⟨N,fun n hn=>⟨mJ hx (hN n hn).2 n (Go.Ev.grow hx (n - 1)).1,(Go.Ev.grow hx n).2.2.1 _ _ _ _ (hN n hn).2⟩⟩
end
end Go.Ev
