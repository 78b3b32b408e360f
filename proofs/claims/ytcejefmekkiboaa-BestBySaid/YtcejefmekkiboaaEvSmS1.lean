/-
  What code comes to, whatever it draws: rules to run it by hand. No evaluator's run is asked for: what stands here is said of the program's own code.
-/
import Derived.Test.YtcejefmekkiboaaEvEvZ
set_option linter.unusedVariables false
set_option linter.unusedSimpArgs false
set_option linter.unnecessarySimpa false
namespace Go.Sm
open Go.Ev
open Go.RowKit
structure Kn (P:Program) (Γ:Nat→Option FD):Prop where
 known:Known P Γ
 mixed:P.follows .mixedOrders=true
section
variable (Γ:Nat→Option FD)
def EvN (f:Nat) (ds:List D) (Pr:D→Prop):Prop:=∀P,Kn P Γ→(∀d∈ds,d.freeA=true∧d.strip=d)→∀{B:Nat} {w:World} {g:Ghost} {st:Store} {vs:Array Value},Rel B w g st→VRs w g ds vs.toList→Hj P f∧Calls P f vs w (fun e w'=>∃r,Pr r∧ei B w g st r e w')
def EvP (f:Nat) (ds:List D) (r:D):Prop:=∀P,Kn P Γ→(∀d∈ds,d.freeA=true∧d.strip=d)→∀{B:Nat} {w:World} {g:Ghost} {st:Store} {vs:Array Value},Rel B w g st→VRs w g ds vs.toList→Hj P f∧Calls P f vs w (ei B w g st r)
def Es (f:Nat) (ds:List D) (st:Store) (Pr:D→Prop):Prop:=∀P,Kn P Γ→∀{B:Nat} {w:World} {g:Ghost} {vs:Array Value},Rel B w g st→VRs w g ds vs.toList→Hj P f∧Calls P f vs w (fun e w'=>∃r,Pr r∧ei B w g st r e w')
def EvRO (f:Nat) (ds:List D) (st:Store) (r:D):Prop:=∀P,Kn P Γ→∀{B:Nat} {w:World} {g:Ghost} {vs:Array Value},Rel B w g st→VRs w g ds vs.toList→Hj P f∧Calls P f vs w (ei B w g st r)
def FO (f:Nat) (ds:List D) (st:Store) (Pr:D→Store→Prop):Prop:=∀P,Kn P Γ→∀{B:Nat} {w:World} {g:Ghost} {vs:Array Value},Rel B w g st→VRs w g ds vs.toList→Hj P f∧Calls P f vs w (fun e w'=>∃r st',Pr r st'∧kL B w g st r st' e w')
def EvRW (f:Nat) (ds:List D) (st:Store) (r:D) (st':Store):Prop:=∀P,Kn P Γ→∀{B:Nat} {w:World} {g:Ghost} {vs:Array Value},Rel B w g st→VRs w g ds vs.toList→Hj P f∧Calls P f vs w (kL B w g st r st')
end
def PostQ (B:Nat) (w:World) (g:Ghost) (st:Store) (nt:Nat) (a:Act) (Q:X→(Nat→D)→Store→Prop):Exit→Act→World→Prop:=fun e a' w'=>∃x ρ' st',Q x ρ' st'∧Post B w g st nt a x ρ' st' e a' w'
theorem PostQ.from{B nt:Nat} {w w1 w':World} {g g1:Ghost} {st st1:Store} {a a1 a':Act} {Q:X→(Nat→D)→Store→Prop} {e:Exit} (hrel:Rel B w g st) (hs:Step B w g st w1 g1 st1) (hd:a1.defers=a.defers) (h:PostQ B w1 g1 st1 nt a1 Q e a' w'):PostQ B w g st nt a Q e a' w':=by
 obtain⟨x,ρ',st',h1,h2⟩:=h
 exact⟨x,ρ',st',h1,h2.from hrel hs hd⟩
def inLoopW (P:Program) (c:Code) (Q:Exit→Act→World→Prop) (a:Act) (w:World):Prop:=
 ∀(b:Frame) (k:List Item) (cs:List Frame),∃e a' w',Q e a' w'∧Arrives P (lone (b.at a (.code c::.inLoop c::k)) cs w) b k cs e a' w'
theorem inLoopW.wp {P:Program} {c:Code} {Q:Exit→Act→World→Prop} {a:Act} {w:World} (h:inLoopW P c Q a w):(Code.loop c).wp P Q a w:=fun b k cs=>by
 obtain⟨e,a',w',hq,harr⟩:=h b k cs
 exact⟨e,a',w',hq,.of_steps (.one step_loop) harr⟩
theorem inLoopW.round {P:Program} {c:Code} {Q:Exit→Act→World→Prop} {a:Act} {w:World} (h:c.wp P (fun e a1 w1=>match e with| .normal=>inLoopW P c Q a1 w1|e=>Q e a1 w1) a w):inLoopW P c Q a w:=fun b k cs=>by
 obtain⟨e,a₁,w₁,hq,harr⟩:=h b (.inLoop c::k) cs
 cases e with
 |normal=>
  obtain⟨e₂,a₂,w₂,hq₂,harr₂⟩:=hq b k cs
  exact⟨e₂,a₂,w₂,hq₂,.of_steps (Steps.trans harr (.one step_inLoop)) harr₂⟩
 |exit id=>exact⟨_,a₁,w₁,hq,.pass (x:=.inLoop c) rfl (fun _ _=>.inl (by simp)) harr⟩
 |goto l=>exact⟨_,a₁,w₁,hq,.pass (x:=.inLoop c) rfl (fun _ _=>.inl (by simp)) harr⟩
 |ret=>exact⟨_,a₁,w₁,hq,.pass (x:=.inLoop c) rfl (fun _ _=>.inl (by simp)) harr⟩
 |panic ch=>exact⟨_,a₁,w₁,hq,.pass (x:=.inLoop c) rfl (fun _ _=>.inl (by simp)) harr⟩
 |outgrown=>exact⟨_,a₁,w₁,hq,.pass (x:=.inLoop c) rfl (fun _ _=>.inl (by simp)) harr⟩
def inScopeW (P:Program) (c rest:Code) (Q:Exit→Act→World→Prop) (a:Act) (w:World):Prop:=
 ∀(b:Frame) (k:List Item) (cs:List Frame),∃e a' w',Q e a' w'∧Arrives P (lone (b.at a (.code rest::.inScope c::k)) cs w) b k cs e a' w'
theorem inScopeW.go {P:Program} {c r0 rest:Code} {l:Nat} {Q:Exit→Act→World→Prop} {a:Act} {w:World} (hf:findLabel c l=some rest) (h:r0.wp P (fun e a1 w1=>match e with| .goto l'=>l'=l∧inScopeW P c rest Q a1 w1|e=>Q e a1 w1) a w):inScopeW P c r0 Q a w:=fun b k cs=>by
 have hg:gotoIn l (.inScope c::k)=some (.code rest::.inScope c::k):=by simp[gotoIn,hf]
 obtain⟨e,a₁,w₁,hq,harr⟩:=h b (.inScope c::k) cs
 cases e with
 |normal=>exact⟨.normal,a₁,w₁,hq,Steps.trans harr (.one step_inScope)⟩
 |exit id=>exact⟨.exit id,a₁,w₁,hq,fun k' hk=>harr k' (by simp[exitTo,hk])⟩
 |goto l'=>
  obtain⟨rfl,hq⟩:=hq
  obtain⟨e₂,a₂,w₂,hq₂,harr₂⟩:=hq b k cs
  exact⟨e₂,a₂,w₂,hq₂,.of_steps (harr _ hg) harr₂⟩
 |ret=>exact⟨_,a₁,w₁,hq,harr⟩
 |panic ch=>exact⟨_,a₁,w₁,hq,harr⟩
 |outgrown=>exact⟨_,a₁,w₁,hq,harr⟩
theorem inScopeW.wp {P:Program} {c:Code} {Q:Exit→Act→World→Prop} {a:Act} {w:World} (h:inScopeW P c c Q a w):(Code.scope c).wp P Q a w:=fun b k cs=>by
 obtain⟨e,a',w',hq,harr⟩:=h b k cs
 exact⟨e,a',w',hq,.of_steps (.one step_scope) harr⟩
def WC (Γ:Nat→Option FD) (c':C) (ρ:Nat→D) (st:Store) (Q:X→(Nat→D)→Store→Prop):Prop:=∀P,Kn P Γ→∀{mu:List Nat} {nt B:Nat} {w:World} {g:Ghost} {a:Act},EnvR w g ρ a.tmps→nt≤a.tmps.size→Rel B w g st→
 match c' with
 | .loop b'=>∀c,aV P mu nt c=some b'→inLoopW P c (PostQ B w g st nt a Q) a w
 | .again l r'=>∀c rest,aV P mu nt rest=some r'→findLabel c l=some rest→inScopeW P c rest (PostQ B w g st nt a Q) a w
 |c'=>∀c,aV P mu nt c=some c'→c.wp P (PostQ B w g st nt a Q) a w
section
variable {Γ:Nat→Option FD} {ρ:Nat→D} {st:Store} {Q:X→(Nat→D)→Store→Prop}
theorem xh {P:Program} {mu:List Nat} {nt:Nat} {c:Code} {b':C} (h:aV P mu nt c=some (.loop b')):∃b,c=.loop b∧aV P mu nt b=some b':=by
 cases c with
 |loop b=>
  simp only[aV,Option.map_eq_some_iff]at h
  obtain⟨x,h1,h2⟩:=h
  cases h2
  exact⟨b,rfl,h1⟩
 |_=>
  exfalso
  simp only[aV]at h
  (repeat' split at h)<;>simp at h
theorem wK {P:Program} {mu:List Nat} {nt:Nat} {c:Code} {l:Nat} {r:C} (h:aV P mu nt c=some (.again l r)):False:=by
 cases c with
 |_=>
  simp only[aV]at h
  (repeat' split at h)<;>simp at h
theorem WC.run {c':C} (h:WC Γ c' ρ st Q) {P:Program} (hk:Kn P Γ) {mu:List Nat} {nt B:Nat} {w:World} {g:Ghost} {a:Act} (he:EnvR w g ρ a.tmps) (hn:nt≤a.tmps.size) (hrel:Rel B w g st) {c:Code} (hc:aV P mu nt c=some c'):c.wp P (PostQ B w g st nt a Q) a w:=by
 have h:=@h P hk mu nt B w g a he hn hrel
 cases c' with
 |loop b'=>
  obtain⟨b,rfl,hb⟩:=xh hc
  exact(h b hb).wp
 |again l r=>exact(wK hc).elim
 |_=>exact h c hc
theorem inLoopW.mono {P:Program} {c:Code} {Q Q':Exit→Act→World→Prop} {a:Act} {w:World} (h:inLoopW P c Q a w) (hq:∀e a w,Q e a w→Q' e a w):inLoopW P c Q' a w:=fun b k cs=>by
 obtain⟨e,a',w',h1,h2⟩:=h b k cs
 exact⟨e,a',w',hq _ _ _ h1,h2⟩
theorem inScopeW.mono {P:Program} {c r:Code} {Q Q':Exit→Act→World→Prop} {a:Act} {w:World} (h:inScopeW P c r Q a w) (hq:∀e a w,Q e a w→Q' e a w):inScopeW P c r Q' a w:=fun b k cs=>by
 obtain⟨e,a',w',h1,h2⟩:=h b k cs
 exact⟨e,a',w',hq _ _ _ h1,h2⟩
theorem WC.mono {c:C} {Q':X→(Nat→D)→Store→Prop} (h:WC Γ c ρ st Q) (hq:∀x ρ st,Q x ρ st→Q' x ρ st):WC Γ c ρ st Q':=by
 intro P hk mu nt B w g a he hn hrel
 have h:=@h P hk mu nt B w g a he hn hrel
 have hm:∀e a' w',PostQ B w g st nt a Q e a' w'→PostQ B w g st nt a Q' e a' w':=fun e a' w' ⟨x,ρ',st',h1,h2⟩=>⟨x,ρ',st',hq _ _ _ h1,h2⟩
 cases c with
 |loop b'=>exact fun c hc=>(h c hc).mono hm
 |again l r=>exact fun c rest hc hf=>(h c rest hc hf).mono hm
 |_=>exact fun c hc=>wp_mono (h c hc) hm
theorem uV {B nt:Nat} {w:World} {g:Ghost} {a:Act} {x:X} (hq:Q x ρ st) (he:EnvR w g ρ a.tmps) (hn:nt≤a.tmps.size) (hrel:Rel B w g st):PostQ B w g st nt a Q x.toExit a w:=⟨x,ρ,st,hq,rfl,rfl,hn,g,he,.refl hrel⟩
theorem Hg (h:Q .normal ρ st):WC Γ .skip ρ st Q:=by
 intro P hk mu nt B w g a he hn hrel c hc
 cases c with
 |skip=>exact wp_skip (uV h he hn hrel)
 |label l=>exact wp_label (uV h he hn hrel)
 |_=>
  exfalso
  simp only[aV]at hc
  (repeat' split at hc)<;>simp at hc
theorem Hi {id:Nat} (h:Q (.exit id) ρ st):WC Γ (.exit id) ρ st Q:=by
 intro P hk mu nt B w g a he hn hrel c hc
 cases c with
 |exit id'=>
  simp only[aV,Option.some.injEq,C.exit.injEq]at hc
  subst hc
  exact wp_exit (uV (x:=.exit id') h he hn hrel)
 |_=>
  exfalso
  simp only[aV]at hc
  (repeat' split at hc)<;>simp at hc
theorem an (h:Q .ret ρ st):WC Γ .ret ρ st Q:=by
 intro P hk mu nt B w g a he hn hrel c hc
 cases c with
 |ret=>exact wp_ret (uV (x:=.ret) h he hn hrel)
 |_=>
  exfalso
  simp only[aV]at hc
  (repeat' split at hc)<;>simp at hc
theorem yn {l:Nat} (h:Q (.goto l) ρ st):WC Γ (.goto l) ρ st Q:=by
 intro P hk mu nt B w g a he hn hrel c hc
 cases c with
 |goto l'=>
  simp only[aV,Option.some.injEq,C.goto.injEq]at hc
  subst hc
  exact wp_goto (uV (x:=.goto l') h he hn hrel)
 |_=>
  exfalso
  simp only[aV]at hc
  (repeat' split at hc)<;>simp at hc
theorem He {a b:C} (h:WC Γ a ρ st (fun x ρ1 st1=>match x with| .normal=>WC Γ b ρ1 st1 Q|x=>Q x ρ1 st1)):WC Γ (.seq a b) ρ st Q:=by
 intro P hk mu nt B w g ac he hn hrel c hc
 cases c with
 |seq c1 c2=>
  simp only[aV]at hc
  split at hc<;>try contradiction
  rename_i x1 x2 h1 h2
  cases hc
  refine wp_seq (wp_mono (h.run hk he hn hrel h1) (fun e a1 w1 hp=>?_))
  obtain⟨x,ρ1,st1,hq,k1,k2,k3,g1,k4,k5⟩:=hp
  subst k1
  cases x with
  |normal=>exact wp_mono (WC.run hq hk k4 k3 k5.rel h2) (fun e a' w' hp=>hp.from hrel k5 k2)
  |exit id=>exact⟨_,ρ1,st1,hq,rfl,k2,k3,g1,k4,k5⟩
  |ret=>exact⟨_,ρ1,st1,hq,rfl,k2,k3,g1,k4,k5⟩
  |goto l=>exact⟨_,ρ1,st1,hq,rfl,k2,k3,g1,k4,k5⟩
 |_=>
  exfalso
  simp only[aV]at hc
  (repeat' split at hc)<;>simp at hc
theorem Hu {x:A} {a b:C} {t:Bool} (hx:x.ev ρ=.bool t) (h:WC Γ (if t then a else b) ρ st Q):WC Γ (.cond x a b) ρ st Q:=by
 intro P hk mu nt B w g ac he hn hrel c hc
 cases c with
 |cond c0 c1 c2=>
  simp only[aV]at hc
  split at hc
  case h_2=>cases hc
  rename_i x0 x1 x2 h0 h1 h2
  cases hc
  have hv:=co he h0
  rw[hx]at hv
  refine wp_cond hv.bool_inv ?_
  cases t with
  |true=>exact WC.run h hk he hn hrel h1
  |false=>exact WC.run h hk he hn hrel h2
 |_=>
  exfalso
  simp only[aV]at hc
  (repeat' split at hc)<;>simp at hc
theorem Hf {id:Nat} {b:C} (h:WC Γ b ρ st (fun x ρ1 st1=>match x with| .exit j=>Q (if j=id then .normal else .exit j) ρ1 st1|x=>Q x ρ1 st1)):WC Γ (.block id b) ρ st Q:=by
 intro P hk mu nt B w g ac he hn hrel c hc
 cases c with
 |block id' c0=>
  simp only[aV,Option.map_eq_some_iff]at hc
  obtain⟨x0,h0,e⟩:=hc
  cases e
  refine wp_block (wp_mono (h.run hk he hn hrel h0) (fun e a1 w1 hp=>?_))
  obtain⟨x,ρ1,st1,hq,k1,k2,k3,g1,k4,k5⟩:=hp
  subst k1
  cases x with
  |normal=>exact⟨_,ρ1,st1,hq,rfl,k2,k3,g1,k4,k5⟩
  |exit j=>
   simp only[X.toExit,Exit.inBlock]
   by_cases hj:j=id
   ·simp only[hj,if_true]at hq ⊢
    exact⟨.normal,ρ1,st1,hq,rfl,k2,k3,g1,k4,k5⟩
   ·simp only[hj,if_false]at hq ⊢
    exact⟨.exit j,ρ1,st1,hq,rfl,k2,k3,g1,k4,k5⟩
  |ret=>exact⟨_,ρ1,st1,hq,rfl,k2,k3,g1,k4,k5⟩
  |goto l=>exact⟨_,ρ1,st1,hq,rfl,k2,k3,g1,k4,k5⟩
 |_=>
  exfalso
  simp only[aV]at hc
  (repeat' split at hc)<;>simp at hc
theorem Hh {b:C} (h:WC Γ b ρ st (fun x ρ1 st1=>match x with| .normal=>WC Γ (.loop b) ρ1 st1 Q|x=>Q x ρ1 st1)):WC Γ (.loop b) ρ st Q:=by
 intro P hk mu nt B w g ac he hn hrel c hc
 refine inLoopW.round (wp_mono (h.run hk he hn hrel hc) (fun e a1 w1 hp=>?_))
 obtain⟨x,ρ1,st1,hq,k1,k2,k3,g1,k4,k5⟩:=hp
 subst k1
 cases x with
 |normal=>exact(hq P hk k4 k3 k5.rel c hc).mono (fun e a' w' hp=>hp.from hrel k5 k2)
 |exit id=>exact⟨_,ρ1,st1,hq,rfl,k2,k3,g1,k4,k5⟩
 |ret=>exact⟨_,ρ1,st1,hq,rfl,k2,k3,g1,k4,k5⟩
 |goto l=>exact⟨_,ρ1,st1,hq,rfl,k2,k3,g1,k4,k5⟩
theorem vF {rest:C} {l:Nat} (h:WC Γ rest ρ st (fun x ρ1 st1=>match x with| .goto l'=>l'=l∧WC Γ (.again l rest) ρ1 st1 Q|x=>Q x ρ1 st1)):WC Γ (.again l rest) ρ st Q:=by
 intro P hk mu nt B w g ac he hn hrel c r hc hf
 refine inScopeW.go hf (wp_mono (h.run hk he hn hrel hc) (fun e a1 w1 hp=>?_))
 obtain⟨x,ρ1,st1,hq,k1,k2,k3,g1,k4,k5⟩:=hp
 subst k1
 cases x with
 |normal=>exact⟨_,ρ1,st1,hq,rfl,k2,k3,g1,k4,k5⟩
 |exit id=>exact⟨_,ρ1,st1,hq,rfl,k2,k3,g1,k4,k5⟩
 |ret=>exact⟨_,ρ1,st1,hq,rfl,k2,k3,g1,k4,k5⟩
 |goto l'=>exact⟨hq.1,(hq.2 P hk k4 k3 k5.rel c r hc hf).mono (fun e a' w' hp=>hp.from hrel k5 k2)⟩
theorem p9 {c rest:C} {l:Nat} (h:WC Γ c ρ st (fun x ρ1 st1=>match x with| .goto l'=>l'=l∧WC Γ (.again l rest) ρ1 st1 Q|x=>Q x ρ1 st1)):WC Γ (.scope c l rest) ρ st Q:=by
 intro P hk mu nt B w g ac he hn hrel c0 hc
 cases c0 with
 |scope c1=>
  unfold aV at hc
  split at hc
  case h_2=>cases hc
  rename_i x1 l1 hcw hlab
  split at hc
  case h_2=>cases hc
  rename_i xr hrest
  cases hc
  obtain⟨r,hfl⟩:∃r,findLabel c1 l=some r:=by
   cases hf:findLabel c1 l with
   |none=>rw[lJ c1 c l hf]at hrest;cases hrest
   |some r=>exact⟨r,rfl⟩
  have hcr:aV P mu nt r=some rest:=by
   obtain⟨r',h1,h2⟩:=yR c1 c l r hcw hfl
   rw[hrest]at h1
   cases h1
   exact h2
  refine inScopeW.wp (inScopeW.go hfl (wp_mono (h.run hk he hn hrel hcw) (fun e a1 w1 hp=>?_)))
  obtain⟨x,ρ1,st1,hq,k1,k2,k3,g1,k4,k5⟩:=hp
  subst k1
  cases x with
  |normal=>exact⟨_,ρ1,st1,hq,rfl,k2,k3,g1,k4,k5⟩
  |exit id=>exact⟨_,ρ1,st1,hq,rfl,k2,k3,g1,k4,k5⟩
  |ret=>exact⟨_,ρ1,st1,hq,rfl,k2,k3,g1,k4,k5⟩
  |goto l'=>exact⟨hq.1,(hq.2 P hk k4 k3 k5.rel c1 r hcr hfl).mono (fun e a' w' hp=>hp.from hrel k5 k2)⟩
 |_=>
  exfalso
  simp only[aV]at hc
  (repeat' split at hc)<;>simp at hc
/-! ### Calls -/
theorem EvP.n {f:Nat} {ds:List D} {r:D} {Pr:D→Prop} (h:EvP Γ f ds r) (hp:Pr r):EvN Γ f ds Pr:=fun P hk hd _ _ _ _ _ hrel hv=>by
 obtain⟨h1,h2⟩:=h P hk hd hrel hv
 exact⟨h1,h2.mono fun e w' hr=>⟨r,hp,hr⟩⟩
theorem EvN.mono {f:Nat} {ds:List D} {Pr Pr':D→Prop} (h:EvN Γ f ds Pr) (hp:∀r,Pr r→Pr' r):EvN Γ f ds Pr':=fun P hk hd _ _ _ _ _ hrel hv=>by
 obtain⟨h1,h2⟩:=h P hk hd hrel hv
 exact⟨h1,h2.mono fun e w' ⟨r,h3,h4⟩=>⟨r,hp r h3,h4⟩⟩
theorem AT {f:Nat} {cf:CF} {ds:List D} {Pr:D→Prop} (hf:Γ f=some (.code cf)) (hro:cf.ro=true) (h:WC Γ cf.body (enter ds) Store.empty (fun x ρ1 st1=>(x=.normal∨x=.ret)∧∃r,(aI ρ1 st1 cf.res).bind (eE st1)=some r∧Pr r)):EvN Γ f ds Pr:=by
 intro P hk hds B w g st vs hrel hv
 have hko:aG P f cf.ro cf.mv=some cf:=hk.known f _ hf
 obtain⟨fn,c,h1,h2,h3,h4,h5⟩:=dm hko
 refine⟨h3,?_⟩
 have hst0:Rel w.heap.size w ⟨g.S,fun _=>none,fun _=>none⟩ Store.empty:=⟨Nat.le_refl _,hrel.S,fun l x hx=>by simp[Store.empty]at hx,fun l l' b x x' hx=>by simp[Store.empty]at hx,fun t r ht=>by simp[Store.empty]at ht,fun t t' r r' ht=>by simp[Store.empty]at ht,fun t r l b ht=>by simp[Store.empty]at ht,fun _ _=>rfl,fun _ _=>rfl,fun l b h=>(by cases h),Nat.le_refl _,Nat.le_refl _⟩
 have hv':VRs w ⟨g.S,fun _=>none,fun _=>none⟩ ds vs.toList:=⟨hv.1,fun j d v p q=>(hv.2 j d v p q).freeA_ (hds d (List.mem_of_getElem? p)).1 (hds d (List.mem_of_getElem? p)).2 _ (fun _ _ h=>h)⟩
 refine calls_of_wp h1 h2 (wp_mono (h.run hk (EnvR.enter_ hv' _) (by simp;omega) hst0 h4) (fun e a' w' hp=>?_))
 obtain⟨x,ρ1,st1,⟨hx,r,hres,hPr⟩,k1,k2,k3,g1,k4,k5⟩:=hp
 obtain⟨r0,hr0,hfr⟩:=Option.bind_eq_some_iff.1 hres
 obtain⟨v,q1,q2⟩:=eh h5 hr0 k4 k5.rel
 have hR:=B9 (g0:=⟨g.S,fun _=>none,fun _=>none⟩) hrel rfl k5 q2 hfr
 rcases hx with rfl|rfl<;>subst k1<;>exact⟨k2,v,q1,r,hPr,hR⟩
theorem BE {f:Nat} {ds:List D} {r:D} (h:EvN Γ f ds (fun d=>d=r)):EvP Γ f ds r:=fun P hk hd _ _ _ _ _ hrel hv=>by
 obtain⟨h1,h2⟩:=h P hk hd hrel hv
 exact⟨h1,h2.mono fun e w' ⟨r',h3,h4⟩=>by subst h3;exact h4⟩
theorem aJ {f:Nat} {cf:CF} {ds:List D} {r:D} (hf:Γ f=some (.code cf)) (hro:cf.ro=true) (h:WC Γ cf.body (enter ds) Store.empty (fun x ρ1 st1=>(x=.normal∨x=.ret)∧(aI ρ1 st1 cf.res).bind (eE st1)=some r)):EvP Γ f ds r:=
 BE (AT hf hro (h.mono fun x ρ1 st1 ⟨h1,h2⟩=>⟨h1,r,h2,rfl⟩))
theorem gV {f:Nat} {F:List D→Option D} {ds:List D} {r:D} (hf:Γ f=some (.prim F)) (h:F ds=some r):EvP Γ f ds r:=fun P hk hd B w g st vs hrel hv=>by
 have hko:PrimOK P f F:=hk.known f _ hf
 exact⟨hko.enters,hko.calls B w g st _ vs r hrel hv h⟩
theorem lX {k:Nat} {ds:List D} {r:D} (ha:(ds.map D.strip).all D.freeA=true) (h:EvP Γ k (ds.map D.strip) r):EvRO Γ k ds st r:=fun P hk B w g vs hrel hv=>
 h P hk (fun d hd=>by
   have hf:=List.all_eq_true.1 ha d hd
   obtain⟨d0,_,rfl⟩:=List.mem_map.1 hd
   exact⟨hf,cO hf⟩) hrel hv.strip
theorem vK {k:Nat} {ds:List D} {Pr:D→Prop} (ha:(ds.map D.strip).all D.freeA=true) (h:EvN Γ k (ds.map D.strip) Pr):Es Γ k ds st Pr:=fun P hk B w g vs hrel hv=>
 h P hk (fun d hd=>by
   have hf:=List.all_eq_true.1 ha d hd
   obtain⟨d0,_,rfl⟩:=List.mem_map.1 hd
   exact⟨hf,cO hf⟩) hrel hv.strip
theorem zu {f:Nat} {cf:CF} {ds:List D} {Pr:D→Prop} (hf:Γ f=some (.code cf)) (hro:cf.ro=true)
  (h:WC Γ cf.body (enter (ds.map D.strip)) {st with lim:=st.next,tlim:=st.ntok} (fun x ρ1 st1=>(x=.normal∨x=.ret)∧∃r,(aI ρ1 st1 cf.res).bind (rH st1)=some r∧Pr r)):Es Γ f ds st Pr:=by
 intro P hk B w g vs hrel hv
 have hko:aG P f cf.ro cf.mv=some cf:=hk.known f _ hf
 obtain⟨fn,c,h1,h2,h3,h4,h5⟩:=dm hko
 refine⟨h3,?_⟩
 have hst0:Rel B w g {st with lim:=st.next,tlim:=st.ntok}:=⟨hrel.base,hrel.S,hrel.box,hrel.inj,hrel.tok,hrel.uniq,hrel.apart,hrel.newι,hrel.newτ,hrel.ltι,Nat.le_refl _,Nat.le_refl _⟩
 refine calls_of_wp h1 h2 (wp_mono (h.run hk (EnvR.enter_ hv.strip _) (by simp;omega) hst0 h4) (fun e a' w' hp=>?_))
 obtain⟨x,ρ1,st1,⟨hx,r,hres,hPr⟩,k1,k2,k3,g1,k4,k5⟩:=hp
 obtain⟨r0,hr0,hfr⟩:=Option.bind_eq_some_iff.1 hres
 unfold rH at hfr
 split at hfr<;>try contradiction
 rename_i hfree
 cases hfr
 obtain⟨v,q1,q2⟩:=eh h5 hr0 k4 k5.rel
 have hR:=A6 hrel k5 q2 hfree
 rcases hx with rfl|rfl<;>subst k1<;>exact⟨k2,v,q1,_,hPr,hR⟩
theorem dg {f:Nat} {cf:CF} {ds:List D} {r:D} (ha:(ds.map D.strip).all D.freeA=false) (hf:Γ f=some (.code cf)) (hro:cf.ro=true)
  (h:WC Γ cf.body (enter (ds.map D.strip)) {st with lim:=st.next,tlim:=st.ntok} (fun x ρ1 st1=>(x=.normal∨x=.ret)∧(aI ρ1 st1 cf.res).bind (rH st1)=some r)):EvRO Γ f ds st r:=fun P hk B w g vs hrel hv=>by
 obtain⟨h1,h2⟩:=zu (Pr:=fun d=>d=r) hf hro (h.mono fun x ρ1 st1 ⟨h1,h2⟩=>⟨h1,r,h2,rfl⟩) P hk hrel hv
 exact⟨h1,h2.mono fun e w' ⟨r',h3,h4⟩=>by subst h3;exact h4⟩
theorem zK {f:Nat} {cf:CF} {ds:List D} {Pr:D→Store→Prop} (hf:Γ f=some (.code cf))
  (h:WC Γ cf.body (enter (ds.map D.strip)) st (fun x ρ1 st1=>(x=.normal∨x=.ret)∧∃r,aI ρ1 st1 cf.res=some r∧Pr r.strip st1)):FO Γ f ds st Pr:=by
 intro P hk B w g vs hrel hv
 have hko:aG P f cf.ro cf.mv=some cf:=hk.known f _ hf
 obtain⟨fn,c,h1,h2,h3,h4,h5⟩:=dm hko
 refine⟨h3,?_⟩
 refine calls_of_wp h1 h2 (wp_mono (h.run hk (EnvR.enter_ hv.strip _) (by simp;omega) hrel h4) (fun e a' w' hp=>?_))
 obtain⟨x,ρ1,st1,⟨hx,r,hres,hPr⟩,k1,k2,k3,g1,k4,k5⟩:=hp
 obtain⟨v,q1,q2⟩:=eh h5 hres k4 k5.rel
 have hR:kL B w g st r.strip st1 (.returned v) w':=⟨v,g1,rfl,q2.strip,k5⟩
 rcases hx with rfl|rfl<;>subst k1<;>exact⟨k2,v,q1,_,_,hPr,hR⟩
theorem j9 {f:Nat} {cf:CF} {ds:List D} {r:D} {st':Store} (hf:Γ f=some (.code cf)) (hro:cf.ro=false)
  (h:WC Γ cf.body (enter (ds.map D.strip)) st (fun x ρ1 st1=>(x=.normal∨x=.ret)∧(aI ρ1 st1 cf.res).map (fun r=>(r.strip,st1))=some (r,st'))):EvRW Γ f ds st r st':=fun P hk B w g vs hrel hv=>by
 obtain⟨h1,h2⟩:=zK (Pr:=fun d s=>d=r∧s=st') hf (h.mono fun x ρ1 st1 ⟨h1,h2⟩=>by
  obtain⟨r0,h3,h4⟩:=Option.map_eq_some_iff.1 h2
  cases h4
  exact⟨h1,r0,h3,rfl,rfl⟩) P hk hrel hv
 exact⟨h1,h2.mono fun e w' ⟨r',st1,⟨h3,h5⟩,h4⟩=>by subst h3 h5;exact h4⟩
theorem nv {N f:Nat} {ds:List D} {r:D} (h:aM Γ N f ds=some r):EvP Γ f ds r:=fun P hk hd _ _ _ _ _ hrel hv=>(o8 hk.known hk.mixed N).pure_ h hd hrel hv
end
end Go.Sm
