/-
  What code comes to, from some fuel on: rules to run it by hand.
-/
import Derived.Test.YtcejefmekkiboaaEvEvZ
set_option linter.unusedVariables false
set_option linter.unusedSimpArgs false
set_option linter.unnecessarySimpa false
namespace Go.Ev
section
variable (Γ:Nat→Option FD)
def Evt (p:Nat→Prop):Prop:=∃N,∀n,N≤n→p n
theorem Evt.and{p q r:Nat→Prop} (hp:Evt p) (hq:Evt q) (h:∀n,p n→q n→r (n+1)):Evt r:=by
 obtain⟨N,hN⟩:=hp
 obtain⟨M,hM⟩:=hq
 refine⟨max N M+1,fun n hn=>?_⟩
 cases n with
 |zero=>omega
 |succ n=>exact h n (hN n (by omega)) (hM n (by omega))
theorem Evt.one {p r:Nat→Prop} (hp:Evt p) (h:∀n,p n→r (n+1)):Evt r:=hp.and hp (fun n a _=>h n a)
theorem Evt.all {r:Nat→Prop} (h:∀n,r (n+1)):Evt r:=⟨1,fun n hn=>by cases n with|zero=>omega|succ n=>exact h n⟩
def EvP (f:Nat) (ds:List D) (r:D):Prop:=Evt fun n=>aM Γ n f ds=some r
def EvRO (f:Nat) (ds:List D) (st:Store) (r:D):Prop:=Evt fun n=>bs Γ n f ds st=some r
def EvRW (f:Nat) (ds:List D) (st:Store) (r:D) (st':Store):Prop:=Evt fun n=>bs Γ n f ds st=none∧aQ Γ n f ds st=some (r,st')
def WC (c:C) (ρ:Nat→D) (st:Store) (Q:X→(Nat→D)→Store→Prop):Prop:=∃x ρ' st',(Evt fun n=>aW Γ n c ρ st=some (x,ρ',st'))∧Q x ρ' st'
def WO (l:List Op1) (ρ:Nat→D) (st:Store) (Q:(Nat→D)→Store→Prop):Prop:=∃ρ' st',(Evt fun n=>bt Γ n false l ρ st=some (ρ',st'))∧Q ρ' st'
def WD (l:List Op1) (ρ:Nat→D) (st:Store) (Q:(Nat→D)→Store→List Fl→Prop):Prop:=∃ρ' st' fl,(Evt fun n=>bp Γ n l ρ st=some (ρ',st',fl))∧Q ρ' st' fl
variable {Γ} {ρ:Nat→D} {st:Store} {Q:X→(Nat→D)→Store→Prop}
theorem WC.mono {c:C} {Q':X→(Nat→D)→Store→Prop} (h:WC Γ c ρ st Q) (hq:∀x ρ st,Q x ρ st→Q' x ρ st):WC Γ c ρ st Q':=by
 obtain⟨x,ρ',st',h1,h2⟩:=h
 exact⟨x,ρ',st',h1,hq _ _ _ h2⟩
theorem Hg (h:Q .normal ρ st):WC Γ .skip ρ st Q:=⟨_,_,_,.all fun n=>by simp[aW],h⟩
theorem Hi {id:Nat} (h:Q (.exit id) ρ st):WC Γ (.exit id) ρ st Q:=⟨_,_,_,.all fun n=>by simp[aW],h⟩
theorem an (h:Q .ret ρ st):WC Γ .ret ρ st Q:=⟨_,_,_,.all fun n=>by simp[aW],h⟩
theorem He {a b:C} (h:WC Γ a ρ st (fun x ρ1 st1=>match x with| .normal=>WC Γ b ρ1 st1 Q|x=>Q x ρ1 st1)):WC Γ (.seq a b) ρ st Q:=by
 obtain⟨x,ρ1,st1,h1,h2⟩:=h
 cases x with
 |normal=>
  obtain⟨x2,ρ2,st2,h3,h4⟩:=h2
  exact⟨x2,ρ2,st2,h1.and h3 fun n p q=>by simp[aW,p,q],h4⟩
 |exit id=>exact⟨_,_,_,h1.one fun n p=>by simp[aW,p],h2⟩
 |ret=>exact⟨_,_,_,h1.one fun n p=>by simp[aW,p],h2⟩
 |goto l=>exact⟨_,_,_,h1.one fun n p=>by simp[aW,p],h2⟩
theorem Hu {x:A} {a b:C} {t:Bool} (hx:x.ev ρ=.bool t) (h:WC Γ (if t then a else b) ρ st Q):WC Γ (.cond x a b) ρ st Q:=by
 obtain⟨x2,ρ2,st2,h3,h4⟩:=h
 exact⟨x2,ρ2,st2,h3.one fun n p=>by simp[aW,hx,p],h4⟩
theorem Hf {id:Nat} {b:C} (h:WC Γ b ρ st (fun x ρ1 st1=>match x with| .exit j=>Q (if j=id then .normal else .exit j) ρ1 st1|x=>Q x ρ1 st1)):WC Γ (.block id b) ρ st Q:=by
 obtain⟨x,ρ1,st1,h1,h2⟩:=h
 cases x with
 |normal=>exact⟨_,_,_,h1.one fun n p=>by simp[aW,p],h2⟩
 |exit j=>exact⟨_,_,_,h1.one fun n p=>by simp[aW,p],h2⟩
 |ret=>exact⟨_,_,_,h1.one fun n p=>by simp[aW,p],h2⟩
 |goto l=>exact⟨_,_,_,h1.one fun n p=>by simp[aW,p],h2⟩
theorem Hh {b:C} (h:WC Γ b ρ st (fun x ρ1 st1=>match x with| .normal=>WC Γ (.loop b) ρ1 st1 Q|x=>Q x ρ1 st1)):WC Γ (.loop b) ρ st Q:=by
 obtain⟨x,ρ1,st1,h1,h2⟩:=h
 cases x with
 |normal=>
  obtain⟨x2,ρ2,st2,h3,h4⟩:=h2
  exact⟨x2,ρ2,st2,h1.and h3 fun n p q=>by simp[aW,p,q],h4⟩
 |exit id=>exact⟨_,_,_,h1.one fun n p=>by simp[aW,p],h2⟩
 |ret=>exact⟨_,_,_,h1.one fun n p=>by simp[aW,p],h2⟩
 |goto l=>exact⟨_,_,_,h1.one fun n p=>by simp[aW,p],h2⟩
theorem Fj {l:List Op1} (h:WO Γ l ρ st (fun ρ1 st1=>Q .normal ρ1 st1)):WC Γ (.ops false l) ρ st Q:=by
 obtain⟨ρ1,st1,h1,h2⟩:=h
 exact⟨_,_,_,h1.one fun n p=>by simp[aW,p],h2⟩
theorem DB {bef:List (List Nat)} {l:List Op1} (h:WD Γ l ρ st (fun ρ1 st1 fl=>bB bef fl=true∧Q .normal ρ1 st1)):WC Γ (.draw bef l) ρ st Q:=by
 obtain⟨ρ1,st1,fl,h1,h2,h3⟩:=h
 exact⟨_,_,_,h1.one fun n p=>by simp[aW,p,h2],h3⟩
variable {R:(Nat→D)→Store→Prop}
theorem kz {n:Nat} {o1:Op1} {l:List Op1}:bt Γ (n+1) false (o1::l) ρ st=
   (match ao ρ o1.guard with
   |none=>none
   |some false=>bt Γ n false l (cy ρ o1.dst .undef) st
   |some true=>
    match (match o1.op with
     | .call f args=>match f.ev ρ with
       | .func f caps=>match bs Γ n f (args.map (·.ev ρ)++caps) st with
         |some r=>some (aw o1.mv r st)
         |none=>aQ Γ n f (args.map (·.ev ρ)++caps) st
       |_=>none
     |op=>op.runM o1.mv ρ st)with
    |some (d,st')=>bt Γ n false l (cy ρ o1.dst d) st'
    |none=>none):=by
 obtain⟨dst,gd,mv,op⟩:=o1
 cases gd<;>cases dst<;>rfl
theorem FR {o1:Op1} {l:List Op1} {d:D} {st1:Store} (hg:ao ρ o1.guard=some true) (hn:o1.op.isCall=false) (hr:o1.op.runM o1.mv ρ st=some (d,st1)) (h:WO Γ l (cy ρ o1.dst d) st1 R):WO Γ (o1::l) ρ st R:=by
 obtain⟨ρ1,st2,h1,h2⟩:=h
 refine⟨ρ1,st2,h1.one fun n p=>?_,h2⟩
 rw[kz,hg]
 have:(match o1.op with
       | .call f args=>match f.ev ρ with
         | .func f caps=>match bs Γ n f (args.map (·.ev ρ)++caps) st with
           |some r=>some (aw o1.mv r st)
           |none=>aQ Γ n f (args.map (·.ev ρ)++caps) st
         |_=>none
       |op=>op.runM o1.mv ρ st)=some (d,st1):=by
  split
  ·rename_i f as he
   rw[he]at hn
   simp[O.isCall]at hn
  ·exact hr
 simp only[this]
 exact p
theorem lX {k:Nat} {ds:List D} {r:D} (ha:(ds.map D.strip).all D.freeA=true) (h:EvP Γ k (ds.map D.strip) r):EvRO Γ k ds st r:=h.one fun n p=>by simp only[bs];rw[if_pos ha];exact p
theorem aJ {f:Nat} {cf:CF} {ds:List D} {r:D} (hf:Γ f=some (.code cf)) (hro:cf.ro=true) (h:WC Γ cf.body (enter ds) Store.empty (fun x ρ1 st1=>(x=.normal∨x=.ret)∧(aI ρ1 st1 cf.res).bind (eE st1)=some r)):EvP Γ f ds r:=by
 obtain⟨x,ρ1,st1,h1,h2,h3⟩:=h
 refine h1.one fun n p=>?_
 simp only[aM,hf,hro,if_true,p]
 rcases h2 with rfl|rfl<;>exact h3
theorem gV {f:Nat} {F:List D→Option D} {ds:List D} {r:D} (hf:Γ f=some (.prim F)) (h:F ds=some r):EvP Γ f ds r:=.all fun n=>by simp only[aM,hf];exact h
theorem EvP.get {f:Nat} {ds:List D} {r:D} (h:EvP Γ f ds r):∃N,aM Γ N f ds=some r:=let⟨N,hN⟩:=h;⟨N,hN N (Nat.le_refl _)⟩
theorem mO {d:D} (h:d.freeA=true):d.seeable=true:=by cases d<;>first|rfl|exact h
theorem Bz {ds:List D} (h:ds.all D.seeable=false):ds.all D.freeA=false:=by
 cases hf:ds.all D.freeA with
 |false=>rfl
 |true=>
  rw[List.all_eq_true]at hf
  have:ds.all D.seeable=true:=List.all_eq_true.mpr fun d hd=>mO (hf d hd)
  rw[this]at h
  cases h
theorem dg {f:Nat} {cf:CF} {ds:List D} {r:D} (ha:(ds.map D.strip).all D.seeable=false) (hf:Γ f=some (.code cf)) (hro:cf.ro=true)
  (h:WC Γ cf.body (enter (ds.map D.strip)) {st with lim:=st.next,tlim:=st.ntok} (fun x ρ1 st1=>(x=.normal∨x=.ret)∧(aI ρ1 st1 cf.res).bind (rH st1)=some r)):EvRO Γ f ds st r:=by
 obtain⟨x,ρ1,st1,h1,h2,h3⟩:=h
 refine h1.one fun n p=>?_
 simp only[bs,Bz ha,ha,Bool.false_eq_true,if_false,hf,hro,if_true,p]
 rcases h2 with rfl|rfl<;>exact h3
theorem j9 {f:Nat} {cf:CF} {ds:List D} {r:D} {st':Store} (hf:Γ f=some (.code cf)) (hro:cf.ro=false)
  (h:WC Γ cf.body (enter (ds.map D.strip)) st (fun x ρ1 st1=>(x=.normal∨x=.ret)∧(aI ρ1 st1 cf.res).map (fun r=>(r.strip,st1))=some (r,st'))):EvRW Γ f ds st r st':=by
 obtain⟨x,ρ1,st1,h1,h2,h3⟩:=h
 refine h1.one fun n p=>⟨?_,?_⟩
 ·have hp:aM Γ n f (ds.map D.strip)=none:=by
   cases n with
   |zero=>simp[aM]
   |succ n=>simp only[aM,hf,hro,Bool.false_eq_true,if_false]
  have hp2:aM Γ n f (ds.map (seen st))=none:=by
   cases n with
   |zero=>simp[aM]
   |succ n=>simp only[aM,hf,hro,Bool.false_eq_true,if_false]
  simp only[bs,hf,hro,Bool.false_eq_true,if_false,hp,hp2]
  split
  ·rfl
  ·split
   ·split<;>rfl
   ·rfl
 ·simp only[aQ,hf,hro,Bool.false_eq_true,if_false,p]
  rcases h2 with rfl|rfl<;>exact h3
end
end Go.Ev
