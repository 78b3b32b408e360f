/-
  Rules to run the evaluator's code by hand: one rule for each operation, on data whose shape is known.
-/
import Derived.Test.YtcejefmekkiboaaEvEvS1
import Derived.IntWalk
set_option linter.unusedVariables false
set_option linter.unusedSimpArgs false
set_option linter.unnecessarySimpa false
namespace Go.Ev
section
variable (Γ:Nat→Option FD)
def WS (dr:Bool) (l:List Op1) (ρ:Nat→D) (st:Store) (R:(Nat→D)→Store→List Fl→Prop):Prop:=
 ∃ρ' st' fl,(if dr then Evt fun n=>bp Γ n l ρ st=some (ρ',st',fl)else Evt fun n=>bt Γ n false l ρ st=some (ρ',st'))∧R ρ' st' fl
variable {Γ} {ρ:Nat→D} {st:Store}
theorem Ir {l:List Op1} {Q:X→(Nat→D)→Store→Prop} (h:WS Γ false l ρ st (fun ρ1 st1 _=>Q .normal ρ1 st1)):WC Γ (.ops false l) ρ st Q:=by
 obtain⟨ρ1,st1,fl,h1,h2⟩:=h
 exact Fj ⟨ρ1,st1,by simpa using h1,h2⟩
theorem ay {bef:List (List Nat)} {l:List Op1} {Q:X→(Nat→D)→Store→Prop} (h:WS Γ true l ρ st (fun ρ1 st1 fl=>bB bef fl=true∧Q .normal ρ1 st1)):WC Γ (.draw bef l) ρ st Q:=by
 obtain⟨ρ1,st1,fl,h1,h2⟩:=h
 exact DB ⟨ρ1,st1,fl,by simpa using h1,h2⟩
theorem HC {bef:List (List Nat)} {l:List Op1} {Q:X→(Nat→D)→Store→Prop} (h:WS Γ true (gM st.next l) ρ (st.ahead l) (fun ρ1 st1 fl=>(bB bef fl&&jI bef st.next fl)=true∧Q .normal ρ1 st1)):WC Γ (.drawA bef l) ρ st Q:=by
 obtain⟨ρ1,st1,fl,h1,h2,h3⟩:=h
 refine⟨.normal,ρ1,st1,Evt.one (by simpa using h1) fun n p=>?_,h3⟩
 rw[aW.eq_def]
 simp only[p,h2,if_true]
variable {dr:Bool} {R:(Nat→D)→Store→List Fl→Prop}
theorem Hd (h:R ρ st []):WS Γ dr [] ρ st R:=by
 refine⟨_,_,_,?_,h⟩
 cases dr
 ·exact .all fun n=>by simp[bt]
 ·exact .all fun n=>by simp[bp]
theorem uN {o1:Op1} {l:List Op1} (hg:ao ρ o1.guard=some false) (h:WS Γ dr l (cy ρ o1.dst .undef) st (fun ρ1 st1 fl=>R ρ1 st1 (.n::fl))):WS Γ dr (o1::l) ρ st R:=by
 obtain⟨ρ1,st1,fl,h1,h2⟩:=h
 refine⟨ρ1,st1,_,?_,h2⟩
 cases dr
 ·exact Evt.one (by simpa using h1) fun n p=>by rw[kz,hg];exact p
 ·exact Evt.one (by simpa using h1) fun n p=>by simp only[bp,hg];rw[p]
theorem Hl {o1:Op1} {l:List Op1} {d:D} {st1:Store} {f0:Fl} (hg:ao ρ o1.guard=some true) (hn:o1.op.isCall=false) (hr:o1.op.runM o1.mv ρ st=some (d,st1))
  (h:WS Γ dr l (cy ρ o1.dst d) st1 (fun ρ1 st1 fl=>R ρ1 st1 (f0::fl))) (hf:o1.op.acc o1.mv ρ=f0:=by first|rfl|(simp[O.acc, *];done)):WS Γ dr (o1::l) ρ st R:=by
 subst hf
 obtain⟨ρ1,st2,fl,h1,h2⟩:=h
 refine⟨ρ1,st2,_,?_,h2⟩
 cases dr
 ·obtain⟨a,b,h3,rfl,rfl⟩:=FR (Γ:=Γ) (R:=fun a b=>a=ρ1∧b=st2) hg hn hr ⟨ρ1,st2,by simpa using h1,rfl,rfl⟩
  simpa using h3
 ·refine Evt.one (by simpa using h1) fun n p=>?_
  obtain⟨dst,gd,mv,op⟩:=o1
  simp only at hg hn hr p h2
  cases op<;>simp_all[bp,O.isCall]
theorem gR (v:D):(ej st false v).2=st:=by
 cases v with
 |slice t sz xs=>cases t<;>rfl
 |_=>rfl
theorem jj {r:D} (h:aF r=false):(aw false r st).2=st:=by
 unfold aw
 rw[h]
 simp only[Bool.false_eq_true,if_false]
 split
 ·exact gR _
 ·exact gR _
theorem cx {o1:Op1} {l:List Op1} {f:A} {as:List A} {k:Nat} {caps:List D} {r d:D} {st1:Store} (hg:ao ρ o1.guard=some true) (ho:o1.op=.call f as) (hf:f.ev ρ=.func k caps) (ha:((as.map (·.ev ρ)++caps).map D.strip).all D.freeA=true) (hr:EvP Γ k ((as.map (·.ev ρ)++caps).map D.strip) r)
  (hx:dr=true→aF r=false∧o1.mv=false) (hd:aw o1.mv r st=(d,st1)) (h:WS Γ dr l (cy ρ o1.dst d) st1 (fun ρ1 st1 fl=>R ρ1 st1 (.n::fl))):WS Γ dr (o1::l) ρ st R:=by
 obtain⟨ρ1,st2,fl,h1,h2⟩:=h
 refine⟨ρ1,st2,_,?_,h2⟩
 cases dr
 ·refine Evt.and (by simpa using h1) (lX (st:=st) ha hr) fun n p q=>?_
  rw[kz,hg]
  simp only[ho,hf,q,hd]
  exact p
 ·refine Evt.and (by simpa using h1) hr fun n p q=>?_
  obtain⟨hx,hm⟩:=hx rfl
  rw[hm]at hd
  have hst:st1=st:=(congrArg Prod.snd hd).symm.trans (jj hx)
  subst hst
  simp only[bp,hg,ho,hf,if_pos ha,q,hx,hm,Bool.false_and,Bool.false_eq_true,if_false,hd,p]
theorem sx {o1:Op1} {l:List Op1} {f:A} {as:List A} {k:Nat} {caps:List D} {r d:D} (hg:ao ρ o1.guard=some true) (ho:o1.op=.call f as) (hf:f.ev ρ=.func k caps) (ha:((as.map (·.ev ρ)++caps).map D.strip).all D.freeA=true) (hr:EvP Γ k ((as.map (·.ev ρ)++caps).map D.strip) r)
  (hx:aF r=false) (hw:dS r=false) (hd:aw false r st=(d,st)) (h:WS Γ true l (cy ρ o1.dst d) st (fun ρ1 st1 fl=>R ρ1 st1 (.n::fl))):WS Γ true (o1::l) ρ st R:=by
 obtain⟨ρ1,st2,fl,h1,h2⟩:=h
 refine⟨ρ1,st2,_,?_,h2⟩
 refine Evt.and (by simpa using h1) hr fun n p q=>?_
 simp only[bp,hg,ho,hf,if_pos ha,q,hx,hw,Bool.and_false,Bool.false_eq_true,if_false,hd,p]
theorem tv {o1:Op1} {l:List Op1} {f:A} {as:List A} {k:Nat} {caps:List D} {r d:D} {st1:Store} (hg:ao ρ o1.guard=some true) (ho:o1.op=.call f as) (hf:f.ev ρ=.func k caps) (ha:((as.map (·.ev ρ)++caps).map D.strip).all D.freeA=true) (hr:EvP Γ k ((as.map (·.ev ρ)++caps).map D.strip) r)
  (hx:aF r=false) (hm:o1.mv=true) (hw:dS r=true) (hd:aw true r st=(d,st1)) (h:WS Γ true l (cy ρ o1.dst d) st1 (fun ρ1 st1 fl=>R ρ1 st1 (.a st.next::fl))):WS Γ true (o1::l) ρ st R:=by
 obtain⟨ρ1,st2,fl,h1,h2⟩:=h
 refine⟨ρ1,st2,_,?_,h2⟩
 refine Evt.and (by simpa using h1) hr fun n p q=>?_
 simp only[bp,hg,ho,hf,if_pos ha,q,hx,hm,hw,Bool.and_self,Bool.false_eq_true,if_false,if_true,hd,p]
theorem sC {o1:Op1} {l:List Op1} {f:A} {as:List A} {k:Nat} {caps:List D} {r d:D} {st1:Store} (hg:ao ρ o1.guard=some true) (ho:o1.op=.call f as) (hf:f.ev ρ=.func k caps) (ha:((as.map (·.ev ρ)++caps).map D.strip).all D.freeA=false) (hr:EvRO Γ k (as.map (·.ev ρ)++caps) st r)
  (hx:dr=true→aF r=false∧o1.mv=false) (hd:aw o1.mv r st=(d,st1)) (h:WS Γ dr l (cy ρ o1.dst d) st1 (fun ρ1 st1 fl=>R ρ1 st1 (.c::fl))):WS Γ dr (o1::l) ρ st R:=by
 obtain⟨ρ1,st2,fl,h1,h2⟩:=h
 refine⟨ρ1,st2,_,?_,h2⟩
 cases dr
 ·refine Evt.and (by simpa using h1) hr fun n p q=>?_
  rw[kz,hg]
  simp only[ho,hf,q,hd]
  exact p
 ·refine Evt.and (by simpa using h1) hr fun n p q=>?_
  obtain⟨hx,hm⟩:=hx rfl
  rw[hm]at hd
  have hst:st1=st:=(congrArg Prod.snd hd).symm.trans (jj hx)
  subst hst
  simp only[bp,hg,ho,hf,ha,hm,Bool.false_eq_true,if_false,q,hx,hd,p]
theorem cp {o1:Op1} {l:List Op1} {f:A} {as:List A} {k:Nat} {caps:List D} {r:D} {st1:Store} (hg:ao ρ o1.guard=some true) (ho:o1.op=.call f as) (hf:f.ev ρ=.func k caps) (hr:EvRW Γ k (as.map (·.ev ρ)++caps) st r st1)
  (h:WS Γ dr l (cy ρ o1.dst r) st1 (fun ρ1 st1 fl=>R ρ1 st1 (.f::fl))) (hmv:dr=true→o1.mv=false:=by first|exact fun _=>rfl|exact fun h=>nomatch h):WS Γ dr (o1::l) ρ st R:=by
 obtain⟨ρ1,st2,fl,h1,h2⟩:=h
 refine⟨ρ1,st2,_,?_,h2⟩
 cases dr
 ·refine Evt.and (by simpa using h1) hr fun n p q=>?_
  rw[kz,hg]
  simp only[ho,hf,q.1,q.2]
  exact p
 ·refine Evt.and (by simpa using h1) hr fun n p q=>?_
  have q1:=q.1
  cases ha:((as.map (·.ev ρ)++caps).map D.strip).all D.freeA with
  |false=>simp only[bp,hg,ho,hf,ha,hmv rfl,Bool.false_eq_true,if_false,q1,q.2,p]
  |true=>
   have hp:aM Γ n k ((as.map (·.ev ρ)++caps).map D.strip)=none:=by
    have q2:=q.2
    cases n with
    |zero=>simp[aM]
    |succ n=>
     simp only[aQ]at q2
     split at q2
     ·rename_i cf hcf
      split at q2
      ·cases q2
      ·rename_i hro
       simp only[aM,hcf,hro];rfl
     ·rename_i F hF
      simp only[aM,hF]
     ·cases q2
   simp only[bp,hg,ho,hf,ha,if_true,hp,q.2,p]
end
end Go.Ev
