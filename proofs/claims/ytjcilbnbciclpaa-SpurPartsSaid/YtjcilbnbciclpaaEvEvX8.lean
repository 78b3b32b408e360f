/-
  Rules to run the evaluator's code by hand: append to a slice of the function's own.
-/
import Derived.Test.YtjcilbnbciclpaaEvEvX7
set_option linter.unusedVariables false
set_option linter.unusedSimpArgs false
set_option linter.unnecessarySimpa false
namespace Go.Ev
def eV (st:Store) (sz:Nat) (t:Tok) (s:Nat) (xs:List D):Prop:=((t=.isnil∨t=.exact)∧(s=sz∨(s=0∧xs=[])))∨(∃k,t=.own k∧st.toks k=true∧st.tlim≤k∧s=sz)
section
variable {Γ:Nat→Option FD} {ρ:Nat→D} {st:Store} {dr:Bool} {R:(Nat→D)→Store→List Fl→Prop} {l:List Op1} {g:Option (Nat×Bool)} {mv:Bool} {k:Nat} {x y:A}
theorem iS {sz bytes s s2:Nat} {t t2:Tok} {xs ys:List D} (hg:ak ρ g=some true) (hx:x.ev ρ=.slice t s xs) (hy:y.ev ρ=.slice t2 s2 ys) (hO:eV st sz t s xs) (hs:s2=sz∨ys=[]) (hb:(xs.length+ys.length)*bytes≤140737488355328) (hl:st.tlim≤st.ntok) (hm:mv=false)
  (h:∀k' st',st'.boxes=st.boxes→st'.next=st.next→st'.lim=st.lim→st'.tlim=st.tlim→st'.tlim≤st'.ntok→st'.toks k'=true→st'.tlim≤k'→WS Γ dr l (ap ρ k (.slice (.own k') sz (xs++ys))) st' (nx .t R)):WS Γ dr (⟨some k,g,mv,.append sz bytes x y⟩::l) ρ st R:=by
 subst hm
 have h2:(ys.isEmpty||s2==sz)=true:=by rcases hs with rfl|rfl<;>simp
 rcases hO with⟨ht,hs1⟩|⟨k0,rfl,htk,hlk,rfl⟩
 ·have h1:(s==sz||(xs.isEmpty&&s==0))=true:=by rcases hs1 with rfl|⟨rfl,rfl⟩<;>simp
  refine WS_op (d:=.slice (.own st.ntok) sz (xs++ys)) (st1:={st with toks:=ap st.toks st.ntok true,ntok:=st.ntok+1}) hg rfl ?_ (h st.ntok _ rfl rfl rfl rfl (Nat.le_succ_of_le hl) (ae _ _ _) hl)
  rcases ht with rfl|rfl<;>simp only[O.runM,O.run,hx,hy,dt,h1,h2,decide_eq_true hb,Bool.and_self,if_true]
 ·refine WS_op (d:=.slice (.own st.ntok) s (xs++ys)) (st1:={st with toks:=ap (ap st.toks k0 false) st.ntok true,ntok:=st.ntok+1}) hg rfl ?_ (h st.ntok _ rfl rfl rfl rfl (Nat.le_succ_of_le hl) (ae _ _ _) hl)
  simp only[O.runM,O.run,hx,hy,dt,beq_self_eq_true,Bool.true_or,h2,decide_eq_true hb,Bool.and_self,if_true,htk,decide_eq_true hlk]
end
end Go.Ev
