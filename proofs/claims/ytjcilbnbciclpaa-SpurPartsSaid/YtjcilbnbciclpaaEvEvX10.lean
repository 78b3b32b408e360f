/-
  Rules to run the evaluator's code by hand: what is handed back is a row, or nothing.
-/
import Derived.Test.YtjcilbnbciclpaaEvEvX5
import Derived.Test.YtjcilbnbciclpaaEvEvX7
import Derived.Test.YtjcilbnbciclpaaEvEvP1
set_option linter.unusedVariables false
set_option linter.unusedSimpArgs false
set_option linter.unnecessarySimpa false
namespace Go.Ev
def PK {α:Type} (e:α→D) (sz:Nat) (st:Store) (d:D) (xs:List α):Prop:=(xs=[]∧∃t s,d=.slice t s []∧(t=.isnil∨t=.no∨t=.exact))∨∃q n c,n=xs.length∧d=.rs q 0 sz n c∧RowIs st q sz (xs.map e)
def IsR {α:Type} (e:α→D) (sz:Nat) (xs:List α) (r:D):Prop:=(xs=[]∧∃t s,r=.slice t s []∧(t=.isnil∨t=.no∨t=.exact))∨r=.slice .row sz (xs.map e)
theorem IsR.n {α:Type} {e:α→D} {sz:Nat} {xs:List α} {r:D} (h:IsR e sz xs r):zO e sz xs r:=by
 rcases h with⟨rfl,t,s,rfl,ht⟩|rfl
 ·exact⟨t,s,rfl,.inr rfl,by rcases ht with rfl|rfl|rfl<;>rfl⟩
 ·exact⟨.row,sz,rfl,.inl rfl,rfl⟩
theorem EvX.mono {Γ:Nat→Option FD} {fn:Nat} {as:List D} {P Q:D→Prop} (h:EvX Γ fn as P) (hpq:∀r,P r→Q r):EvX Γ fn as Q:=by
 obtain⟨r,h1,h2⟩:=h
 exact⟨r,hpq r h1,h2⟩
theorem PK.of {α:Type} {e:α→D} {sz:Nat} {st st':Store} {d:D} {xs:List α} (h:PK e sz st d xs) (hl:st'.lim≤st.lim) (hn:st.next≤st'.next) (hb:∀q,q<st.next→st'.boxes q=st.boxes q):PK e sz st' d xs:=by
 rcases h with h|⟨q,n,c,h1,h2,hR⟩
 ·exact .inl h
 ·have hq:=hR.2.1
  exact .inr ⟨q,n,c,h1,h2,hR.of (Nat.le_trans hl hR.1) (Nat.lt_of_lt_of_le hq hn) (hb q hq)⟩
theorem vA {st:Store} {sz:Nat} {xs:List D} (hxs:∀d∈xs,gL sz d) (hl:st.lim≤st.next):RowIs {st with boxes:=ap st.boxes st.next (some (.row (xs.flatMap D.cells))),next:=st.next+1} st.next sz xs:=by
 have hxl:=bz (fun d hd=>(hxs d hd).1)
 refine⟨hl,Nat.lt_succ_self _,_,ae _ _ _,?_,?_,?_⟩
 ·rw[hxl];exact Nat.le_refl _
 ·rw[List.take_of_length_le (by rw[hxl];exact Nat.le_refl _)]
 ·rw[List.all_eq_true]
  intro c hc
  obtain⟨d,hd,hcd⟩:=List.mem_flatMap.mp hc
  exact List.all_eq_true.mp (hxs d hd).2 c hcd
section
variable {Γ:Nat→Option FD} {ρ:Nat→D} {st:Store} {dr:Bool} {R:(Nat→D)→Store→List Fl→Prop} {l:List Op1} {g:Option (Nat×Bool)} {mv:Bool} {k:Nat} {x y i:A}
end
def Fl.onlyR:Fl→Bool
 | .n| .r _| .c=>true
 |_=>false
theorem qI {a b:Fl} (ha:Fl.onlyR a=true) (hb:Fl.onlyR b=true):a.clash b=false:=by
 cases a<;>cases b<;>first|rfl|(simp[Fl.onlyR]at ha;done)|(simp[Fl.onlyR]at hb;done)
theorem dj {bef:List (List Nat)} {fl:List Fl} (h:fl.all Fl.onlyR=true):bC bef fl=true:=by
 unfold bC
 rw[List.all_eq_true]at h ⊢
 intro j hj
 rw[List.all_eq_true]
 intro i hi
 have hj':=List.mem_range.mp hj
 have hi':=List.mem_range.mp hi
 rw[List.getElem?_eq_getElem (show i<fl.length by omega),List.getElem?_eq_getElem hj']
 simp only
 rw[qI (h _ (List.getElem_mem _)) (h _ (List.getElem_mem _))]
 simp
theorem wM {α:Type} {e:α→D} {sz q n c:Nat} {st:Store} {xs:List α} (hR:RowAt st q sz (xs.map e)) (hn:n=xs.length) (hz:0<sz) (he:∀a,(e a).cells.length=sz∧qC (e a).cells=e a):seen st (.rs q 0 sz n c)=.slice .no sz (xs.map e):=by
 subst hn
 obtain⟨cs,hb,hlen,htk,hpl⟩:=hR
 rw[List.length_map]at hlen htk
 simp only[seen,hb,Nat.zero_add,List.drop_zero]
 rw[if_pos ⟨hlen,hz,hpl⟩]
 have:=mG (sz:=sz) (xs:=xs.map e) (cs:=cs) (fun d hd=>by
  obtain⟨a,_,rfl⟩:=List.mem_map.mp hd
  exact he a) (by rw[List.length_map];exact htk)
 rw[List.length_map]at this
 rw[this]
def Ele (sz:Nat) (d:D):Prop:=d.cells.length=sz∧d.cells.all D.ground1=true∧(match d.cells with|[c]=>(match d with| .agg _=>false|_=>true)|_=>(match d with| .agg _=>true|_=>false))=true
theorem Ele.k {sz:Nat} {d:D} (h:Ele sz d):d.cells.length=sz∧qC d.cells=d:=⟨h.1,o7 h.2.2⟩
section
variable {Γ:Nat→Option FD} {ρ:Nat→D} {st:Store} {dr:Bool} {R:(Nat→D)→Store→List Fl→Prop} {l:List Op1} {g:Option (Nat×Bool)} {mv:Bool} {k:Nat} {x y i:A}
end
theorem yo {Γ:Nat→Option FD} {α:Type} {e:α→D} {f sz bytes:Nat} (hΓ:Γ f=some (.prim (iV sz bytes))) (ls:List α) {t:Tok} {s:Nat} (hs:s=sz∨ls=[]) (hb:ls.length*bytes≤140737488355328) (he:∀a,gL sz (e a)∧(match (e a).cells with|[c]=>(match e a with| .agg _=>false|_=>true)|_=>(match e a with| .agg _=>true|_=>false))=true):EvX Γ f [.slice t s (ls.map e)] (IsR e sz ls):=by
 by_cases h:ls=[]
 ·subst h
  exact⟨_,.inl ⟨rfl,.no,sz,rfl,.inr (.inl rfl)⟩,kA hΓ (by simp[iV])⟩
 ·rcases hs with rfl|hs
  ·refine⟨_,.inr rfl,kA hΓ ?_⟩
   have hall:((ls.map e).all (fun d=>d.cells.length==s&&d.cells.all D.plain&&(match d.cells with|[c]=>(match d with| .agg _=>false|_=>true)|_=>(match d with| .agg _=>true|_=>false))))=true:=by
    rw[List.all_eq_true]
    intro d hd
    obtain⟨a,_,rfl⟩:=List.mem_map.mp hd
    simp only[(he a).1.1,(he a).1.2,(he a).2,beq_self_eq_true,Bool.and_self]
   simp only[iV]
   rw[if_neg (by simpa using h),if_pos ⟨trivial,by simpa using hb,hall⟩]
  ·exact absurd hs h
end Go.Ev
