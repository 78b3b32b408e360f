/-
  What a row's arguments are, as lists and numbers.
-/
import Derived.Test.YtcejefmekkiboaaEvEvX9
set_option linter.unusedVariables false
set_option linter.unusedSimpArgs false
set_option linter.unnecessarySimpa false
namespace Go.Ev
open Go.RowKit
def GP (n:Int):Prop:= -9223372036854775808≤n∧n≤9223372036854775807
theorem AW {n:Int} (h:(Lit.int .i64 n).wf=true):GP n:=by
 simp only[Lit.wf,IntKind.min,IntKind.max,IntKind.bits,IntKind.signed,if_true,Bool.and_eq_true,decide_eq_true_eq]at h
 unfold GP
 omega
variable {P:Program} {n:Nat} {t:TypeId} {d:D}
theorem mq (h:HasArg P n t d) (hs:nQ P n t=some [.int .i64]) (ha:bN P t=some false):∃k,d=.int .i64 k∧GP k:=by
 obtain⟨s,cs,h1,h2,_,h3⟩:=h
 rw[hs]at h1
 cases h1
 rcases h3 with⟨h3,_⟩|⟨_,rfl⟩
 ·rw[ha]at h3;cases h3
 ·obtain⟨d',ds',e,h4,_⟩:=h2
  cases e
  obtain⟨k,rfl,hk⟩:=h4
  exact⟨k,rfl,AW hk⟩
theorem D8 {e:List Sh} (h:HasArg P n t d) (hs:nQ P n t=some [.slice true e]) (ha:bN P t=some false):∃xs,d=.slice .no e.length xs∧∀x∈xs,∃cs,x=.agg cs∧HasShs e cs:=by
 obtain⟨s,cs,h1,h2,_,h3⟩:=h
 rw[hs]at h1
 cases h1
 rcases h3 with⟨h3,_⟩|⟨_,rfl⟩
 ·rw[ha]at h3;cases h3
 ·obtain⟨d',ds',e,h4,_⟩:=h2
  cases e
  exact h4
theorem Il (h:HasArg P n t d) (hs:nQ P n t=some [.slice false [.int .i64]]) (ha:bN P t=some false):∃xs:List Int,d=.slice .no 1 (xs.map (D.int .i64))∧∀x∈xs,GP x:=by
 obtain⟨s,cs,h1,h2,_,h3⟩:=h
 rw[hs]at h1
 cases h1
 rcases h3 with⟨h3,_⟩|⟨_,rfl⟩
 ·rw[ha]at h3;cases h3
 ·obtain⟨d',ds',e,h4,_⟩:=h2
  cases e
  obtain⟨ys,rfl,hy⟩:=h4
  have:∀(ys:List D),(∀x∈ys,HasShs [.int .i64] [x])→∃xs:List Int,ys=xs.map (D.int .i64)∧∀x∈xs,GP x:=by
   intro ys
   induction ys with
   |nil=>exact fun _=>⟨[],rfl,by simp⟩
   |cons y ys ih=>
    intro h
    obtain⟨xs,rfl,hxs⟩:=ih (fun x hx=>h x (List.mem_cons_of_mem _ hx))
    obtain⟨d',ds',e,⟨k,rfl,hk⟩,_⟩:=h y List.mem_cons_self
    cases e
    exact⟨k::xs,rfl,by simpa using⟨AW hk,hxs⟩⟩
  obtain⟨xs,rfl,hxs⟩:=this ys hy
  exact⟨xs,rfl,hxs⟩
theorem o9 {α:Type} {e:α→D} {p:α→Prop}:∀(xs:List D),(∀x∈xs,∃a,x=e a∧p a)→∃l:List α,xs=l.map e∧∀a∈l,p a
 |[],_=>⟨[],rfl,by simp⟩
 |x::xs,h=>by
  obtain⟨l,rfl,hl⟩:=o9 xs (fun y hy=>h y (List.mem_cons_of_mem _ hy))
  obtain⟨a,rfl,ha⟩:=h x List.mem_cons_self
  exact⟨a::l,rfl,by simpa using⟨ha,hl⟩⟩
theorem jp {s:List Sh} {cs:List D} (h:HasShs (.int .i64::s) cs):∃k ds,cs=.int .i64 k::ds∧GP k∧HasShs s ds:=by
 obtain⟨d,ds,rfl,⟨k,rfl,hk⟩,h2⟩:=h
 exact⟨k,ds,rfl,AW hk,h2⟩
theorem C6 {cs:List D} (h:HasShs [] cs):cs=[]:=h
end Go.Ev
