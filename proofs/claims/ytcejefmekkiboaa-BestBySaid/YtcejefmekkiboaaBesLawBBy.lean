/-
  Who is to be there earlier gets those of all that are there by then: the row BestBy, over any edges, any ends, any time, any size, and any two times to be there.
-/
import Derived.Test.YtcejefmekkiboaaBesLeaSa
import Derived.Test.YtcejefmekkiboaaBesBesS
set_option linter.unusedVariables false
set_option linter.unusedSimpArgs false
set_option linter.unnecessarySimpa false
namespace Go.Proofs.Ytcejefmekkiboaa
open Go.ChangeShapes Go.WideShapes Go.ChangeAt Go.RowKit Go.Ev Go.Bes
namespace BBy
theorem Dj {d:D} (h:HasArg Try.prog 20 22 d):∃l:List Eg,d=.slice .no 8 (l.map Eg.e):=by
 obtain⟨xs,rfl,hx⟩:=D8 (e:=[.int .i64,.int .i64,.int .i64,.int .i64,.int .i64,.int .i64,.int .i64,.int .i64]) h (by kernel_rfl) (by kernel_rfl)
 obtain⟨l,rfl,hl⟩:=o9 (e:=Eg.e) (p:=fun b=>True) xs (fun x hx'=>by
  obtain⟨cs,rfl,hs⟩:=hx x hx'
  obtain⟨a,_,rfl,ha,hs⟩:=jp hs
  obtain⟨b,_,rfl,hb,hs⟩:=jp hs
  obtain⟨c,_,rfl,hc,hs⟩:=jp hs
  obtain⟨d,_,rfl,hd,hs⟩:=jp hs
  obtain⟨e,_,rfl,he,hs⟩:=jp hs
  obtain⟨f,_,rfl,hf,hs⟩:=jp hs
  obtain⟨g,_,rfl,hg,hs⟩:=jp hs
  obtain⟨i,_,rfl,hi,hs⟩:=jp hs
  rw[C6 hs]
  exact⟨⟨a,b,c,d,e,f,g,i⟩,rfl,trivial⟩)
 exact⟨l,rfl⟩
theorem CB:∀Ds,HasArgs Try.prog 20 Try.f4.params.toList Ds→∃N,aM Γ2 N 4 Ds=some (.bool true):=by
 intro Ds h
 rw[show Try.f4.params.toList=[22,3,3,3,3,3,3]from rfl]at h
 obtain⟨d1,_,rfl,h1,d2,_,rfl,h2,d3,_,rfl,h3,d4,_,rfl,h4,d5,_,rfl,h5,d6,_,rfl,h6,d7,_,rfl,h7,h⟩:=h
 obtain⟨x1,rfl⟩:=Dj h1
 obtain⟨x2,rfl,_⟩:=mq h2 (by kernel_rfl) (by kernel_rfl)
 obtain⟨x3,rfl,_⟩:=mq h3 (by kernel_rfl) (by kernel_rfl)
 obtain⟨x4,rfl,_⟩:=mq h4 (by kernel_rfl) (by kernel_rfl)
 obtain⟨x5,rfl,_⟩:=mq h5 (by kernel_rfl) (by kernel_rfl)
 obtain⟨x6,rfl,_⟩:=mq h6 (by kernel_rfl) (by kernel_rfl)
 obtain⟨x7,rfl,_⟩:=mq h7 (by kernel_rfl) (by kernel_rfl)
 have h':_=[]:=h
 subst h'
 exact(Im x1 x2 x3 x4 x5 x6 x7).get
set_option maxRecDepth 100000 in
theorem Ay (os:Os) (started:os.Started) (H:Type) (enc:TypeId×Value→H):
  ReturnsInHanded {} Try.checked os 4 .any (Rows.bestBySpec.pre6 enc Try.prog Try.f4 Rows.bestByRow.domain false) (Rows.bestBySpec.post enc Try.prog Try.f4 false true false false):=by
 refine returnsInHanded_of_change (C:=Try.checked) Try.own started (by kernel_rfl) Try.func4
  (ChangeSpec.witness6 (enc:=enc) (C:=Try.checked) false ⟨#[],#[.slice none 0 0,.int .i64 0,.int .i64 0,.int .i64 0,.int .i64 0,.int .i64 0,.int .i64 0],[]⟩ 8 (by kernel_rfl) (by kernel_rfl) (by kernel_rfl) (by kernel_rfl)) ?_
 intro W base args ds gs before hval0 hW hcnd _
 have hval:∀(j:Nat) t v,Try.f4.params[j]?=some t→args[j]?=some v→Value.okWide Try.prog W .any base t v:=hval0
 have hW':=hW
 obtain⟨p,q,hA,hV,rfl,hfz,hnd⟩:=hW
 obtain⟨rfl,rfl⟩:=trodVars_none hV
 have hAn:=hA
 rw[Try.params4]at hAn
 have hds:∃d1 d2 d3 d4 d5 d6 d7,ds=[d1,d2,d3,d4,d5,d6,d7]:=by
  obtain⟨_,_,d1,ds1,_,_,_,rfl,_,_,hAn⟩:=trodAll_cons hAn
  obtain⟨_,_,d2,ds2,_,_,_,rfl,_,_,hAn⟩:=trodAll_cons hAn
  obtain⟨_,_,d3,ds3,_,_,_,rfl,_,_,hAn⟩:=trodAll_cons hAn
  obtain⟨_,_,d4,ds4,_,_,_,rfl,_,_,hAn⟩:=trodAll_cons hAn
  obtain⟨_,_,d5,ds5,_,_,_,rfl,_,_,hAn⟩:=trodAll_cons hAn
  obtain⟨_,_,d6,ds6,_,_,_,rfl,_,_,hAn⟩:=trodAll_cons hAn
  obtain⟨_,_,d7,ds7,_,_,_,rfl,_,_,hAn⟩:=trodAll_cons hAn
  obtain⟨_,rfl,_⟩:=trodAll_nil hAn
  exact⟨_,_,_,_,_,_,_,rfl⟩
 obtain⟨d1,d2,d3,d4,d5,d6,d7,rfl⟩:=hds
 refine(Al (n:=20) (base:=base) known Try.mixed (by kernel_rfl) hA (fun j t v h1 h2=>hval j t v (by simpa using h1) (by simpa using h2)) CB).mono fun e W' ⟨he,hb⟩=>?_
 subst he
 exact⟨_,rfl,B6 Try.laidOut (by kernel_rfl) rfl (by kernel_rfl) Try.underlying4 hW' rfl rfl rfl hb⟩
theorem holds:Rows.BestBySaid:=
 OpenClaim.holds_of_wide 4 Try.f4 rfl rfl rfl rfl rfl rfl rfl ⟨rfl,rfl,rfl,rfl,rfl⟩ rfl rfl rfl rfl rfl (by kernel_rfl) Try.func4 (by kernel_rfl)
  (of_decide_eq_true (by kernel_rfl)) (by unfold Func.isWrapper;first|(rw[if_pos (by decide+kernel)];kernel_rfl)|(rw[if_neg (by decide+kernel)];exact⟨rfl,rfl⟩))
  (fun os started H enc _=>Ay os started H enc)
end BBy
end Go.Proofs.Ytcejefmekkiboaa
