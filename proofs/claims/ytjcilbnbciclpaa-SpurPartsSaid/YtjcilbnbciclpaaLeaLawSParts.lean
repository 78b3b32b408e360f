/-
  The best way on is the one by its next ID, or the best of all others, and without a root, and bans, it is the best route: the row SpurParts, over any edges, any root, any bans, any ends, any times, and any size.
-/
import Derived.Test.YtjcilbnbciclpaaLeaLeaF
import Derived.Test.YtjcilbnbciclpaaLeaLeaSi
set_option linter.unusedVariables false
set_option linter.unusedSimpArgs false
set_option linter.unnecessarySimpa false
namespace Go.Proofs.Ytjcilbnbciclpaa
open Go.ChangeShapes Go.WideShapes Go.ChangeAt Go.RowKit Go.Ev Go.Lea
namespace SParts
theorem yK {d:D} (h:HasArg Try.prog 20 22 d):∃l:List Eg,d=.slice .no 8 (l.map Eg.e):=by
 obtain⟨xs,rfl,hx⟩:=zE (e:=[.int .i64,.int .i64,.int .i64,.int .i64,.int .i64,.int .i64,.int .i64,.int .i64]) h (by kernel_rfl) (by kernel_rfl)
 obtain⟨l,rfl,hl⟩:=lQ (e:=Eg.e) (p:=fun b=>True) xs (fun x hx'=>by
  obtain⟨cs,rfl,hs⟩:=hx x hx'
  obtain⟨a,_,rfl,ha,hs⟩:=gi hs
  obtain⟨b,_,rfl,hb,hs⟩:=gi hs
  obtain⟨c,_,rfl,hc,hs⟩:=gi hs
  obtain⟨d,_,rfl,hd,hs⟩:=gi hs
  obtain⟨e,_,rfl,he,hs⟩:=gi hs
  obtain⟨f,_,rfl,hf,hs⟩:=gi hs
  obtain⟨g,_,rfl,hg,hs⟩:=gi hs
  obtain⟨i,_,rfl,hi,hs⟩:=gi hs
  rw[xR hs]
  exact⟨⟨a,b,c,d,e,f,g,i⟩,rfl,trivial⟩)
 exact⟨l,rfl⟩
theorem xw:∀Ds,HasArgs Try.prog 20 Try.f11.params.toList Ds→∃N,az Γ2 N 11 Ds=some (.bool true):=by
 intro Ds h
 rw[show Try.f11.params.toList=[22,23,23,3,3,3,3,3]from rfl]at h
 obtain⟨d1,_,rfl,h1,d2,_,rfl,h2,d3,_,rfl,h3,d4,_,rfl,h4,d5,_,rfl,h5,d6,_,rfl,h6,d7,_,rfl,h7,d8,_,rfl,h8,h⟩:=h
 obtain⟨x1,rfl⟩:=yK h1
 obtain⟨x2,rfl,_⟩:=uo h2 (by kernel_rfl) (by kernel_rfl)
 obtain⟨x3,rfl,_⟩:=uo h3 (by kernel_rfl) (by kernel_rfl)
 obtain⟨x4,rfl,_⟩:=kT h4 (by kernel_rfl) (by kernel_rfl)
 obtain⟨x5,rfl,_⟩:=kT h5 (by kernel_rfl) (by kernel_rfl)
 obtain⟨x6,rfl,_⟩:=kT h6 (by kernel_rfl) (by kernel_rfl)
 obtain⟨x7,rfl,_⟩:=kT h7 (by kernel_rfl) (by kernel_rfl)
 obtain⟨x8,rfl,_⟩:=kT h8 (by kernel_rfl) (by kernel_rfl)
 have h':_=[]:=h
 subst h'
 exact(sF x1 x2 x3 x4 x5 x6 x7 x8).get
set_option maxRecDepth 100000 in
theorem w9 (os:Os) (started:os.Started) (H:Type) (enc:TypeId×Value→H):
  ReturnsInHanded {} Try.checked os 11 .any (Rows.spurPartsSpec.pre6 enc Try.prog Try.f11 Rows.spurPartsRow.domain false) (Rows.spurPartsSpec.post enc Try.prog Try.f11 false true false false):=by
 refine returnsInHanded_of_change (C:=Try.checked) Try.own started (by kernel_rfl) Try.func11
  (ChangeSpec.witness6 (enc:=enc) (C:=Try.checked) false ⟨#[],#[.slice none 0 0,.slice none 0 0,.slice none 0 0,.int .i64 0,.int .i64 0,.int .i64 0,.int .i64 0,.int .i64 0],[]⟩ 8 (by kernel_rfl) (by kernel_rfl) (by kernel_rfl) (by kernel_rfl)) ?_
 intro W base args ds gs before hval0 hW hcnd _
 have hval:∀(j:Nat) t v,Try.f11.params[j]?=some t→args[j]?=some v→Value.okWide Try.prog W .any base t v:=hval0
 have hW':=hW
 obtain⟨p,q,hA,hV,rfl,hfz,hnd⟩:=hW
 obtain⟨rfl,rfl⟩:=trodVars_none hV
 have hAn:=hA
 rw[Try.params11]at hAn
 have hds:∃d1 d2 d3 d4 d5 d6 d7 d8,ds=[d1,d2,d3,d4,d5,d6,d7,d8]:=by
  obtain⟨_,_,d1,ds1,_,_,_,rfl,_,_,hAn⟩:=trodAll_cons hAn
  obtain⟨_,_,d2,ds2,_,_,_,rfl,_,_,hAn⟩:=trodAll_cons hAn
  obtain⟨_,_,d3,ds3,_,_,_,rfl,_,_,hAn⟩:=trodAll_cons hAn
  obtain⟨_,_,d4,ds4,_,_,_,rfl,_,_,hAn⟩:=trodAll_cons hAn
  obtain⟨_,_,d5,ds5,_,_,_,rfl,_,_,hAn⟩:=trodAll_cons hAn
  obtain⟨_,_,d6,ds6,_,_,_,rfl,_,_,hAn⟩:=trodAll_cons hAn
  obtain⟨_,_,d7,ds7,_,_,_,rfl,_,_,hAn⟩:=trodAll_cons hAn
  obtain⟨_,_,d8,ds8,_,_,_,rfl,_,_,hAn⟩:=trodAll_cons hAn
  obtain⟨_,rfl,_⟩:=trodAll_nil hAn
  exact⟨_,_,_,_,_,_,_,_,rfl⟩
 obtain⟨d1,d2,d3,d4,d5,d6,d7,d8,rfl⟩:=hds
 refine(vr (n:=20) (base:=base) known Try.mixed (by kernel_rfl) hA (fun j t v h1 h2=>hval j t v (by simpa using h1) (by simpa using h2)) xw).mono fun e W' ⟨he,hb⟩=>?_
 subst he
 exact⟨_,rfl,ww Try.laidOut (by kernel_rfl) rfl (by kernel_rfl) Try.underlying4 hW' rfl rfl rfl hb⟩
theorem holds:Rows.SpurPartsSaid:=
 OpenClaim.holds_of_wide 11 Try.f11 rfl rfl rfl rfl rfl rfl rfl ⟨rfl,rfl,rfl,rfl,rfl⟩ rfl rfl rfl rfl rfl (by kernel_rfl) Try.func11 (by kernel_rfl)
  (of_decide_eq_true (by kernel_rfl)) (by unfold Func.isWrapper;first|(rw[if_pos (by decide+kernel)];kernel_rfl)|(rw[if_neg (by decide+kernel)];exact⟨rfl,rfl⟩))
  (fun os started H enc _=>w9 os started H enc)
end SParts
end Go.Proofs.Ytjcilbnbciclpaa
