/-
  slices.SortFunc of times by their nodes, as a known function of the program.
-/
import Derived.Test.YtcejefmekkiboaaBesBesC
import Derived.Test.YtcejefmekkiboaaEvEvN
import Derived.Test.YtcejefmekkiboaaEvEvZ2
import Derived.Test.YtcejefmekkiboaaRows
import Derived.Shelf.SlicesG.Cmp
import Derived.ProofKit
import Derived.WalkSpells
set_option linter.unusedVariables false
set_option linter.unusedSimpArgs false
set_option linter.unnecessarySimpa false
namespace Go.Bes
open Go.Ev
def fU:C:=(.block 1 (s_ [m3 21 2,m3 22 1,o3 23 (.bin .sub (T_ 21) (T_ 22)),m3 12 23] (.seq (s_ [m3 24 12,o3 25 (.bin .leq (T_ 24) (L_ 12))] (.cond (T_ 25) (s_ [m3 26 0,m3 27 1,m3 28 2,m3 29 4,o3 30 (.call (.lit (.func 78 [])) [(T_ 26),(T_ 27),(T_ 28),(T_ 29)])] .ret) .skip)) (.seq (s_ [m3 31 3,o3 32 (.bin .eql (T_ 31) (L_ 0))] (.cond (T_ 32) (s_ [m3 33 0,m3 34 1,m3 35 2,m3 36 4,o3 37 (.call (.lit (.func 79 [])) [(T_ 33),(T_ 34),(T_ 35),(T_ 36)])] .ret) .skip)) (.seq (s_ [m3 38 10,o3 39 (.not (T_ 38))] (.cond (T_ 39) (s_ [m3 40 0,m3 41 1,m3 42 2,m3 43 4,o3 44 (.call (.lit (.func 80 [])) [(T_ 40),(T_ 41),(T_ 42),(T_ 43)])] (.ops .false [m3 45 3,o3 46 (.bin .sub (T_ 45) (L_ 1)),m3 3 46])) .skip)) (s_ [m3 48 0,m3 49 1,m3 50 2,m3 51 4,o3 52 (.call (.lit (.func 81 [])) [(T_ 48),(T_ 49),(T_ 50),(T_ 51)]),m3 47 52,o3 53 (.extract (T_ 47) 0),o3 54 (.extract (T_ 47) 1),m3 13 53,m3 14 54] (.seq (s_ [m3 55 14,o3 56 (.bin .eql (T_ 55) (L_ 2))] (.cond (T_ 56) (s_ [m3 57 0,m3 58 1,m3 59 2,m3 60 4,o3 61 (.call (.lit (.func 82 [])) [(T_ 57),(T_ 58),(T_ 59),(T_ 60)])] (s_ [m3 62 2,o3 63 (.bin .sub (T_ 62) (L_ 1)),m3 64 13,m3 65 1,o3 66 (.bin .sub (T_ 64) (T_ 65)),o3 67 (.bin .sub (T_ 63) (T_ 66)),m3 13 67] (.ops .false [o3 14 (.mov (L_ 1))]))) .skip)) (.seq (s_ [m3 68 10,m3 69 68,o4 70 69 .true (.mov (T_ 11)),o3 71 (.pick (T_ 69) (T_ 70) (.lit (.bool .false))),m3 72 71,o4 73 72 .true (.mov (T_ 14)),o4 74 72 .true (.bin .eql (T_ 73) (L_ 1)),o3 75 (.pick (T_ 72) (T_ 74) (.lit (.bool .false)))] (.cond (T_ 75) (s_ [m3 76 0,m3 77 1,m3 78 2,m3 79 4,o3 80 (.call (.lit (.func 83 [])) [(T_ 76),(T_ 77),(T_ 78),(T_ 79)])] (.cond (T_ 80) .ret .skip)) .skip)) (.seq (.seq (.draw [[],[0],[1,0],[2,1,0],[2,1,0],[2,1,0],[5,2,1,0],[4,2,1,0,6,5],[7,4,2,1,0,6,5],[2,1,0],[2,1,0],[9,2,1,0,10],[11,9,2,1,0,10],[3,2,1,0,8,7,4,6,5,12,11,9,10],[13,3,2,1,0,8,7,4,6,5,12,11,9,10],[14,13,3,2,1,0,8,7,4,6,5,12,11,9,10],[2,1,0,15,14,13,3,8,7,4,6,5,12,11,9,10]] [m3 81 1,o3 82 (.bin .gtr (T_ 81) (L_ 0)),m3 83 82,o4 84 83 .true (.mov (T_ 4)),o4 85 83 .true (.mov (T_ 0)),o4 86 83 .true (.mov (T_ 1)),o4 87 83 .true (.bin .sub (T_ 86) (L_ 1)),o4 88 83 .true (.iaddrS 2 (T_ 85) (T_ 87)),o4 89 83 .true (.load .true 2 (T_ 88)),o4 90 83 .true (.mov (T_ 0)),o4 91 83 .true (.mov (T_ 13)),o4 92 83 .true (.iaddrS 2 (T_ 90) (T_ 91)),o4 93 83 .true (.load .true 2 (T_ 92)),o4 94 83 .true (.call (T_ 84) [(T_ 89),(T_ 93)]),o4 95 83 .true (.bin .lss (T_ 94) (L_ 0)),o4 96 83 .true (.not (T_ 95)),o3 97 (.pick (T_ 83) (T_ 96) (.lit (.bool .false)))]) (.cond (T_ 97) (s_ [m3 98 0,m3 99 1,m3 100 2,m3 101 13,m3 102 4,o3 103 (.call (.lit (.func 84 [])) [(T_ 98),(T_ 99),(T_ 100),(T_ 101),(T_ 102)]),m3 15 103] (s_ [m3 104 15,m3 1 104] (.exit 1))) .skip)) (s_ [m3 106 0,m3 107 1,m3 108 2,m3 109 13,m3 110 4,o3 111 (.call (.lit (.func 85 [])) [(T_ 106),(T_ 107),(T_ 108),(T_ 109),(T_ 110)]),m3 105 111,o3 112 (.extract (T_ 105) 0),o3 113 (.extract (T_ 105) 1),m3 16 112,m3 17 113] (s_ [m3 114 17,m3 11 114] (s_ [m3 115 16,m3 116 1,o3 117 (.bin .sub (T_ 115) (T_ 116)),m3 118 2,m3 119 16,o3 120 (.bin .sub (T_ 118) (T_ 119)),m3 18 117,m3 19 120] (s_ [m3 121 12,o3 122 (.bin .quo (T_ 121) (L_ 8)),m3 20 122] (s_ [m3 123 18,m3 124 19,o3 125 (.bin .lss (T_ 123) (T_ 124))] (.cond (T_ 125) (s_ [m3 126 18,m3 127 20,o3 128 (.bin .geq (T_ 126) (T_ 127)),m3 10 128] (s_ [m3 129 0,m3 130 1,m3 131 16,m3 132 3,m3 133 4,o3 134 (.call (.lit (.func 64 [])) [(T_ 129),(T_ 130),(T_ 131),(T_ 132),(T_ 133)])] (.ops .false [m3 135 16,o3 136 (.bin .add (T_ 135) (L_ 1)),m3 1 136]))) (s_ [m3 137 19,m3 138 20,o3 139 (.bin .geq (T_ 137) (T_ 138)),m3 10 139] (s_ [m3 140 0,m3 141 16,o3 142 (.bin .add (T_ 141) (L_ 1)),m3 143 2,m3 144 3,m3 145 4,o3 146 (.call (.lit (.func 64 [])) [(T_ 140),(T_ 142),(T_ 143),(T_ 144),(T_ 145)])] (.ops .false [m3 147 16,m3 2 147]))))))))))))))))))
def bF:CF:=(⟨148,[],.true,[],(s_ [o3 10 (.mov (.lit (.bool .true)))] (s_ [o3 11 (.mov (.lit (.bool .true)))] (.block 0 (.loop fU))))⟩)
def er:C:=(.seq (.seq (.draw [[],[],[0,1],[2,0,1],[3,2,0,1],[3,2,0,1],[3,2,0,1],[5,3,2,0,1,6],[7,5,3,2,0,1,6],[3,2,0,1],[3,2,0,1],[10,3,2,0,1],[9,3,2,0,1,11,10],[12,9,3,2,0,1,11,10],[4,3,2,0,1,8,7,5,6,13,12,9,11,10],[14,4,3,2,0,1,8,7,5,6,13,12,9,11,10],[3,2,0,1,15,14,4,8,7,5,6,13,12,9,11,10]] [m3 18 9,m3 19 1,o3 20 (.bin .gtr (T_ 18) (T_ 19)),m3 21 20,o4 22 21 .true (.mov (T_ 3)),o4 23 21 .true (.mov (T_ 0)),o4 24 21 .true (.mov (T_ 9)),o4 25 21 .true (.iaddrS 2 (T_ 23) (T_ 24)),o4 26 21 .true (.load .true 2 (T_ 25)),o4 27 21 .true (.mov (T_ 0)),o4 28 21 .true (.mov (T_ 9)),o4 29 21 .true (.bin .sub (T_ 28) (L_ 1)),o4 30 21 .true (.iaddrS 2 (T_ 27) (T_ 29)),o4 31 21 .true (.load .true 2 (T_ 30)),o4 32 21 .true (.call (T_ 22) [(T_ 26),(T_ 31)]),o4 33 21 .true (.bin .lss (T_ 32) (L_ 0)),o3 34 (.pick (T_ 21) (T_ 33) (.lit (.bool .false)))]) (.cond (T_ 34) .skip (.exit 2))) (.seq (.block 3 (.draw [[],[],[],[],[3],[],[],[6],[5,7,6],[8,5,7,6],[],[],[10,11],[12,10,11],[0,1,5,6,7,8,9,13,12,10,11],[14,0,1,5,6,7,8,9,13,12,10,11],[2,4,3,0,1,5,6,7,8,9,10,11,12,13,14,15],[16,2,4,3,0,1,5,6,7,8,9,10,11,12,13,14,15]] [m3 37 0,m3 38 9,m3 39 0,m3 40 9,o3 41 (.bin .sub (T_ 40) (L_ 1)),m3 42 0,m3 43 9,o3 44 (.bin .sub (T_ 43) (L_ 1)),o3 45 (.iaddrS 2 (T_ 42) (T_ 44)),o3 46 (.load .true 2 (T_ 45)),m3 47 0,m3 48 9,o3 49 (.iaddrS 2 (T_ 47) (T_ 48)),o3 50 (.load .true 2 (T_ 49)),o3 51 (.iaddrS 2 (T_ 37) (T_ 38)),o5 (.store 2 (T_ 51) (T_ 46)),o3 52 (.iaddrS 2 (T_ 39) (T_ 41)),o5 (.store 2 (T_ 52) (T_ 50))])) (.ops .false [m3 35 9,o3 36 (.bin .sub (T_ 35) (L_ 1)),m3 9 36])))
def ef:C:=(.seq (s_ [m3 12 8,m3 13 2,o3 14 (.bin .lss (T_ 12) (T_ 13))] (.cond (T_ 14) .skip (.exit 0))) (.seq (.block 1 (s_ [m3 17 8,m3 9 17] (.block 2 (.loop er)))) (.ops .false [m3 15 8,o3 16 (.bin .add (T_ 15) (L_ 1)),m3 8 16])))
def bc:CF:=(⟨53,[],.true,[],(s_ [m3 10 1,o3 11 (.bin .add (T_ 10) (L_ 1)),m3 8 11] (.block 0 (.loop ef)))⟩)
def bu:CF:=(⟨14,[],.true,[],(s_ [m3 5 0,o3 6 (.lenS (T_ 5)),m3 4 6] (.ops .false [m3 7 0,m3 8 4,m3 9 4,o3 10 (.conv .u64 (T_ 9)),o3 11 (.call (.lit (.func 65 [])) [(T_ 10)]),m3 12 1,o3 13 (.call (.lit (.func 64 [])) [(T_ 7),(L_ 0),(T_ 8),(T_ 11),(T_ 12)])]))⟩)
def Γs:Nat→Option FD
 |64=>some (.code bF)
 |78=>some (.code bc)
 |_=>none
def GL:Option D→Bool
 |some (.tuple [])=>true
 |_=>false
theorem BG {d:Option D} (h:GL d=true):d=some (.tuple []):=by
 unfold GL at h
 split at h
 ·rfl
 ·cases h
set_option maxRecDepth 100000 in
theorem zI:GL (aM Γs 100 64 [.slice .isnil 0 [],.int .i64 0,.int .i64 0,.int .i64 0,.func 45 []])=true:=by decide+kernel
theorem CU (x:Vk 2):∃a b,x.toList=[a,b]:=by
 have hl:x.toList.length=2:=by simp
 match hh:x.toList,hl with
 |[a,b],_=>exact⟨a,b,rfl⟩
end Go.Bes
namespace Go.Proofs.Ytcejefmekkiboaa
open Go.ChangeShapes Go.WideShapes Go.ChangeAt Go.RowKit Go.Ev Go.Bes
theorem Try.mixed:Try.prog.follows .mixedOrders=true:=by kernel_rfl
theorem Fz:aG Try.prog 64 bF.ro bF.mv=some bF:=by kernel_rfl
theorem Fc:aG Try.prog 78 bc.ro bc.mv=some bc:=by kernel_rfl
theorem yQ:Known Try.prog Γs:=by
 intro f fd h
 unfold Γs at h
 split at h
 ·cases h;exact Fz
 ·cases h;exact Fc
 ·cases h
open Go.Shelf in
def Try.sortE_ren:Go.Shelf.Ren:=⟨fun|6=>44|15=>65|14=>64|28=>86|29=>87|20=>78|21=>79|22=>80|23=>81|24=>82|25=>83|26=>84|27=>85|46=>90|47=>91|48=>92|49=>93|50=>94|57=>97|n=>n,fun|22=>60|24=>79|25=>90|3=>3|39=>114|0=>0|53=>132|55=>134|4=>4|46=>126|45=>125|50=>58|5=>5|9=>9|66=>136|70=>140|76=>144|77=>145|n=>n,fun|n=>n⟩
theorem Try.sortE:Go.Proofs.SlLaysF0.n6 Try.prog Try.sortE_ren:={
 mixed:=by kernel_rfl,
 f6:=⟨Try.f44.name,by decide,Try.func44.trans (congrArg some (by kernel_rfl))⟩,
 f14:=⟨Try.f64.name,by decide,Try.func64.trans (congrArg some (by kernel_rfl))⟩,
 f15:=Try.func65.trans (congrArg some (by kernel_rfl)),
 f20:=⟨Try.f78.name,by decide,Try.func78.trans (congrArg some (by kernel_rfl))⟩,
 f21:=⟨Try.f79.name,by decide,Try.func79.trans (congrArg some (by kernel_rfl))⟩,
 f22:=⟨Try.f80.name,by decide,Try.func80.trans (congrArg some (by kernel_rfl))⟩,
 f23:=⟨Try.f81.name,by decide,Try.func81.trans (congrArg some (by kernel_rfl))⟩,
 f24:=⟨Try.f82.name,by decide,Try.func82.trans (congrArg some (by kernel_rfl))⟩,
 f25:=⟨Try.f83.name,by decide,Try.func83.trans (congrArg some (by kernel_rfl))⟩,
 f26:=⟨Try.f84.name,by decide,Try.func84.trans (congrArg some (by kernel_rfl))⟩,
 f27:=⟨Try.f85.name,by decide,Try.func85.trans (congrArg some (by kernel_rfl))⟩,
 f28:=Try.func86.trans (congrArg some (by kernel_rfl)),
 f29:=Try.func87.trans (congrArg some (by kernel_rfl)),
 f46:=⟨Try.f90.name,by decide,Try.func90.trans (congrArg some (by kernel_rfl))⟩,
 f47:=Try.func91.trans (congrArg some (by kernel_rfl)),
 f48:=Try.func92.trans (congrArg some (by kernel_rfl)),
 f49:=⟨Try.f93.name,by decide,Try.func93.trans (congrArg some (by kernel_rfl))⟩,
 f50:=⟨Try.f94.name,by decide,Try.func94.trans (congrArg some (by kernel_rfl))⟩,
 f57:=⟨Try.f97.name,by decide,Try.func97.trans (congrArg some (by kernel_rfl))⟩,
 t0:=Try.underlying0,
 a0:=Try.isAgg0,
 z0:=Try.sizeOf0,
 v0:=Try.zeroValue0,
 t3:=Try.underlying3,
 a3:=Try.isAgg3,
 z3:=Try.sizeOf3,
 v3:=Try.zeroValue3,
 t4:=Try.underlying4,
 a4:=Try.isAgg4,
 z4:=Try.sizeOf4,
 v4:=Try.zeroValue4,
 t5:=Try.underlying5,
 a5:=Try.isAgg5,
 z5:=Try.sizeOf5,
 v5:=Try.zeroValue5,
 t9:=Try.underlying9,
 a9:=Try.isAgg9,
 z9:=Try.sizeOf9,
 v9:=Try.zeroValue9,
 t22:=Try.underlying60,
 a22:=Try.isAgg60,
 z22:=Try.sizeOf60,
 v22:=Try.zeroValue60,
 t25:=Try.underlying90,
 a25:=Try.isAgg90,
 z25:=Try.sizeOf90,
 v25:=Try.zeroValue90,
 t39:=Try.underlying114,
 a39:=Try.isAgg114,
 z39:=Try.sizeOf114,
 v39:=Try.zeroValue114,
 t45:=Try.underlying125,
 a45:=Try.isAgg125,
 z45:=Try.sizeOf125,
 v45:=Try.zeroValue125,
 t46:=Try.underlying126,
 a46:=Try.isAgg126,
 z46:=Try.sizeOf126,
 v46:=Try.zeroValue126,
 t50:=Try.underlying58,
 a50:=Try.isAgg58,
 z50:=Try.sizeOf58,
 v50:=Try.zeroValue58,
 t53:=Try.underlying132,
 a53:=Try.isAgg132,
 z53:=Try.sizeOf132,
 v53:=Try.zeroValue132,
 t55:=Try.underlying134,
 a55:=Try.isAgg134,
 z55:=Try.sizeOf134,
 v55:=Try.zeroValue134,
 t66:=Try.underlying136,
 a66:=Try.isAgg136,
 z66:=Try.sizeOf136,
 v66:=Try.zeroValue136,
 t70:=Try.underlying140,
 a70:=Try.isAgg140,
 z70:=Try.sizeOf140,
 v70:=Try.zeroValue140,
 t76:=Try.underlying144,
 a76:=Try.isAgg144,
 z76:=Try.sizeOf144,
 v76:=Try.zeroValue144,
 t77:=Try.underlying145,
 a77:=Try.isAgg145,
 z77:=Try.sizeOf145,
 v77:=Try.zeroValue145}
open Go.Shelf in
def Try.cmpInt_ren:Go.Shelf.Ren:=⟨fun|5=>24|7=>37|n=>n,fun|22=>3|3=>3|4=>4|n=>n,fun|n=>n⟩
theorem Try.cmpInt:Go.Proofs.SlLaysC2.n5 Try.prog Try.cmpInt_ren:={
 mixed:=by kernel_rfl,
 f5:=⟨Try.f24.name,by decide,Try.func24.trans (congrArg some (by kernel_rfl))⟩,
 f7:=⟨Try.f37.name,by decide,Try.func37.trans (congrArg some (by kernel_rfl))⟩,
 t3:=Try.underlying3,
 a3:=Try.isAgg3,
 z3:=Try.sizeOf3,
 v3:=Try.zeroValue3,
 t4:=Try.underlying4,
 a4:=Try.isAgg4,
 z4:=Try.sizeOf4,
 v4:=Try.zeroValue4,
 t22:=Try.underlying3,
 a22:=Try.isAgg3,
 z22:=Try.sizeOf3,
 v22:=Try.zeroValue3}
theorem Try.ntmps_clo:Try.f45.ntmps=10:=rfl
theorem Try.ntmps_sort:Try.f44.ntmps=14:=rfl
set_option maxHeartbeats 1000000 in
theorem uy (x y:Vk 2) (W:World):Calls Try.prog 45 #[.agg (fk 2 x).toArray,.agg (fk 2 y).toArray] W fun e w'=>e=.returned (.int .i64 (Lib.compareInt (kv 0 x) (kv 0 y)))∧∃q os',w'=Sort.grow (W.drewN q) os':=by
 have hcon:=fun W'=>AnyG.cmp_Compare_int Try.cmpInt (kv 0 x) (kv 0 y) W'
 change ∀W',Calls Try.prog 24 _ _ _ at hcon
 obtain⟨a0,a1,hx⟩:=CU x
 obtain⟨b0,b1,hy⟩:=CU y
 have e1:kv 0 x=a0:=by simp[kv,hx]
 have e2:kv 0 y=b0:=by simp[kv,hy]
 have e3:(fk 2 x).toArray= #[.int .i64 a0,.int .i64 a1]:=by simp[fk,hx]
 have e4:(fk 2 y).toArray= #[.int .i64 b0,.int .i64 b1]:=by simp[fk,hy]
 rw[e3,e4]
 rw[e1,e2]at hcon ⊢
 clear e1 e2 e3 e4 hx hy
 generalize Lib.compareInt a0 b0=r at hcon ⊢
 go_enter Try.func45,Try.ntmps_clo
 go_wp2_with (go_at_call 24;refine(hcon _).mono ?_;rintro e w' ⟨rfl,rfl⟩)
 go_ret
 exact⟨rfl,0,_,by rw[Sort.alloc_eq_grow,Sort.alloc_eq_grow,Sort.grow_grow];rfl⟩
theorem rb (W:World):Calls Try.prog 64 #[.slice none 0 0,.int .i64 0,.int .i64 0,.int .i64 0,.func (.func 45) #[] #[]] W fun e w'=>e=.returned (.tuple #[])∧Below W.heap.size W w':=by
 have hV:VRs W (Cy W) [.slice .isnil 0 [],.int .i64 0,.int .i64 0,.int .i64 0,.func 45 []] (#[.slice none 0 0,.int .i64 0,.int .i64 0,.int .i64 0,.func (.func 45) #[] #[]]:Array Value).toList:=by
  refine⟨rfl,fun j d v hd hv=>?_⟩
  match j with
  |0=>cases hd;cases hv;exact .slice .isnil 0 [] none 0 0 (fun _ _=>Go.undef) rfl (Nat.le_refl _) ⟨rfl,rfl,rfl⟩ (fun i x h=>by simp at h) (fun i x j c h=>by simp at h) (fun i x j c h=>by simp at h)
  |1=>cases hd;cases hv;exact .int _ _
  |2=>cases hd;cases hv;exact .int _ _
  |3=>cases hd;cases hv;exact .int _ _
  |4=>cases hd;cases hv;exact .func _ [] #[] rfl (fun j c v h=>by simp at h)
  |j+5=>simp at hd
 obtain⟨_,hC⟩:=(o8 yQ Try.mixed 100).pure_ (BG zI) (by
  intro d hd
  simp at hd
  rcases hd with rfl|rfl|rfl|rfl|rfl<;>exact⟨rfl,rfl⟩) (tG W) hV
 refine hC.mono fun e w' hR=>?_
 obtain⟨v,rfl,_,hmv⟩:=hR
 obtain⟨g',hv,hst⟩:=hmv false
 refine⟨?_,hst.ext.below⟩
 have hv:VR w' g' (.tuple []) v:=hv
 cases hv with
 |tuple cs vs hl hvv=>
  have:vs= #[]:=by simpa using hl.symm
  rw[this]
set_option maxHeartbeats 1000000 in
theorem rn (W:World):Calls Try.prog 44 #[.slice none 0 0,.func (.func 45) #[] #[]] W fun e w'=>e=.returned (.tuple #[])∧Below W.heap.size W w':=by
 have hl:∀W,Calls Try.prog 65 #[.int .u64 0] W fun e w'=>e=.returned (.int .i64 0)∧w'=W:=fun W=>
  Any.bits_Len (SlLaysF0.n15.bits (P:=Try.prog) (ρ:=Try.sortE_ren) {Try.sortE with}) 0 W (by omega) (by omega)
 have hp:=rb
 go_enter Try.func44,Try.ntmps_sort
 go_wp2_with (first|(go_at_call 65;refine(hl _).mono ?_;rintro e w' ⟨rfl,rfl⟩)|(go_at_call 64;refine(hp _).mono ?_;rintro e w' ⟨rfl,hb⟩))
 go_end0
 exact⟨rfl,hb⟩
theorem FJ:Sort.SWO (ltOf fun x y:Vk 2=>Lib.compareInt (kv 0 x) (kv 0 y)):=by
 have e:∀x y:Vk 2,ltOf (fun x y:Vk 2=>Lib.compareInt (kv 0 x) (kv 0 y)) x y=decide (kv 0 x<kv 0 y):=fun x y=>by
  unfold ltOf Lib.compareInt
  by_cases h1:kv 0 x<kv 0 y
  ·simp[h1]
  ·by_cases h2:kv 0 y<kv 0 x<;>simp[h1,h2]
 refine⟨fun x=>?_,fun x y z h1 h2=>?_,fun x y z h1 h2=>?_⟩
 ·rw[e];simp
 ·rw[e]at*;simp at*;omega
 ·rw[e]at*;simp at*;omega
theorem sort_known:PrimSOK Try.prog 44 (jZ 2 0 45):=by
 have E:Ev.Hj Try.prog 44:=(dm (show aG Try.prog 44 bu.ro bu.mv=some bu by kernel_rfl)).choose_spec.choose_spec.2.2.1
 have eg:∀args w,(callFunc 45 args).run Try.prog w=.ok (.enter 45 args) w:=enters_of Try.func45 (by kernel_rfl) rfl
 refine sL (by decide) E (fun blk off cap d w hH hblk hsz=>?_) rn
 exact AnyQ.slices_SortFunc Try.sortE 2 Try.isAgg79 Try.sizeOf79 (fk 2) wr (fun x v hv=>by
  obtain⟨n,_,rfl⟩:=List.mem_map.mp hv
  rfl) (fun x y=>Lib.compareInt (kv 0 x) (kv 0 y)) FJ 45 #[] blk off cap d w eg (fun _ _ _ _ x y=>uy x y _) hH hblk hsz
end Go.Proofs.Ytcejefmekkiboaa
