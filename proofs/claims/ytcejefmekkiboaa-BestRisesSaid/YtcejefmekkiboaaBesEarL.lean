/-
  slices.SortFunc of times by their nodes, as a known function of the program.
-/
import Derived.Test.YtcejefmekkiboaaBesBesC
import Derived.Test.YtcejefmekkiboaaEvEvN
import Derived.Test.YtcejefmekkiboaaEvEvZ2
import Derived.Test.YtcejefmekkiboaaRows
import Derived.Shelf.SlicesG.Cmp
import Derived.ProofKit
import Derived.WalkSpells
set_option linter.unusedVariables false
set_option linter.unusedSimpArgs false
set_option linter.unnecessarySimpa false
namespace Go.Bes
open Go.Ev
def fU:C:=(.block 1 (.seq (.ops .false [⟨(.some 21),.none,.false,(.mov (.tmp 2))⟩,⟨(.some 22),.none,.false,(.mov (.tmp 1))⟩,⟨(.some 23),.none,.false,(.bin .sub (.tmp 21) (.tmp 22))⟩,⟨(.some 12),.none,.false,(.mov (.tmp 23))⟩]) (.seq (.seq (.ops .false [⟨(.some 24),.none,.false,(.mov (.tmp 12))⟩,⟨(.some 25),.none,.false,(.bin .leq (.tmp 24) (.lit (.int .i64 12)))⟩]) (.cond (.tmp 25) (.seq (.ops .false [⟨(.some 26),.none,.false,(.mov (.tmp 0))⟩,⟨(.some 27),.none,.false,(.mov (.tmp 1))⟩,⟨(.some 28),.none,.false,(.mov (.tmp 2))⟩,⟨(.some 29),.none,.false,(.mov (.tmp 4))⟩,⟨(.some 30),.none,.false,(.call (.lit (.func 78 [])) [(.tmp 26),(.tmp 27),(.tmp 28),(.tmp 29)])⟩]) .ret) .skip)) (.seq (.seq (.ops .false [⟨(.some 31),.none,.false,(.mov (.tmp 3))⟩,⟨(.some 32),.none,.false,(.bin .eql (.tmp 31) (.lit (.int .i64 0)))⟩]) (.cond (.tmp 32) (.seq (.ops .false [⟨(.some 33),.none,.false,(.mov (.tmp 0))⟩,⟨(.some 34),.none,.false,(.mov (.tmp 1))⟩,⟨(.some 35),.none,.false,(.mov (.tmp 2))⟩,⟨(.some 36),.none,.false,(.mov (.tmp 4))⟩,⟨(.some 37),.none,.false,(.call (.lit (.func 79 [])) [(.tmp 33),(.tmp 34),(.tmp 35),(.tmp 36)])⟩]) .ret) .skip)) (.seq (.seq (.ops .false [⟨(.some 38),.none,.false,(.mov (.tmp 10))⟩,⟨(.some 39),.none,.false,(.not (.tmp 38))⟩]) (.cond (.tmp 39) (.seq (.ops .false [⟨(.some 40),.none,.false,(.mov (.tmp 0))⟩,⟨(.some 41),.none,.false,(.mov (.tmp 1))⟩,⟨(.some 42),.none,.false,(.mov (.tmp 2))⟩,⟨(.some 43),.none,.false,(.mov (.tmp 4))⟩,⟨(.some 44),.none,.false,(.call (.lit (.func 80 [])) [(.tmp 40),(.tmp 41),(.tmp 42),(.tmp 43)])⟩]) (.ops .false [⟨(.some 45),.none,.false,(.mov (.tmp 3))⟩,⟨(.some 46),.none,.false,(.bin .sub (.tmp 45) (.lit (.int .i64 1)))⟩,⟨(.some 3),.none,.false,(.mov (.tmp 46))⟩])) .skip)) (.seq (.ops .false [⟨(.some 48),.none,.false,(.mov (.tmp 0))⟩,⟨(.some 49),.none,.false,(.mov (.tmp 1))⟩,⟨(.some 50),.none,.false,(.mov (.tmp 2))⟩,⟨(.some 51),.none,.false,(.mov (.tmp 4))⟩,⟨(.some 52),.none,.false,(.call (.lit (.func 81 [])) [(.tmp 48),(.tmp 49),(.tmp 50),(.tmp 51)])⟩,⟨(.some 47),.none,.false,(.mov (.tmp 52))⟩,⟨(.some 53),.none,.false,(.extract (.tmp 47) 0)⟩,⟨(.some 54),.none,.false,(.extract (.tmp 47) 1)⟩,⟨(.some 13),.none,.false,(.mov (.tmp 53))⟩,⟨(.some 14),.none,.false,(.mov (.tmp 54))⟩]) (.seq (.seq (.ops .false [⟨(.some 55),.none,.false,(.mov (.tmp 14))⟩,⟨(.some 56),.none,.false,(.bin .eql (.tmp 55) (.lit (.int .i64 2)))⟩]) (.cond (.tmp 56) (.seq (.ops .false [⟨(.some 57),.none,.false,(.mov (.tmp 0))⟩,⟨(.some 58),.none,.false,(.mov (.tmp 1))⟩,⟨(.some 59),.none,.false,(.mov (.tmp 2))⟩,⟨(.some 60),.none,.false,(.mov (.tmp 4))⟩,⟨(.some 61),.none,.false,(.call (.lit (.func 82 [])) [(.tmp 57),(.tmp 58),(.tmp 59),(.tmp 60)])⟩]) (.seq (.ops .false [⟨(.some 62),.none,.false,(.mov (.tmp 2))⟩,⟨(.some 63),.none,.false,(.bin .sub (.tmp 62) (.lit (.int .i64 1)))⟩,⟨(.some 64),.none,.false,(.mov (.tmp 13))⟩,⟨(.some 65),.none,.false,(.mov (.tmp 1))⟩,⟨(.some 66),.none,.false,(.bin .sub (.tmp 64) (.tmp 65))⟩,⟨(.some 67),.none,.false,(.bin .sub (.tmp 63) (.tmp 66))⟩,⟨(.some 13),.none,.false,(.mov (.tmp 67))⟩]) (.ops .false [⟨(.some 14),.none,.false,(.mov (.lit (.int .i64 1)))⟩]))) .skip)) (.seq (.seq (.ops .false [⟨(.some 68),.none,.false,(.mov (.tmp 10))⟩,⟨(.some 69),.none,.false,(.mov (.tmp 68))⟩,⟨(.some 70),(.some (69,.true)),.false,(.mov (.tmp 11))⟩,⟨(.some 71),.none,.false,(.pick (.tmp 69) (.tmp 70) (.lit (.bool .false)))⟩,⟨(.some 72),.none,.false,(.mov (.tmp 71))⟩,⟨(.some 73),(.some (72,.true)),.false,(.mov (.tmp 14))⟩,⟨(.some 74),(.some (72,.true)),.false,(.bin .eql (.tmp 73) (.lit (.int .i64 1)))⟩,⟨(.some 75),.none,.false,(.pick (.tmp 72) (.tmp 74) (.lit (.bool .false)))⟩]) (.cond (.tmp 75) (.seq (.ops .false [⟨(.some 76),.none,.false,(.mov (.tmp 0))⟩,⟨(.some 77),.none,.false,(.mov (.tmp 1))⟩,⟨(.some 78),.none,.false,(.mov (.tmp 2))⟩,⟨(.some 79),.none,.false,(.mov (.tmp 4))⟩,⟨(.some 80),.none,.false,(.call (.lit (.func 83 [])) [(.tmp 76),(.tmp 77),(.tmp 78),(.tmp 79)])⟩]) (.cond (.tmp 80) .ret .skip)) .skip)) (.seq (.seq (.draw [[],[0],[1,0],[2,1,0],[2,1,0],[2,1,0],[5,2,1,0],[4,2,1,0,6,5],[7,4,2,1,0,6,5],[2,1,0],[2,1,0],[9,2,1,0,10],[11,9,2,1,0,10],[3,2,1,0,8,7,4,6,5,12,11,9,10],[13,3,2,1,0,8,7,4,6,5,12,11,9,10],[14,13,3,2,1,0,8,7,4,6,5,12,11,9,10],[2,1,0,15,14,13,3,8,7,4,6,5,12,11,9,10]] [⟨(.some 81),.none,.false,(.mov (.tmp 1))⟩,⟨(.some 82),.none,.false,(.bin .gtr (.tmp 81) (.lit (.int .i64 0)))⟩,⟨(.some 83),.none,.false,(.mov (.tmp 82))⟩,⟨(.some 84),(.some (83,.true)),.false,(.mov (.tmp 4))⟩,⟨(.some 85),(.some (83,.true)),.false,(.mov (.tmp 0))⟩,⟨(.some 86),(.some (83,.true)),.false,(.mov (.tmp 1))⟩,⟨(.some 87),(.some (83,.true)),.false,(.bin .sub (.tmp 86) (.lit (.int .i64 1)))⟩,⟨(.some 88),(.some (83,.true)),.false,(.iaddrS 2 (.tmp 85) (.tmp 87))⟩,⟨(.some 89),(.some (83,.true)),.false,(.load .true 2 (.tmp 88))⟩,⟨(.some 90),(.some (83,.true)),.false,(.mov (.tmp 0))⟩,⟨(.some 91),(.some (83,.true)),.false,(.mov (.tmp 13))⟩,⟨(.some 92),(.some (83,.true)),.false,(.iaddrS 2 (.tmp 90) (.tmp 91))⟩,⟨(.some 93),(.some (83,.true)),.false,(.load .true 2 (.tmp 92))⟩,⟨(.some 94),(.some (83,.true)),.false,(.call (.tmp 84) [(.tmp 89),(.tmp 93)])⟩,⟨(.some 95),(.some (83,.true)),.false,(.bin .lss (.tmp 94) (.lit (.int .i64 0)))⟩,⟨(.some 96),(.some (83,.true)),.false,(.not (.tmp 95))⟩,⟨(.some 97),.none,.false,(.pick (.tmp 83) (.tmp 96) (.lit (.bool .false)))⟩]) (.cond (.tmp 97) (.seq (.ops .false [⟨(.some 98),.none,.false,(.mov (.tmp 0))⟩,⟨(.some 99),.none,.false,(.mov (.tmp 1))⟩,⟨(.some 100),.none,.false,(.mov (.tmp 2))⟩,⟨(.some 101),.none,.false,(.mov (.tmp 13))⟩,⟨(.some 102),.none,.false,(.mov (.tmp 4))⟩,⟨(.some 103),.none,.false,(.call (.lit (.func 84 [])) [(.tmp 98),(.tmp 99),(.tmp 100),(.tmp 101),(.tmp 102)])⟩,⟨(.some 15),.none,.false,(.mov (.tmp 103))⟩]) (.seq (.ops .false [⟨(.some 104),.none,.false,(.mov (.tmp 15))⟩,⟨(.some 1),.none,.false,(.mov (.tmp 104))⟩]) (.exit 1))) .skip)) (.seq (.ops .false [⟨(.some 106),.none,.false,(.mov (.tmp 0))⟩,⟨(.some 107),.none,.false,(.mov (.tmp 1))⟩,⟨(.some 108),.none,.false,(.mov (.tmp 2))⟩,⟨(.some 109),.none,.false,(.mov (.tmp 13))⟩,⟨(.some 110),.none,.false,(.mov (.tmp 4))⟩,⟨(.some 111),.none,.false,(.call (.lit (.func 85 [])) [(.tmp 106),(.tmp 107),(.tmp 108),(.tmp 109),(.tmp 110)])⟩,⟨(.some 105),.none,.false,(.mov (.tmp 111))⟩,⟨(.some 112),.none,.false,(.extract (.tmp 105) 0)⟩,⟨(.some 113),.none,.false,(.extract (.tmp 105) 1)⟩,⟨(.some 16),.none,.false,(.mov (.tmp 112))⟩,⟨(.some 17),.none,.false,(.mov (.tmp 113))⟩]) (.seq (.ops .false [⟨(.some 114),.none,.false,(.mov (.tmp 17))⟩,⟨(.some 11),.none,.false,(.mov (.tmp 114))⟩]) (.seq (.ops .false [⟨(.some 115),.none,.false,(.mov (.tmp 16))⟩,⟨(.some 116),.none,.false,(.mov (.tmp 1))⟩,⟨(.some 117),.none,.false,(.bin .sub (.tmp 115) (.tmp 116))⟩,⟨(.some 118),.none,.false,(.mov (.tmp 2))⟩,⟨(.some 119),.none,.false,(.mov (.tmp 16))⟩,⟨(.some 120),.none,.false,(.bin .sub (.tmp 118) (.tmp 119))⟩,⟨(.some 18),.none,.false,(.mov (.tmp 117))⟩,⟨(.some 19),.none,.false,(.mov (.tmp 120))⟩]) (.seq (.ops .false [⟨(.some 121),.none,.false,(.mov (.tmp 12))⟩,⟨(.some 122),.none,.false,(.bin .quo (.tmp 121) (.lit (.int .i64 8)))⟩,⟨(.some 20),.none,.false,(.mov (.tmp 122))⟩]) (.seq (.ops .false [⟨(.some 123),.none,.false,(.mov (.tmp 18))⟩,⟨(.some 124),.none,.false,(.mov (.tmp 19))⟩,⟨(.some 125),.none,.false,(.bin .lss (.tmp 123) (.tmp 124))⟩]) (.cond (.tmp 125) (.seq (.ops .false [⟨(.some 126),.none,.false,(.mov (.tmp 18))⟩,⟨(.some 127),.none,.false,(.mov (.tmp 20))⟩,⟨(.some 128),.none,.false,(.bin .geq (.tmp 126) (.tmp 127))⟩,⟨(.some 10),.none,.false,(.mov (.tmp 128))⟩]) (.seq (.ops .false [⟨(.some 129),.none,.false,(.mov (.tmp 0))⟩,⟨(.some 130),.none,.false,(.mov (.tmp 1))⟩,⟨(.some 131),.none,.false,(.mov (.tmp 16))⟩,⟨(.some 132),.none,.false,(.mov (.tmp 3))⟩,⟨(.some 133),.none,.false,(.mov (.tmp 4))⟩,⟨(.some 134),.none,.false,(.call (.lit (.func 64 [])) [(.tmp 129),(.tmp 130),(.tmp 131),(.tmp 132),(.tmp 133)])⟩]) (.ops .false [⟨(.some 135),.none,.false,(.mov (.tmp 16))⟩,⟨(.some 136),.none,.false,(.bin .add (.tmp 135) (.lit (.int .i64 1)))⟩,⟨(.some 1),.none,.false,(.mov (.tmp 136))⟩]))) (.seq (.ops .false [⟨(.some 137),.none,.false,(.mov (.tmp 19))⟩,⟨(.some 138),.none,.false,(.mov (.tmp 20))⟩,⟨(.some 139),.none,.false,(.bin .geq (.tmp 137) (.tmp 138))⟩,⟨(.some 10),.none,.false,(.mov (.tmp 139))⟩]) (.seq (.ops .false [⟨(.some 140),.none,.false,(.mov (.tmp 0))⟩,⟨(.some 141),.none,.false,(.mov (.tmp 16))⟩,⟨(.some 142),.none,.false,(.bin .add (.tmp 141) (.lit (.int .i64 1)))⟩,⟨(.some 143),.none,.false,(.mov (.tmp 2))⟩,⟨(.some 144),.none,.false,(.mov (.tmp 3))⟩,⟨(.some 145),.none,.false,(.mov (.tmp 4))⟩,⟨(.some 146),.none,.false,(.call (.lit (.func 64 [])) [(.tmp 140),(.tmp 142),(.tmp 143),(.tmp 144),(.tmp 145)])⟩]) (.ops .false [⟨(.some 147),.none,.false,(.mov (.tmp 16))⟩,⟨(.some 2),.none,.false,(.mov (.tmp 147))⟩]))))))))))))))))))
def bF:CF:=(⟨148,[],.true,[],(.seq (.ops .false [⟨(.some 10),.none,.false,(.mov (.lit (.bool .true)))⟩]) (.seq (.ops .false [⟨(.some 11),.none,.false,(.mov (.lit (.bool .true)))⟩]) (.block 0 (.loop fU))))⟩)
def er:C:=(.seq (.seq (.draw [[],[],[0,1],[2,0,1],[3,2,0,1],[3,2,0,1],[3,2,0,1],[5,3,2,0,1,6],[7,5,3,2,0,1,6],[3,2,0,1],[3,2,0,1],[10,3,2,0,1],[9,3,2,0,1,11,10],[12,9,3,2,0,1,11,10],[4,3,2,0,1,8,7,5,6,13,12,9,11,10],[14,4,3,2,0,1,8,7,5,6,13,12,9,11,10],[3,2,0,1,15,14,4,8,7,5,6,13,12,9,11,10]] [⟨(.some 18),.none,.false,(.mov (.tmp 9))⟩,⟨(.some 19),.none,.false,(.mov (.tmp 1))⟩,⟨(.some 20),.none,.false,(.bin .gtr (.tmp 18) (.tmp 19))⟩,⟨(.some 21),.none,.false,(.mov (.tmp 20))⟩,⟨(.some 22),(.some (21,.true)),.false,(.mov (.tmp 3))⟩,⟨(.some 23),(.some (21,.true)),.false,(.mov (.tmp 0))⟩,⟨(.some 24),(.some (21,.true)),.false,(.mov (.tmp 9))⟩,⟨(.some 25),(.some (21,.true)),.false,(.iaddrS 2 (.tmp 23) (.tmp 24))⟩,⟨(.some 26),(.some (21,.true)),.false,(.load .true 2 (.tmp 25))⟩,⟨(.some 27),(.some (21,.true)),.false,(.mov (.tmp 0))⟩,⟨(.some 28),(.some (21,.true)),.false,(.mov (.tmp 9))⟩,⟨(.some 29),(.some (21,.true)),.false,(.bin .sub (.tmp 28) (.lit (.int .i64 1)))⟩,⟨(.some 30),(.some (21,.true)),.false,(.iaddrS 2 (.tmp 27) (.tmp 29))⟩,⟨(.some 31),(.some (21,.true)),.false,(.load .true 2 (.tmp 30))⟩,⟨(.some 32),(.some (21,.true)),.false,(.call (.tmp 22) [(.tmp 26),(.tmp 31)])⟩,⟨(.some 33),(.some (21,.true)),.false,(.bin .lss (.tmp 32) (.lit (.int .i64 0)))⟩,⟨(.some 34),.none,.false,(.pick (.tmp 21) (.tmp 33) (.lit (.bool .false)))⟩]) (.cond (.tmp 34) .skip (.exit 2))) (.seq (.block 3 (.draw [[],[],[],[],[3],[],[],[6],[5,7,6],[8,5,7,6],[],[],[10,11],[12,10,11],[0,1,5,6,7,8,9,13,12,10,11],[14,0,1,5,6,7,8,9,13,12,10,11],[2,4,3,0,1,5,6,7,8,9,10,11,12,13,14,15],[16,2,4,3,0,1,5,6,7,8,9,10,11,12,13,14,15]] [⟨(.some 37),.none,.false,(.mov (.tmp 0))⟩,⟨(.some 38),.none,.false,(.mov (.tmp 9))⟩,⟨(.some 39),.none,.false,(.mov (.tmp 0))⟩,⟨(.some 40),.none,.false,(.mov (.tmp 9))⟩,⟨(.some 41),.none,.false,(.bin .sub (.tmp 40) (.lit (.int .i64 1)))⟩,⟨(.some 42),.none,.false,(.mov (.tmp 0))⟩,⟨(.some 43),.none,.false,(.mov (.tmp 9))⟩,⟨(.some 44),.none,.false,(.bin .sub (.tmp 43) (.lit (.int .i64 1)))⟩,⟨(.some 45),.none,.false,(.iaddrS 2 (.tmp 42) (.tmp 44))⟩,⟨(.some 46),.none,.false,(.load .true 2 (.tmp 45))⟩,⟨(.some 47),.none,.false,(.mov (.tmp 0))⟩,⟨(.some 48),.none,.false,(.mov (.tmp 9))⟩,⟨(.some 49),.none,.false,(.iaddrS 2 (.tmp 47) (.tmp 48))⟩,⟨(.some 50),.none,.false,(.load .true 2 (.tmp 49))⟩,⟨(.some 51),.none,.false,(.iaddrS 2 (.tmp 37) (.tmp 38))⟩,⟨.none,.none,.false,(.store 2 (.tmp 51) (.tmp 46))⟩,⟨(.some 52),.none,.false,(.iaddrS 2 (.tmp 39) (.tmp 41))⟩,⟨.none,.none,.false,(.store 2 (.tmp 52) (.tmp 50))⟩])) (.ops .false [⟨(.some 35),.none,.false,(.mov (.tmp 9))⟩,⟨(.some 36),.none,.false,(.bin .sub (.tmp 35) (.lit (.int .i64 1)))⟩,⟨(.some 9),.none,.false,(.mov (.tmp 36))⟩])))
def ef:C:=(.seq (.seq (.ops .false [⟨(.some 12),.none,.false,(.mov (.tmp 8))⟩,⟨(.some 13),.none,.false,(.mov (.tmp 2))⟩,⟨(.some 14),.none,.false,(.bin .lss (.tmp 12) (.tmp 13))⟩]) (.cond (.tmp 14) .skip (.exit 0))) (.seq (.block 1 (.seq (.ops .false [⟨(.some 17),.none,.false,(.mov (.tmp 8))⟩,⟨(.some 9),.none,.false,(.mov (.tmp 17))⟩]) (.block 2 (.loop er)))) (.ops .false [⟨(.some 15),.none,.false,(.mov (.tmp 8))⟩,⟨(.some 16),.none,.false,(.bin .add (.tmp 15) (.lit (.int .i64 1)))⟩,⟨(.some 8),.none,.false,(.mov (.tmp 16))⟩])))
def bc:CF:=(⟨53,[],.true,[],(.seq (.ops .false [⟨(.some 10),.none,.false,(.mov (.tmp 1))⟩,⟨(.some 11),.none,.false,(.bin .add (.tmp 10) (.lit (.int .i64 1)))⟩,⟨(.some 8),.none,.false,(.mov (.tmp 11))⟩]) (.block 0 (.loop ef)))⟩)
def bu:CF:=(⟨14,[],.true,[],(.seq (.ops .false [⟨(.some 5),.none,.false,(.mov (.tmp 0))⟩,⟨(.some 6),.none,.false,(.lenS (.tmp 5))⟩,⟨(.some 4),.none,.false,(.mov (.tmp 6))⟩]) (.ops .false [⟨(.some 7),.none,.false,(.mov (.tmp 0))⟩,⟨(.some 8),.none,.false,(.mov (.tmp 4))⟩,⟨(.some 9),.none,.false,(.mov (.tmp 4))⟩,⟨(.some 10),.none,.false,(.conv .u64 (.tmp 9))⟩,⟨(.some 11),.none,.false,(.call (.lit (.func 65 [])) [(.tmp 10)])⟩,⟨(.some 12),.none,.false,(.mov (.tmp 1))⟩,⟨(.some 13),.none,.false,(.call (.lit (.func 64 [])) [(.tmp 7),(.lit (.int .i64 0)),(.tmp 8),(.tmp 11),(.tmp 12)])⟩]))⟩)
def Γs:Nat→Option FD
 |64=>some (.code bF)
 |78=>some (.code bc)
 |_=>none
def GL:Option D→Bool
 |some (.tuple [])=>true
 |_=>false
theorem BG {d:Option D} (h:GL d=true):d=some (.tuple []):=by
 unfold GL at h
 split at h
 ·rfl
 ·cases h
set_option maxRecDepth 100000 in
theorem zI:GL (aM Γs 100 64 [.slice .isnil 0 [],.int .i64 0,.int .i64 0,.int .i64 0,.func 45 []])=true:=by decide+kernel
theorem CU (x:Vk 2):∃a b,x.toList=[a,b]:=by
 have hl:x.toList.length=2:=by simp
 match hh:x.toList,hl with
 |[a,b],_=>exact⟨a,b,rfl⟩
end Go.Bes
namespace Go.Proofs.Ytcejefmekkiboaa
open Go.ChangeShapes Go.WideShapes Go.ChangeAt Go.RowKit Go.Ev Go.Bes
theorem Try.mixed:Try.prog.follows .mixedOrders=true:=by kernel_rfl
theorem Fz:aG Try.prog 64 bF.ro bF.mv=some bF:=by kernel_rfl
theorem Fc:aG Try.prog 78 bc.ro bc.mv=some bc:=by kernel_rfl
theorem yQ:Known Try.prog Γs:=by
 intro f fd h
 unfold Γs at h
 split at h
 ·cases h;exact Fz
 ·cases h;exact Fc
 ·cases h
open Go.Shelf in
def Try.sortE_ren:Go.Shelf.Ren:=⟨fun|6=>44|15=>65|14=>64|28=>86|29=>87|20=>78|21=>79|22=>80|23=>81|24=>82|25=>83|26=>84|27=>85|46=>90|47=>91|48=>92|49=>93|50=>94|57=>97|n=>n,fun|22=>60|24=>79|25=>90|3=>3|39=>114|0=>0|53=>132|55=>134|4=>4|46=>126|45=>125|50=>58|5=>5|9=>9|66=>136|70=>140|76=>144|77=>145|n=>n,fun|n=>n⟩
theorem Try.sortE:Go.Proofs.SlLaysF0.n6 Try.prog Try.sortE_ren:={
 mixed:=by kernel_rfl,
 f6:=⟨Try.f44.name,by decide,Try.func44.trans (congrArg some (by kernel_rfl))⟩,
 f14:=⟨Try.f64.name,by decide,Try.func64.trans (congrArg some (by kernel_rfl))⟩,
 f15:=Try.func65.trans (congrArg some (by kernel_rfl)),
 f20:=⟨Try.f78.name,by decide,Try.func78.trans (congrArg some (by kernel_rfl))⟩,
 f21:=⟨Try.f79.name,by decide,Try.func79.trans (congrArg some (by kernel_rfl))⟩,
 f22:=⟨Try.f80.name,by decide,Try.func80.trans (congrArg some (by kernel_rfl))⟩,
 f23:=⟨Try.f81.name,by decide,Try.func81.trans (congrArg some (by kernel_rfl))⟩,
 f24:=⟨Try.f82.name,by decide,Try.func82.trans (congrArg some (by kernel_rfl))⟩,
 f25:=⟨Try.f83.name,by decide,Try.func83.trans (congrArg some (by kernel_rfl))⟩,
 f26:=⟨Try.f84.name,by decide,Try.func84.trans (congrArg some (by kernel_rfl))⟩,
 f27:=⟨Try.f85.name,by decide,Try.func85.trans (congrArg some (by kernel_rfl))⟩,
 f28:=Try.func86.trans (congrArg some (by kernel_rfl)),
 f29:=Try.func87.trans (congrArg some (by kernel_rfl)),
 f46:=⟨Try.f90.name,by decide,Try.func90.trans (congrArg some (by kernel_rfl))⟩,
 f47:=Try.func91.trans (congrArg some (by kernel_rfl)),
 f48:=Try.func92.trans (congrArg some (by kernel_rfl)),
 f49:=⟨Try.f93.name,by decide,Try.func93.trans (congrArg some (by kernel_rfl))⟩,
 f50:=⟨Try.f94.name,by decide,Try.func94.trans (congrArg some (by kernel_rfl))⟩,
 f57:=⟨Try.f97.name,by decide,Try.func97.trans (congrArg some (by kernel_rfl))⟩,
 t0:=Try.underlying0,
 a0:=Try.isAgg0,
 z0:=Try.sizeOf0,
 v0:=Try.zeroValue0,
 t3:=Try.underlying3,
 a3:=Try.isAgg3,
 z3:=Try.sizeOf3,
 v3:=Try.zeroValue3,
 t4:=Try.underlying4,
 a4:=Try.isAgg4,
 z4:=Try.sizeOf4,
 v4:=Try.zeroValue4,
 t5:=Try.underlying5,
 a5:=Try.isAgg5,
 z5:=Try.sizeOf5,
 v5:=Try.zeroValue5,
 t9:=Try.underlying9,
 a9:=Try.isAgg9,
 z9:=Try.sizeOf9,
 v9:=Try.zeroValue9,
 t22:=Try.underlying60,
 a22:=Try.isAgg60,
 z22:=Try.sizeOf60,
 v22:=Try.zeroValue60,
 t25:=Try.underlying90,
 a25:=Try.isAgg90,
 z25:=Try.sizeOf90,
 v25:=Try.zeroValue90,
 t39:=Try.underlying114,
 a39:=Try.isAgg114,
 z39:=Try.sizeOf114,
 v39:=Try.zeroValue114,
 t45:=Try.underlying125,
 a45:=Try.isAgg125,
 z45:=Try.sizeOf125,
 v45:=Try.zeroValue125,
 t46:=Try.underlying126,
 a46:=Try.isAgg126,
 z46:=Try.sizeOf126,
 v46:=Try.zeroValue126,
 t50:=Try.underlying58,
 a50:=Try.isAgg58,
 z50:=Try.sizeOf58,
 v50:=Try.zeroValue58,
 t53:=Try.underlying132,
 a53:=Try.isAgg132,
 z53:=Try.sizeOf132,
 v53:=Try.zeroValue132,
 t55:=Try.underlying134,
 a55:=Try.isAgg134,
 z55:=Try.sizeOf134,
 v55:=Try.zeroValue134,
 t66:=Try.underlying136,
 a66:=Try.isAgg136,
 z66:=Try.sizeOf136,
 v66:=Try.zeroValue136,
 t70:=Try.underlying140,
 a70:=Try.isAgg140,
 z70:=Try.sizeOf140,
 v70:=Try.zeroValue140,
 t76:=Try.underlying144,
 a76:=Try.isAgg144,
 z76:=Try.sizeOf144,
 v76:=Try.zeroValue144,
 t77:=Try.underlying145,
 a77:=Try.isAgg145,
 z77:=Try.sizeOf145,
 v77:=Try.zeroValue145}
open Go.Shelf in
def Try.cmpInt_ren:Go.Shelf.Ren:=⟨fun|5=>24|7=>37|n=>n,fun|22=>3|3=>3|4=>4|n=>n,fun|n=>n⟩
theorem Try.cmpInt:Go.Proofs.SlLaysC2.n5 Try.prog Try.cmpInt_ren:={
 mixed:=by kernel_rfl,
 f5:=⟨Try.f24.name,by decide,Try.func24.trans (congrArg some (by kernel_rfl))⟩,
 f7:=⟨Try.f37.name,by decide,Try.func37.trans (congrArg some (by kernel_rfl))⟩,
 t3:=Try.underlying3,
 a3:=Try.isAgg3,
 z3:=Try.sizeOf3,
 v3:=Try.zeroValue3,
 t4:=Try.underlying4,
 a4:=Try.isAgg4,
 z4:=Try.sizeOf4,
 v4:=Try.zeroValue4,
 t22:=Try.underlying3,
 a22:=Try.isAgg3,
 z22:=Try.sizeOf3,
 v22:=Try.zeroValue3}
theorem Try.ntmps_clo:Try.f45.ntmps=10:=rfl
theorem Try.ntmps_sort:Try.f44.ntmps=14:=rfl
set_option maxHeartbeats 1000000 in
theorem uy (x y:Vk 2) (W:World):Calls Try.prog 45 #[.agg (fk 2 x).toArray,.agg (fk 2 y).toArray] W fun e w'=>e=.returned (.int .i64 (Lib.compareInt (kv 0 x) (kv 0 y)))∧∃q os',w'=Sort.grow (W.drewN q) os':=by
 have hcon:=fun W'=>AnyG.cmp_Compare_int Try.cmpInt (kv 0 x) (kv 0 y) W'
 change ∀W',Calls Try.prog 24 _ _ _ at hcon
 obtain⟨a0,a1,hx⟩:=CU x
 obtain⟨b0,b1,hy⟩:=CU y
 have e1:kv 0 x=a0:=by simp[kv,hx]
 have e2:kv 0 y=b0:=by simp[kv,hy]
 have e3:(fk 2 x).toArray= #[.int .i64 a0,.int .i64 a1]:=by simp[fk,hx]
 have e4:(fk 2 y).toArray= #[.int .i64 b0,.int .i64 b1]:=by simp[fk,hy]
 rw[e3,e4]
 rw[e1,e2]at hcon ⊢
 clear e1 e2 e3 e4 hx hy
 generalize Lib.compareInt a0 b0=r at hcon ⊢
 go_enter Try.func45,Try.ntmps_clo
 go_wp2_with (go_at_call 24;refine(hcon _).mono ?_;rintro e w' ⟨rfl,rfl⟩)
 go_ret
 exact⟨rfl,0,_,by rw[Sort.alloc_eq_grow,Sort.alloc_eq_grow,Sort.grow_grow];rfl⟩
theorem rb (W:World):Calls Try.prog 64 #[.slice none 0 0,.int .i64 0,.int .i64 0,.int .i64 0,.func (.func 45) #[] #[]] W fun e w'=>e=.returned (.tuple #[])∧Below W.heap.size W w':=by
 have hV:VRs W (Cy W) [.slice .isnil 0 [],.int .i64 0,.int .i64 0,.int .i64 0,.func 45 []] (#[.slice none 0 0,.int .i64 0,.int .i64 0,.int .i64 0,.func (.func 45) #[] #[]]:Array Value).toList:=by
  refine⟨rfl,fun j d v hd hv=>?_⟩
  match j with
  |0=>cases hd;cases hv;exact .slice .isnil 0 [] none 0 0 (fun _ _=>Go.undef) rfl (Nat.le_refl _) ⟨rfl,rfl,rfl⟩ (fun i x h=>by simp at h) (fun i x j c h=>by simp at h) (fun i x j c h=>by simp at h)
  |1=>cases hd;cases hv;exact .int _ _
  |2=>cases hd;cases hv;exact .int _ _
  |3=>cases hd;cases hv;exact .int _ _
  |4=>cases hd;cases hv;exact .func _ [] #[] rfl (fun j c v h=>by simp at h)
  |j+5=>simp at hd
 obtain⟨_,hC⟩:=(o8 yQ Try.mixed 100).pure_ (BG zI) (by
  intro d hd
  simp at hd
  rcases hd with rfl|rfl|rfl|rfl|rfl<;>exact⟨rfl,rfl⟩) (tG W) hV
 refine hC.mono fun e w' hR=>?_
 obtain⟨v,rfl,_,hmv⟩:=hR
 obtain⟨g',hv,hst⟩:=hmv false
 refine⟨?_,hst.ext.below⟩
 have hv:VR w' g' (.tuple []) v:=hv
 cases hv with
 |tuple cs vs hl hvv=>
  have:vs= #[]:=by simpa using hl.symm
  rw[this]
set_option maxHeartbeats 1000000 in
theorem rn (W:World):Calls Try.prog 44 #[.slice none 0 0,.func (.func 45) #[] #[]] W fun e w'=>e=.returned (.tuple #[])∧Below W.heap.size W w':=by
 have hl:∀W,Calls Try.prog 65 #[.int .u64 0] W fun e w'=>e=.returned (.int .i64 0)∧w'=W:=fun W=>
  Any.bits_Len (SlLaysF0.n15.bits (P:=Try.prog) (ρ:=Try.sortE_ren) {Try.sortE with}) 0 W (by omega) (by omega)
 have hp:=rb
 go_enter Try.func44,Try.ntmps_sort
 go_wp2_with (first|(go_at_call 65;refine(hl _).mono ?_;rintro e w' ⟨rfl,rfl⟩)|(go_at_call 64;refine(hp _).mono ?_;rintro e w' ⟨rfl,hb⟩))
 go_end0
 exact⟨rfl,hb⟩
theorem FJ:Sort.SWO (ltOf fun x y:Vk 2=>Lib.compareInt (kv 0 x) (kv 0 y)):=by
 have e:∀x y:Vk 2,ltOf (fun x y:Vk 2=>Lib.compareInt (kv 0 x) (kv 0 y)) x y=decide (kv 0 x<kv 0 y):=fun x y=>by
  unfold ltOf Lib.compareInt
  by_cases h1:kv 0 x<kv 0 y
  ·simp[h1]
  ·by_cases h2:kv 0 y<kv 0 x<;>simp[h1,h2]
 refine⟨fun x=>?_,fun x y z h1 h2=>?_,fun x y z h1 h2=>?_⟩
 ·rw[e];simp
 ·rw[e]at*;simp at*;omega
 ·rw[e]at*;simp at*;omega
theorem sort_known:PrimSOK Try.prog 44 (jZ 2 0 45):=by
 have E:Ev.Enters Try.prog 44:=(dm (show aG Try.prog 44 bu.ro bu.mv=some bu by kernel_rfl)).choose_spec.choose_spec.2.2.1
 have eg:∀args w,(callFunc 45 args).run Try.prog w=.ok (.enter 45 args) w:=enters_of Try.func45 (by kernel_rfl) rfl
 refine sL (by decide) E (fun blk off cap d w hH hblk hsz=>?_) rn
 exact AnyQ.slices_SortFunc Try.sortE 2 Try.isAgg79 Try.sizeOf79 (fk 2) wr (fun x v hv=>by
  obtain⟨n,_,rfl⟩:=List.mem_map.mp hv
  rfl) (fun x y=>Lib.compareInt (kv 0 x) (kv 0 y)) FJ 45 #[] blk off cap d w eg (fun _ _ _ _ x y=>uy x y _) hH hblk hsz
end Go.Proofs.Ytcejefmekkiboaa
