/-
  No cell of these rows narrows 'for every input' (looked for: loops, veiled, ifaces, maps, wideKeys, modest, calm, conditions, laid).
  DERIVED. THE GIVEN ROWS OF THIS SEAT. 9 by the template 'for every input the law returns true; each argument reads behind the call as it read before'; 0 by the template 'total and deterministic' (their statements: YtklegmbpppegaaaTotals.lean).
  GIVEN WITH THE SEED: the statements are not yours to turn. If you find one false, say at which input.
  Laid BY PROGRAM, IN A SANDBOX (cutbox-rows.mjs): the forced cells as the released guide's own fill.sh prints them over the translation e95fd4045212e701… (all of the seat's roots in one cut). By AI agents, Wed Nov 11 2026. No macro, syntax, notation, axiom, sorry.
-/
import Derived.Test.YtklegmbpppegaaaChecked
import GoSem.Claim
import GoSem.ClaimJoined
import GoSem.ClaimMapViews
import Derived.JoinedTies
import Derived.KernelRfl
namespace Go.Proofs.Ytklegmbpppegaaa
/- THE CELL 'sum', in the pinned program and in every row, IS THE sha256 OF THE DUMP (.gsa) THAT YtklegmbpppegaaaProg.lean LOADS. Nothing in Lean hashes anything: it is a label: what it is worth is what the hold of that sum in a sandbox is worth. -/
noncomputable def Try.pinned : Pinned := { name := "ytklegmbpppegaaa", sum := "e95fd4045212e7010ad1a80cb0532cd4f47a4d61ad55b26a7eaa236a79e5ae24", checked := Try.checked }
namespace Rows
def none {H : Type} : Left H := { results := [], args := [] }

/-- 'feluccalaw13.OrderTells': WHATEVER THE INPUT: true; the input reads as it did. -/
def orderTellsSpec : ChangeSpec := { name := "orderTells", fn := fun _ => fun
  | [d1, d2, d3] => { results := [.lit (.bool true)], args := [d1, d2, d3] }
  | _ => none }
def orderTellsRow : OpenClaim := { program := "ytklegmbpppegaaa", sum := "e95fd4045212e7010ad1a80cb0532cd4f47a4d61ad55b26a7eaa236a79e5ae24", func := "felucca/feluccalaw13.OrderTells", spec := "orderTells", unfollowed := true, recurses := true, apart := false }
def OrderTellsSaid : Prop := orderTellsRow.holds Try.pinned (OpenSpec.ofChange orderTellsSpec)

/-- ITS FALSE NEIGHBOUR: 'it returns false'. Refute it at one input. -/
def orderTellsWrong : ChangeSpec := { name := "orderTells", fn := fun _ => fun
  | [d1, d2, d3] => { results := [.lit (.bool false)], args := [d1, d2, d3] }
  | _ => none }
def OrderTellsWrongFalsely : Prop := orderTellsRow.holds Try.pinned (OpenSpec.ofChange orderTellsWrong)

/-- 'feluccalaw13.OrderSorts': WHATEVER THE INPUT: true; the input reads as it did. -/
def orderSortsSpec : ChangeSpec := { name := "orderSorts", fn := fun _ => fun
  | [d] => { results := [.lit (.bool true)], args := [d] }
  | _ => none }
def orderSortsRow : OpenClaim := { program := "ytklegmbpppegaaa", sum := "e95fd4045212e7010ad1a80cb0532cd4f47a4d61ad55b26a7eaa236a79e5ae24", func := "felucca/feluccalaw13.OrderSorts", spec := "orderSorts", unfollowed := true, recurses := true, apart := false }
def OrderSortsSaid : Prop := orderSortsRow.holds Try.pinned (OpenSpec.ofChange orderSortsSpec)

/-- ITS FALSE NEIGHBOUR: 'it returns false'. Refute it at one input. -/
def orderSortsWrong : ChangeSpec := { name := "orderSorts", fn := fun _ => fun
  | [d] => { results := [.lit (.bool false)], args := [d] }
  | _ => none }
def OrderSortsWrongFalsely : Prop := orderSortsRow.holds Try.pinned (OpenSpec.ofChange orderSortsWrong)

/-- 'feluccalaw13.OrderOne': WHATEVER THE INPUT: true; the input reads as it did. -/
def orderOneSpec : ChangeSpec := { name := "orderOne", fn := fun _ => fun
  | [d1, d2, d3] => { results := [.lit (.bool true)], args := [d1, d2, d3] }
  | _ => none }
def orderOneRow : OpenClaim := { program := "ytklegmbpppegaaa", sum := "e95fd4045212e7010ad1a80cb0532cd4f47a4d61ad55b26a7eaa236a79e5ae24", func := "felucca/feluccalaw13.OrderOne", spec := "orderOne", unfollowed := true, recurses := true, apart := false }
def OrderOneSaid : Prop := orderOneRow.holds Try.pinned (OpenSpec.ofChange orderOneSpec)

/-- ITS FALSE NEIGHBOUR: 'it returns false'. Refute it at one input. -/
def orderOneWrong : ChangeSpec := { name := "orderOne", fn := fun _ => fun
  | [d1, d2, d3] => { results := [.lit (.bool false)], args := [d1, d2, d3] }
  | _ => none }
def OrderOneWrongFalsely : Prop := orderOneRow.holds Try.pinned (OpenSpec.ofChange orderOneWrong)

/-- 'feluccalaw13.OrderInserts': WHATEVER THE INPUT: true; the input reads as it did. -/
def orderInsertsSpec : ChangeSpec := { name := "orderInserts", fn := fun _ => fun
  | [d1, d2] => { results := [.lit (.bool true)], args := [d1, d2] }
  | _ => none }
def orderInsertsRow : OpenClaim := { program := "ytklegmbpppegaaa", sum := "e95fd4045212e7010ad1a80cb0532cd4f47a4d61ad55b26a7eaa236a79e5ae24", func := "felucca/feluccalaw13.OrderInserts", spec := "orderInserts", unfollowed := true, recurses := true, apart := false }
def OrderInsertsSaid : Prop := orderInsertsRow.holds Try.pinned (OpenSpec.ofChange orderInsertsSpec)

/-- ITS FALSE NEIGHBOUR: 'it returns false'. Refute it at one input. -/
def orderInsertsWrong : ChangeSpec := { name := "orderInserts", fn := fun _ => fun
  | [d1, d2] => { results := [.lit (.bool false)], args := [d1, d2] }
  | _ => none }
def OrderInsertsWrongFalsely : Prop := orderInsertsRow.holds Try.pinned (OpenSpec.ofChange orderInsertsWrong)

/-- 'feluccalaw13.OrderLonger': WHATEVER THE INPUT: true; the input reads as it did. -/
def orderLongerSpec : ChangeSpec := { name := "orderLonger", fn := fun _ => fun
  | [d1, d2, d3] => { results := [.lit (.bool true)], args := [d1, d2, d3] }
  | _ => none }
def orderLongerRow : OpenClaim := { program := "ytklegmbpppegaaa", sum := "e95fd4045212e7010ad1a80cb0532cd4f47a4d61ad55b26a7eaa236a79e5ae24", func := "felucca/feluccalaw13.OrderLonger", spec := "orderLonger", unfollowed := true, recurses := true, apart := false }
def OrderLongerSaid : Prop := orderLongerRow.holds Try.pinned (OpenSpec.ofChange orderLongerSpec)

/-- ITS FALSE NEIGHBOUR: 'it returns false'. Refute it at one input. -/
def orderLongerWrong : ChangeSpec := { name := "orderLonger", fn := fun _ => fun
  | [d1, d2, d3] => { results := [.lit (.bool false)], args := [d1, d2, d3] }
  | _ => none }
def OrderLongerWrongFalsely : Prop := orderLongerRow.holds Try.pinned (OpenSpec.ofChange orderLongerWrong)

/-- 'feluccalaw07.RangesRight': WHATEVER THE INPUT: true; the input reads as it did. -/
def rangesRightSpec : ChangeSpec := { name := "rangesRight", fn := fun _ => fun
  | [d1, d2] => { results := [.lit (.bool true)], args := [d1, d2] }
  | _ => none }
def rangesRightRow : OpenClaim := { program := "ytklegmbpppegaaa", sum := "e95fd4045212e7010ad1a80cb0532cd4f47a4d61ad55b26a7eaa236a79e5ae24", func := "felucca/feluccalaw07.RangesRight", spec := "rangesRight", inPlace := ["slices.overlaps[felucca/api.Range]"], unfollowed := true, recurses := true, apart := false }
def RangesRightSaid : Prop := rangesRightRow.holds Try.pinned (OpenSpec.ofChange rangesRightSpec)

/-- ITS FALSE NEIGHBOUR: 'it returns false'. Refute it at one input. -/
def rangesRightWrong : ChangeSpec := { name := "rangesRight", fn := fun _ => fun
  | [d1, d2] => { results := [.lit (.bool false)], args := [d1, d2] }
  | _ => none }
def RangesRightWrongFalsely : Prop := rangesRightRow.holds Try.pinned (OpenSpec.ofChange rangesRightWrong)

/-- 'feluccalaw07.RangesTwice': WHATEVER THE INPUT: true; the input reads as it did. -/
def rangesTwiceSpec : ChangeSpec := { name := "rangesTwice", fn := fun _ => fun
  | [d1, d2, d3] => { results := [.lit (.bool true)], args := [d1, d2, d3] }
  | _ => none }
def rangesTwiceRow : OpenClaim := { program := "ytklegmbpppegaaa", sum := "e95fd4045212e7010ad1a80cb0532cd4f47a4d61ad55b26a7eaa236a79e5ae24", func := "felucca/feluccalaw07.RangesTwice", spec := "rangesTwice", inPlace := ["slices.overlaps[felucca/api.Range]"], unfollowed := true, recurses := true, apart := false }
def RangesTwiceSaid : Prop := rangesTwiceRow.holds Try.pinned (OpenSpec.ofChange rangesTwiceSpec)

/-- ITS FALSE NEIGHBOUR: 'it returns false'. Refute it at one input. -/
def rangesTwiceWrong : ChangeSpec := { name := "rangesTwice", fn := fun _ => fun
  | [d1, d2, d3] => { results := [.lit (.bool false)], args := [d1, d2, d3] }
  | _ => none }
def RangesTwiceWrongFalsely : Prop := rangesTwiceRow.holds Try.pinned (OpenSpec.ofChange rangesTwiceWrong)

/-- 'feluccalaw07.RangesOwlts': WHATEVER THE INPUT: true; the input reads as it did. -/
def rangesOwltsSpec : ChangeSpec := { name := "rangesOwlts", fn := fun _ => fun
  | [d1, d2] => { results := [.lit (.bool true)], args := [d1, d2] }
  | _ => none }
def rangesOwltsRow : OpenClaim := { program := "ytklegmbpppegaaa", sum := "e95fd4045212e7010ad1a80cb0532cd4f47a4d61ad55b26a7eaa236a79e5ae24", func := "felucca/feluccalaw07.RangesOwlts", spec := "rangesOwlts", inPlace := ["slices.overlaps[felucca/api.Range]"], unfollowed := true, recurses := true, apart := false }
def RangesOwltsSaid : Prop := rangesOwltsRow.holds Try.pinned (OpenSpec.ofChange rangesOwltsSpec)

/-- ITS FALSE NEIGHBOUR: 'it returns false'. Refute it at one input. -/
def rangesOwltsWrong : ChangeSpec := { name := "rangesOwlts", fn := fun _ => fun
  | [d1, d2] => { results := [.lit (.bool false)], args := [d1, d2] }
  | _ => none }
def RangesOwltsWrongFalsely : Prop := rangesOwltsRow.holds Try.pinned (OpenSpec.ofChange rangesOwltsWrong)

/-- 'feluccalaw07.RangesEnds': WHATEVER THE INPUT: true; the input reads as it did. -/
def rangesEndsSpec : ChangeSpec := { name := "rangesEnds", fn := fun _ => fun
  | [d1, d2, d3] => { results := [.lit (.bool true)], args := [d1, d2, d3] }
  | _ => none }
def rangesEndsRow : OpenClaim := { program := "ytklegmbpppegaaa", sum := "e95fd4045212e7010ad1a80cb0532cd4f47a4d61ad55b26a7eaa236a79e5ae24", func := "felucca/feluccalaw07.RangesEnds", spec := "rangesEnds", inPlace := ["slices.overlaps[felucca/api.Range]"], unfollowed := true, recurses := true, apart := false }
def RangesEndsSaid : Prop := rangesEndsRow.holds Try.pinned (OpenSpec.ofChange rangesEndsSpec)

/-- ITS FALSE NEIGHBOUR: 'it returns false'. Refute it at one input. -/
def rangesEndsWrong : ChangeSpec := { name := "rangesEnds", fn := fun _ => fun
  | [d1, d2, d3] => { results := [.lit (.bool false)], args := [d1, d2, d3] }
  | _ => none }
def RangesEndsWrongFalsely : Prop := rangesEndsRow.holds Try.pinned (OpenSpec.ofChange rangesEndsWrong)

/- THE SECOND FORM. 'bulk': how many values and letters a reading holds, each counted each time it is reached (what is shared counts as often as it is met; a slice's spare places count too). A statement '..UptoSaid' is the law's where the arguments, and the package variables that the reading takes, are together of bulk at most 1048576: NARROWER than '..Said'. Prove '..Said' where nothing that the law and all that it calls make is longer than what came in: it says more and counts as full. Else prove '..UptoSaid'. A law counts once. -/
mutual
def uptoBulk {H : Type} : DataW H → Nat
  | .lit (.string bytes) => bytes.length + 1
  | .lit _ => 1
  | .nil => 1
  | .ptr d => uptoBulk d + 1
  | .slice elems spare => uptoBulkAll elems + uptoBulkAll spare + 1
  | .agg parts => uptoBulkAll parts + 1
  | .iface _ d => uptoBulk d + 1
  | .map entries => uptoBulkEntries entries + 1
  | .held _ => 1
def uptoBulkAll {H : Type} : List (DataW H) → Nat
  | [] => 0
  | d :: r => uptoBulk d + uptoBulkAll r
def uptoBulkEntries {H : Type} : List (Lit × DataW H) → Nat
  | [] => 0
  | x :: r => uptoBulkEntry x + uptoBulkEntries r
def uptoBulkEntry {H : Type} : Lit × DataW H → Nat
  | (.string bytes, d) => bytes.length + uptoBulk d + 1
  | (_, d) => uptoBulk d + 1
 end
def uptoSmall : (H : Type) → List (DataW H) → Bool := fun _ ds => decide (uptoBulkAll ds ≤ 1048576)
def OpenSpec.upto (s : _root_.Go.ChangeSpec) : _root_.Go.OpenSpec := { _root_.Go.OpenSpec.ofChange s with cond := some uptoSmall }

/-- 'feluccalaw13.OrderTells', WHERE WHAT IT READS IS OF BULK AT MOST 1048576: true; the input reads as it did. -/
def orderTellsUptoRow : OpenClaim := { program := "ytklegmbpppegaaa", sum := "e95fd4045212e7010ad1a80cb0532cd4f47a4d61ad55b26a7eaa236a79e5ae24", func := "felucca/feluccalaw13.OrderTells", spec := "orderTells", unfollowed := true, recurses := true, apart := false, narrowed := true }
def OrderTellsUptoSaid : Prop := orderTellsUptoRow.holds Try.pinned (OpenSpec.upto orderTellsSpec)

/-- 'feluccalaw13.OrderSorts', WHERE WHAT IT READS IS OF BULK AT MOST 1048576: true; the input reads as it did. -/
def orderSortsUptoRow : OpenClaim := { program := "ytklegmbpppegaaa", sum := "e95fd4045212e7010ad1a80cb0532cd4f47a4d61ad55b26a7eaa236a79e5ae24", func := "felucca/feluccalaw13.OrderSorts", spec := "orderSorts", unfollowed := true, recurses := true, apart := false, narrowed := true }
def OrderSortsUptoSaid : Prop := orderSortsUptoRow.holds Try.pinned (OpenSpec.upto orderSortsSpec)

/-- 'feluccalaw13.OrderOne', WHERE WHAT IT READS IS OF BULK AT MOST 1048576: true; the input reads as it did. -/
def orderOneUptoRow : OpenClaim := { program := "ytklegmbpppegaaa", sum := "e95fd4045212e7010ad1a80cb0532cd4f47a4d61ad55b26a7eaa236a79e5ae24", func := "felucca/feluccalaw13.OrderOne", spec := "orderOne", unfollowed := true, recurses := true, apart := false, narrowed := true }
def OrderOneUptoSaid : Prop := orderOneUptoRow.holds Try.pinned (OpenSpec.upto orderOneSpec)

/-- 'feluccalaw13.OrderInserts', WHERE WHAT IT READS IS OF BULK AT MOST 1048576: true; the input reads as it did. -/
def orderInsertsUptoRow : OpenClaim := { program := "ytklegmbpppegaaa", sum := "e95fd4045212e7010ad1a80cb0532cd4f47a4d61ad55b26a7eaa236a79e5ae24", func := "felucca/feluccalaw13.OrderInserts", spec := "orderInserts", unfollowed := true, recurses := true, apart := false, narrowed := true }
def OrderInsertsUptoSaid : Prop := orderInsertsUptoRow.holds Try.pinned (OpenSpec.upto orderInsertsSpec)

/-- 'feluccalaw13.OrderLonger', WHERE WHAT IT READS IS OF BULK AT MOST 1048576: true; the input reads as it did. -/
def orderLongerUptoRow : OpenClaim := { program := "ytklegmbpppegaaa", sum := "e95fd4045212e7010ad1a80cb0532cd4f47a4d61ad55b26a7eaa236a79e5ae24", func := "felucca/feluccalaw13.OrderLonger", spec := "orderLonger", unfollowed := true, recurses := true, apart := false, narrowed := true }
def OrderLongerUptoSaid : Prop := orderLongerUptoRow.holds Try.pinned (OpenSpec.upto orderLongerSpec)

/-- 'feluccalaw07.RangesRight', WHERE WHAT IT READS IS OF BULK AT MOST 1048576: true; the input reads as it did. -/
def rangesRightUptoRow : OpenClaim := { program := "ytklegmbpppegaaa", sum := "e95fd4045212e7010ad1a80cb0532cd4f47a4d61ad55b26a7eaa236a79e5ae24", func := "felucca/feluccalaw07.RangesRight", spec := "rangesRight", inPlace := ["slices.overlaps[felucca/api.Range]"], unfollowed := true, recurses := true, apart := false, narrowed := true }
def RangesRightUptoSaid : Prop := rangesRightUptoRow.holds Try.pinned (OpenSpec.upto rangesRightSpec)

/-- 'feluccalaw07.RangesTwice', WHERE WHAT IT READS IS OF BULK AT MOST 1048576: true; the input reads as it did. -/
def rangesTwiceUptoRow : OpenClaim := { program := "ytklegmbpppegaaa", sum := "e95fd4045212e7010ad1a80cb0532cd4f47a4d61ad55b26a7eaa236a79e5ae24", func := "felucca/feluccalaw07.RangesTwice", spec := "rangesTwice", inPlace := ["slices.overlaps[felucca/api.Range]"], unfollowed := true, recurses := true, apart := false, narrowed := true }
def RangesTwiceUptoSaid : Prop := rangesTwiceUptoRow.holds Try.pinned (OpenSpec.upto rangesTwiceSpec)

/-- 'feluccalaw07.RangesOwlts', WHERE WHAT IT READS IS OF BULK AT MOST 1048576: true; the input reads as it did. -/
def rangesOwltsUptoRow : OpenClaim := { program := "ytklegmbpppegaaa", sum := "e95fd4045212e7010ad1a80cb0532cd4f47a4d61ad55b26a7eaa236a79e5ae24", func := "felucca/feluccalaw07.RangesOwlts", spec := "rangesOwlts", inPlace := ["slices.overlaps[felucca/api.Range]"], unfollowed := true, recurses := true, apart := false, narrowed := true }
def RangesOwltsUptoSaid : Prop := rangesOwltsUptoRow.holds Try.pinned (OpenSpec.upto rangesOwltsSpec)

/-- 'feluccalaw07.RangesEnds', WHERE WHAT IT READS IS OF BULK AT MOST 1048576: true; the input reads as it did. -/
def rangesEndsUptoRow : OpenClaim := { program := "ytklegmbpppegaaa", sum := "e95fd4045212e7010ad1a80cb0532cd4f47a4d61ad55b26a7eaa236a79e5ae24", func := "felucca/feluccalaw07.RangesEnds", spec := "rangesEnds", inPlace := ["slices.overlaps[felucca/api.Range]"], unfollowed := true, recurses := true, apart := false, narrowed := true }
def RangesEndsUptoSaid : Prop := rangesEndsUptoRow.holds Try.pinned (OpenSpec.upto rangesEndsSpec)

end Rows
end Go.Proofs.Ytklegmbpppegaaa
