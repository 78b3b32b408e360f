/-
  No cell of these rows narrows 'for every input' (looked for: loops, veiled, ifaces, maps, wideKeys, modest, calm, conditions, laid).
  DERIVED. THE GIVEN ROWS OF THIS SEAT. 10 by the template 'for every input the law returns true; each argument reads behind the call as it read before'; 0 by the template 'total and deterministic' (their statements: YtepbhoahafopdaaTotals.lean).
  GIVEN WITH THE SEED: the statements are not yours to turn. If you find one false, say at which input.
  Laid BY PROGRAM, IN A SANDBOX (cutbox-rows.mjs): the forced cells as the released guide's own fill.sh prints them over the translation ad739ae3ef6fc587… (all of the seat's roots in one cut). By AI agents, Wed Nov 11 2026. No macro, syntax, notation, axiom, sorry.
-/
import Derived.Test.YtepbhoahafopdaaChecked
import GoSem.Claim
import GoSem.ClaimJoined
import GoSem.ClaimMapViews
import Derived.JoinedTies
import Derived.KernelRfl
namespace Go.Proofs.Ytepbhoahafopdaa
/- THE CELL 'sum', in the pinned program and in every row, IS THE sha256 OF THE DUMP (.gsa) THAT YtepbhoahafopdaaProg.lean LOADS. Nothing in Lean hashes anything: it is a label: what it is worth is what the hold of that sum in a sandbox is worth. -/
noncomputable def Try.pinned : Pinned := { name := "ytepbhoahafopdaa", sum := "ad739ae3ef6fc5875921e4b44b78d0a63db2ebea929710fa06ef7871c3e55bc5", checked := Try.checked }
namespace Rows
def none {H : Type} : Left H := { results := [], args := [] }

/-- 'feluccalaw16.LateTells': WHATEVER THE INPUT: true; the input reads as it did. -/
def lateTellsSpec : ChangeSpec := { name := "lateTells", fn := fun _ => fun
  | [d1, d2, d3, d4, d5, d6, d7, d8] => { results := [.lit (.bool true)], args := [d1, d2, d3, d4, d5, d6, d7, d8] }
  | _ => none }
def lateTellsRow : OpenClaim := { program := "ytepbhoahafopdaa", sum := "ad739ae3ef6fc5875921e4b44b78d0a63db2ebea929710fa06ef7871c3e55bc5", func := "felucca/feluccalaw16.LateTells", spec := "lateTells", unfollowed := true, recurses := true, apart := false }
def LateTellsSaid : Prop := lateTellsRow.holds Try.pinned (OpenSpec.ofChange lateTellsSpec)

/-- ITS FALSE NEIGHBOUR: 'it returns false'. Refute it at one input. -/
def lateTellsWrong : ChangeSpec := { name := "lateTells", fn := fun _ => fun
  | [d1, d2, d3, d4, d5, d6, d7, d8] => { results := [.lit (.bool false)], args := [d1, d2, d3, d4, d5, d6, d7, d8] }
  | _ => none }
def LateTellsWrongFalsely : Prop := lateTellsRow.holds Try.pinned (OpenSpec.ofChange lateTellsWrong)

/-- 'feluccalaw16.LateMore': WHATEVER THE INPUT: true; the input reads as it did. -/
def lateMoreSpec : ChangeSpec := { name := "lateMore", fn := fun _ => fun
  | [d1, d2, d3, d4, d5, d6, d7] => { results := [.lit (.bool true)], args := [d1, d2, d3, d4, d5, d6, d7] }
  | _ => none }
def lateMoreRow : OpenClaim := { program := "ytepbhoahafopdaa", sum := "ad739ae3ef6fc5875921e4b44b78d0a63db2ebea929710fa06ef7871c3e55bc5", func := "felucca/feluccalaw16.LateMore", spec := "lateMore", unfollowed := true, recurses := true, apart := false }
def LateMoreSaid : Prop := lateMoreRow.holds Try.pinned (OpenSpec.ofChange lateMoreSpec)

/-- ITS FALSE NEIGHBOUR: 'it returns false'. Refute it at one input. -/
def lateMoreWrong : ChangeSpec := { name := "lateMore", fn := fun _ => fun
  | [d1, d2, d3, d4, d5, d6, d7] => { results := [.lit (.bool false)], args := [d1, d2, d3, d4, d5, d6, d7] }
  | _ => none }
def LateMoreWrongFalsely : Prop := lateMoreRow.holds Try.pinned (OpenSpec.ofChange lateMoreWrong)

/-- 'feluccalaw16.LateEdges': WHATEVER THE INPUT: true; the input reads as it did. -/
def lateEdgesSpec : ChangeSpec := { name := "lateEdges", fn := fun _ => fun
  | [d1, d2, d3, d4, d5] => { results := [.lit (.bool true)], args := [d1, d2, d3, d4, d5] }
  | _ => none }
def lateEdgesRow : OpenClaim := { program := "ytepbhoahafopdaa", sum := "ad739ae3ef6fc5875921e4b44b78d0a63db2ebea929710fa06ef7871c3e55bc5", func := "felucca/feluccalaw16.LateEdges", spec := "lateEdges", unfollowed := true, recurses := true, apart := false }
def LateEdgesSaid : Prop := lateEdgesRow.holds Try.pinned (OpenSpec.ofChange lateEdgesSpec)

/-- ITS FALSE NEIGHBOUR: 'it returns false'. Refute it at one input. -/
def lateEdgesWrong : ChangeSpec := { name := "lateEdges", fn := fun _ => fun
  | [d1, d2, d3, d4, d5] => { results := [.lit (.bool false)], args := [d1, d2, d3, d4, d5] }
  | _ => none }
def LateEdgesWrongFalsely : Prop := lateEdgesRow.holds Try.pinned (OpenSpec.ofChange lateEdgesWrong)

/-- 'feluccalaw15.EarlyTells': WHATEVER THE INPUT: true; the input reads as it did. -/
def earlyTellsSpec : ChangeSpec := { name := "earlyTells", fn := fun _ => fun
  | [d1, d2, d3, d4, d5, d6, d7, d8] => { results := [.lit (.bool true)], args := [d1, d2, d3, d4, d5, d6, d7, d8] }
  | _ => none }
def earlyTellsRow : OpenClaim := { program := "ytepbhoahafopdaa", sum := "ad739ae3ef6fc5875921e4b44b78d0a63db2ebea929710fa06ef7871c3e55bc5", func := "felucca/feluccalaw15.EarlyTells", spec := "earlyTells", unfollowed := true, recurses := true, apart := false }
def EarlyTellsSaid : Prop := earlyTellsRow.holds Try.pinned (OpenSpec.ofChange earlyTellsSpec)

/-- ITS FALSE NEIGHBOUR: 'it returns false'. Refute it at one input. -/
def earlyTellsWrong : ChangeSpec := { name := "earlyTells", fn := fun _ => fun
  | [d1, d2, d3, d4, d5, d6, d7, d8] => { results := [.lit (.bool false)], args := [d1, d2, d3, d4, d5, d6, d7, d8] }
  | _ => none }
def EarlyTellsWrongFalsely : Prop := earlyTellsRow.holds Try.pinned (OpenSpec.ofChange earlyTellsWrong)

/-- 'feluccalaw15.EarlyEarlier': WHATEVER THE INPUT: true; the input reads as it did. -/
def earlyEarlierSpec : ChangeSpec := { name := "earlyEarlier", fn := fun _ => fun
  | [d1, d2, d3, d4, d5, d6] => { results := [.lit (.bool true)], args := [d1, d2, d3, d4, d5, d6] }
  | _ => none }
def earlyEarlierRow : OpenClaim := { program := "ytepbhoahafopdaa", sum := "ad739ae3ef6fc5875921e4b44b78d0a63db2ebea929710fa06ef7871c3e55bc5", func := "felucca/feluccalaw15.EarlyEarlier", spec := "earlyEarlier", unfollowed := true, recurses := true, apart := false }
def EarlyEarlierSaid : Prop := earlyEarlierRow.holds Try.pinned (OpenSpec.ofChange earlyEarlierSpec)

/-- ITS FALSE NEIGHBOUR: 'it returns false'. Refute it at one input. -/
def earlyEarlierWrong : ChangeSpec := { name := "earlyEarlier", fn := fun _ => fun
  | [d1, d2, d3, d4, d5, d6] => { results := [.lit (.bool false)], args := [d1, d2, d3, d4, d5, d6] }
  | _ => none }
def EarlyEarlierWrongFalsely : Prop := earlyEarlierRow.holds Try.pinned (OpenSpec.ofChange earlyEarlierWrong)

/-- 'feluccalaw15.EarlyShuts': WHATEVER THE INPUT: true; the input reads as it did. -/
def earlyShutsSpec : ChangeSpec := { name := "earlyShuts", fn := fun _ => fun
  | [d1, d2, d3, d4, d5] => { results := [.lit (.bool true)], args := [d1, d2, d3, d4, d5] }
  | _ => none }
def earlyShutsRow : OpenClaim := { program := "ytepbhoahafopdaa", sum := "ad739ae3ef6fc5875921e4b44b78d0a63db2ebea929710fa06ef7871c3e55bc5", func := "felucca/feluccalaw15.EarlyShuts", spec := "earlyShuts", unfollowed := true, recurses := true, apart := false }
def EarlyShutsSaid : Prop := earlyShutsRow.holds Try.pinned (OpenSpec.ofChange earlyShutsSpec)

/-- ITS FALSE NEIGHBOUR: 'it returns false'. Refute it at one input. -/
def earlyShutsWrong : ChangeSpec := { name := "earlyShuts", fn := fun _ => fun
  | [d1, d2, d3, d4, d5] => { results := [.lit (.bool false)], args := [d1, d2, d3, d4, d5] }
  | _ => none }
def EarlyShutsWrongFalsely : Prop := earlyShutsRow.holds Try.pinned (OpenSpec.ofChange earlyShutsWrong)

/-- 'feluccalaw15.EarlyJoins': WHATEVER THE INPUT: true; the input reads as it did. -/
def earlyJoinsSpec : ChangeSpec := { name := "earlyJoins", fn := fun _ => fun
  | [d1, d2, d3, d4, d5] => { results := [.lit (.bool true)], args := [d1, d2, d3, d4, d5] }
  | _ => none }
def earlyJoinsRow : OpenClaim := { program := "ytepbhoahafopdaa", sum := "ad739ae3ef6fc5875921e4b44b78d0a63db2ebea929710fa06ef7871c3e55bc5", func := "felucca/feluccalaw15.EarlyJoins", spec := "earlyJoins", unfollowed := true, recurses := true, apart := false }
def EarlyJoinsSaid : Prop := earlyJoinsRow.holds Try.pinned (OpenSpec.ofChange earlyJoinsSpec)

/-- ITS FALSE NEIGHBOUR: 'it returns false'. Refute it at one input. -/
def earlyJoinsWrong : ChangeSpec := { name := "earlyJoins", fn := fun _ => fun
  | [d1, d2, d3, d4, d5] => { results := [.lit (.bool false)], args := [d1, d2, d3, d4, d5] }
  | _ => none }
def EarlyJoinsWrongFalsely : Prop := earlyJoinsRow.holds Try.pinned (OpenSpec.ofChange earlyJoinsWrong)

/-- 'feluccalaw15.EarlyLeast': WHATEVER THE INPUT: true; the input reads as it did. -/
def earlyLeastSpec : ChangeSpec := { name := "earlyLeast", fn := fun _ => fun
  | [d1, d2, d3, d4, d5] => { results := [.lit (.bool true)], args := [d1, d2, d3, d4, d5] }
  | _ => none }
def earlyLeastRow : OpenClaim := { program := "ytepbhoahafopdaa", sum := "ad739ae3ef6fc5875921e4b44b78d0a63db2ebea929710fa06ef7871c3e55bc5", func := "felucca/feluccalaw15.EarlyLeast", spec := "earlyLeast", unfollowed := true, recurses := true, apart := false }
def EarlyLeastSaid : Prop := earlyLeastRow.holds Try.pinned (OpenSpec.ofChange earlyLeastSpec)

/-- ITS FALSE NEIGHBOUR: 'it returns false'. Refute it at one input. -/
def earlyLeastWrong : ChangeSpec := { name := "earlyLeast", fn := fun _ => fun
  | [d1, d2, d3, d4, d5] => { results := [.lit (.bool false)], args := [d1, d2, d3, d4, d5] }
  | _ => none }
def EarlyLeastWrongFalsely : Prop := earlyLeastRow.holds Try.pinned (OpenSpec.ofChange earlyLeastWrong)

/-- 'feluccalaw16.LateMeets': WHATEVER THE INPUT: true; the input reads as it did. -/
def lateMeetsSpec : ChangeSpec := { name := "lateMeets", fn := fun _ => fun
  | [d1, d2, d3, d4, d5, d6] => { results := [.lit (.bool true)], args := [d1, d2, d3, d4, d5, d6] }
  | _ => none }
def lateMeetsRow : OpenClaim := { program := "ytepbhoahafopdaa", sum := "ad739ae3ef6fc5875921e4b44b78d0a63db2ebea929710fa06ef7871c3e55bc5", func := "felucca/feluccalaw16.LateMeets", spec := "lateMeets", unfollowed := true, recurses := true, apart := false }
def LateMeetsSaid : Prop := lateMeetsRow.holds Try.pinned (OpenSpec.ofChange lateMeetsSpec)

/-- ITS FALSE NEIGHBOUR: 'it returns false'. Refute it at one input. -/
def lateMeetsWrong : ChangeSpec := { name := "lateMeets", fn := fun _ => fun
  | [d1, d2, d3, d4, d5, d6] => { results := [.lit (.bool false)], args := [d1, d2, d3, d4, d5, d6] }
  | _ => none }
def LateMeetsWrongFalsely : Prop := lateMeetsRow.holds Try.pinned (OpenSpec.ofChange lateMeetsWrong)

/-- 'feluccalaw16.LateFewest': WHATEVER THE INPUT: true; the input reads as it did. -/
def lateFewestSpec : ChangeSpec := { name := "lateFewest", fn := fun _ => fun
  | [d1, d2, d3, d4, d5, d6] => { results := [.lit (.bool true)], args := [d1, d2, d3, d4, d5, d6] }
  | _ => none }
def lateFewestRow : OpenClaim := { program := "ytepbhoahafopdaa", sum := "ad739ae3ef6fc5875921e4b44b78d0a63db2ebea929710fa06ef7871c3e55bc5", func := "felucca/feluccalaw16.LateFewest", spec := "lateFewest", unfollowed := true, recurses := true, apart := false }
def LateFewestSaid : Prop := lateFewestRow.holds Try.pinned (OpenSpec.ofChange lateFewestSpec)

/-- ITS FALSE NEIGHBOUR: 'it returns false'. Refute it at one input. -/
def lateFewestWrong : ChangeSpec := { name := "lateFewest", fn := fun _ => fun
  | [d1, d2, d3, d4, d5, d6] => { results := [.lit (.bool false)], args := [d1, d2, d3, d4, d5, d6] }
  | _ => none }
def LateFewestWrongFalsely : Prop := lateFewestRow.holds Try.pinned (OpenSpec.ofChange lateFewestWrong)

/- THE SECOND FORM. 'bulk': how many values and letters a reading holds, each counted each time it is reached (what is shared counts as often as it is met; a slice's spare places count too). A statement '..UptoSaid' is the law's where the arguments, and the package variables that the reading takes, are together of bulk at most 1048576: NARROWER than '..Said'. Prove '..Said' where nothing that the law and all that it calls make is longer than what came in: it says more and counts as full. Else prove '..UptoSaid'. A law counts once. -/
mutual
def uptoBulk {H : Type} : DataW H → Nat
  | .lit (.string bytes) => bytes.length + 1
  | .lit _ => 1
  | .nil => 1
  | .ptr d => uptoBulk d + 1
  | .slice elems spare => uptoBulkAll elems + uptoBulkAll spare + 1
  | .agg parts => uptoBulkAll parts + 1
  | .iface _ d => uptoBulk d + 1
  | .map entries => uptoBulkEntries entries + 1
  | .held _ => 1
def uptoBulkAll {H : Type} : List (DataW H) → Nat
  | [] => 0
  | d :: r => uptoBulk d + uptoBulkAll r
def uptoBulkEntries {H : Type} : List (Lit × DataW H) → Nat
  | [] => 0
  | x :: r => uptoBulkEntry x + uptoBulkEntries r
def uptoBulkEntry {H : Type} : Lit × DataW H → Nat
  | (.string bytes, d) => bytes.length + uptoBulk d + 1
  | (_, d) => uptoBulk d + 1
 end
def uptoSmall : (H : Type) → List (DataW H) → Bool := fun _ ds => decide (uptoBulkAll ds ≤ 1048576)
def OpenSpec.upto (s : _root_.Go.ChangeSpec) : _root_.Go.OpenSpec := { _root_.Go.OpenSpec.ofChange s with cond := some uptoSmall }

/-- 'feluccalaw16.LateTells', WHERE WHAT IT READS IS OF BULK AT MOST 1048576: true; the input reads as it did. -/
def lateTellsUptoRow : OpenClaim := { program := "ytepbhoahafopdaa", sum := "ad739ae3ef6fc5875921e4b44b78d0a63db2ebea929710fa06ef7871c3e55bc5", func := "felucca/feluccalaw16.LateTells", spec := "lateTells", unfollowed := true, recurses := true, apart := false, narrowed := true }
def LateTellsUptoSaid : Prop := lateTellsUptoRow.holds Try.pinned (OpenSpec.upto lateTellsSpec)

/-- 'feluccalaw16.LateMore', WHERE WHAT IT READS IS OF BULK AT MOST 1048576: true; the input reads as it did. -/
def lateMoreUptoRow : OpenClaim := { program := "ytepbhoahafopdaa", sum := "ad739ae3ef6fc5875921e4b44b78d0a63db2ebea929710fa06ef7871c3e55bc5", func := "felucca/feluccalaw16.LateMore", spec := "lateMore", unfollowed := true, recurses := true, apart := false, narrowed := true }
def LateMoreUptoSaid : Prop := lateMoreUptoRow.holds Try.pinned (OpenSpec.upto lateMoreSpec)

/-- 'feluccalaw16.LateEdges', WHERE WHAT IT READS IS OF BULK AT MOST 1048576: true; the input reads as it did. -/
def lateEdgesUptoRow : OpenClaim := { program := "ytepbhoahafopdaa", sum := "ad739ae3ef6fc5875921e4b44b78d0a63db2ebea929710fa06ef7871c3e55bc5", func := "felucca/feluccalaw16.LateEdges", spec := "lateEdges", unfollowed := true, recurses := true, apart := false, narrowed := true }
def LateEdgesUptoSaid : Prop := lateEdgesUptoRow.holds Try.pinned (OpenSpec.upto lateEdgesSpec)

/-- 'feluccalaw15.EarlyTells', WHERE WHAT IT READS IS OF BULK AT MOST 1048576: true; the input reads as it did. -/
def earlyTellsUptoRow : OpenClaim := { program := "ytepbhoahafopdaa", sum := "ad739ae3ef6fc5875921e4b44b78d0a63db2ebea929710fa06ef7871c3e55bc5", func := "felucca/feluccalaw15.EarlyTells", spec := "earlyTells", unfollowed := true, recurses := true, apart := false, narrowed := true }
def EarlyTellsUptoSaid : Prop := earlyTellsUptoRow.holds Try.pinned (OpenSpec.upto earlyTellsSpec)

/-- 'feluccalaw15.EarlyEarlier', WHERE WHAT IT READS IS OF BULK AT MOST 1048576: true; the input reads as it did. -/
def earlyEarlierUptoRow : OpenClaim := { program := "ytepbhoahafopdaa", sum := "ad739ae3ef6fc5875921e4b44b78d0a63db2ebea929710fa06ef7871c3e55bc5", func := "felucca/feluccalaw15.EarlyEarlier", spec := "earlyEarlier", unfollowed := true, recurses := true, apart := false, narrowed := true }
def EarlyEarlierUptoSaid : Prop := earlyEarlierUptoRow.holds Try.pinned (OpenSpec.upto earlyEarlierSpec)

/-- 'feluccalaw15.EarlyShuts', WHERE WHAT IT READS IS OF BULK AT MOST 1048576: true; the input reads as it did. -/
def earlyShutsUptoRow : OpenClaim := { program := "ytepbhoahafopdaa", sum := "ad739ae3ef6fc5875921e4b44b78d0a63db2ebea929710fa06ef7871c3e55bc5", func := "felucca/feluccalaw15.EarlyShuts", spec := "earlyShuts", unfollowed := true, recurses := true, apart := false, narrowed := true }
def EarlyShutsUptoSaid : Prop := earlyShutsUptoRow.holds Try.pinned (OpenSpec.upto earlyShutsSpec)

/-- 'feluccalaw15.EarlyJoins', WHERE WHAT IT READS IS OF BULK AT MOST 1048576: true; the input reads as it did. -/
def earlyJoinsUptoRow : OpenClaim := { program := "ytepbhoahafopdaa", sum := "ad739ae3ef6fc5875921e4b44b78d0a63db2ebea929710fa06ef7871c3e55bc5", func := "felucca/feluccalaw15.EarlyJoins", spec := "earlyJoins", unfollowed := true, recurses := true, apart := false, narrowed := true }
def EarlyJoinsUptoSaid : Prop := earlyJoinsUptoRow.holds Try.pinned (OpenSpec.upto earlyJoinsSpec)

/-- 'feluccalaw15.EarlyLeast', WHERE WHAT IT READS IS OF BULK AT MOST 1048576: true; the input reads as it did. -/
def earlyLeastUptoRow : OpenClaim := { program := "ytepbhoahafopdaa", sum := "ad739ae3ef6fc5875921e4b44b78d0a63db2ebea929710fa06ef7871c3e55bc5", func := "felucca/feluccalaw15.EarlyLeast", spec := "earlyLeast", unfollowed := true, recurses := true, apart := false, narrowed := true }
def EarlyLeastUptoSaid : Prop := earlyLeastUptoRow.holds Try.pinned (OpenSpec.upto earlyLeastSpec)

/-- 'feluccalaw16.LateMeets', WHERE WHAT IT READS IS OF BULK AT MOST 1048576: true; the input reads as it did. -/
def lateMeetsUptoRow : OpenClaim := { program := "ytepbhoahafopdaa", sum := "ad739ae3ef6fc5875921e4b44b78d0a63db2ebea929710fa06ef7871c3e55bc5", func := "felucca/feluccalaw16.LateMeets", spec := "lateMeets", unfollowed := true, recurses := true, apart := false, narrowed := true }
def LateMeetsUptoSaid : Prop := lateMeetsUptoRow.holds Try.pinned (OpenSpec.upto lateMeetsSpec)

/-- 'feluccalaw16.LateFewest', WHERE WHAT IT READS IS OF BULK AT MOST 1048576: true; the input reads as it did. -/
def lateFewestUptoRow : OpenClaim := { program := "ytepbhoahafopdaa", sum := "ad739ae3ef6fc5875921e4b44b78d0a63db2ebea929710fa06ef7871c3e55bc5", func := "felucca/feluccalaw16.LateFewest", spec := "lateFewest", unfollowed := true, recurses := true, apart := false, narrowed := true }
def LateFewestUptoSaid : Prop := lateFewestUptoRow.holds Try.pinned (OpenSpec.upto lateFewestSpec)

end Rows
end Go.Proofs.Ytepbhoahafopdaa
