/-
  No cell of these rows narrows 'for every input' (looked for: loops, veiled, ifaces, maps, wideKeys, modest, calm, conditions, laid).
  DERIVED. THE GIVEN ROWS OF THIS SEAT. 5 by the template 'for every input the law returns true; each argument reads behind the call as it read before'; 0 by the template 'total and deterministic' (their statements: YtdjokmfncammeaaTotals.lean).
  GIVEN WITH THE SEED: the statements are not yours to turn. If you find one false, say at which input.
  Laid BY PROGRAM, IN A SANDBOX (cutbox-rows.mjs): the forced cells as the released guide's own fill.sh prints them over the translation 31e01ebbb18d4e26… (all of the seat's roots in one cut). By AI agents, Wed Nov 11 2026. No macro, syntax, notation, axiom, sorry.
-/
import Derived.Test.YtdjokmfncammeaaChecked
import GoSem.Claim
import GoSem.ClaimJoined
import GoSem.ClaimMapViews
import Derived.JoinedTies
import Derived.KernelRfl
namespace Go.Proofs.Ytdjokmfncammeaa
/- THE CELL 'sum', in the pinned program and in every row, IS THE sha256 OF THE DUMP (.gsa) THAT YtdjokmfncammeaaProg.lean LOADS. Nothing in Lean hashes anything: it is a label: what it is worth is what the hold of that sum in a sandbox is worth. -/
noncomputable def Try.pinned : Pinned := { name := "ytdjokmfncammeaa", sum := "31e01ebbb18d4e2686f3afe625a38ae330dc63f05ae52e1e4d79c479da71730a", checked := Try.checked }
namespace Rows
def none {H : Type} : Left H := { results := [], args := [] }

/-- 'feluccalaw11.ViewTells': WHATEVER THE INPUT: true; the input reads as it did. -/
def viewTellsSpec : ChangeSpec := { name := "viewTells", fn := fun _ => fun
  | [d1, d2, d3, d4, d5, d6] => { results := [.lit (.bool true)], args := [d1, d2, d3, d4, d5, d6] }
  | _ => none }
def viewTellsRow : OpenClaim := { program := "ytdjokmfncammeaa", sum := "31e01ebbb18d4e2686f3afe625a38ae330dc63f05ae52e1e4d79c479da71730a", func := "felucca/feluccalaw11.ViewTells", spec := "viewTells", unfollowed := true, recurses := true, apart := false }
def ViewTellsSaid : Prop := viewTellsRow.holds Try.pinned (OpenSpec.ofChange viewTellsSpec)

/-- ITS FALSE NEIGHBOUR: 'it returns false'. Refute it at one input. -/
def viewTellsWrong : ChangeSpec := { name := "viewTells", fn := fun _ => fun
  | [d1, d2, d3, d4, d5, d6] => { results := [.lit (.bool false)], args := [d1, d2, d3, d4, d5, d6] }
  | _ => none }
def ViewTellsWrongFalsely : Prop := viewTellsRow.holds Try.pinned (OpenSpec.ofChange viewTellsWrong)

/-- 'feluccalaw11.ViewFroms': WHATEVER THE INPUT: true; the input reads as it did. -/
def viewFromsSpec : ChangeSpec := { name := "viewFroms", fn := fun _ => fun
  | [d1, d2] => { results := [.lit (.bool true)], args := [d1, d2] }
  | _ => none }
def viewFromsRow : OpenClaim := { program := "ytdjokmfncammeaa", sum := "31e01ebbb18d4e2686f3afe625a38ae330dc63f05ae52e1e4d79c479da71730a", func := "felucca/feluccalaw11.ViewFroms", spec := "viewFroms", unfollowed := true, recurses := true, apart := false }
def ViewFromsSaid : Prop := viewFromsRow.holds Try.pinned (OpenSpec.ofChange viewFromsSpec)

/-- ITS FALSE NEIGHBOUR: 'it returns false'. Refute it at one input. -/
def viewFromsWrong : ChangeSpec := { name := "viewFroms", fn := fun _ => fun
  | [d1, d2] => { results := [.lit (.bool false)], args := [d1, d2] }
  | _ => none }
def ViewFromsWrongFalsely : Prop := viewFromsRow.holds Try.pinned (OpenSpec.ofChange viewFromsWrong)

/-- 'feluccalaw11.ViewBare': WHATEVER THE INPUT: true; the input reads as it did. -/
def viewBareSpec : ChangeSpec := { name := "viewBare", fn := fun _ => fun
  | [d1, d2] => { results := [.lit (.bool true)], args := [d1, d2] }
  | _ => none }
def viewBareRow : OpenClaim := { program := "ytdjokmfncammeaa", sum := "31e01ebbb18d4e2686f3afe625a38ae330dc63f05ae52e1e4d79c479da71730a", func := "felucca/feluccalaw11.ViewBare", spec := "viewBare", unfollowed := true, recurses := true, apart := false }
def ViewBareSaid : Prop := viewBareRow.holds Try.pinned (OpenSpec.ofChange viewBareSpec)

/-- ITS FALSE NEIGHBOUR: 'it returns false'. Refute it at one input. -/
def viewBareWrong : ChangeSpec := { name := "viewBare", fn := fun _ => fun
  | [d1, d2] => { results := [.lit (.bool false)], args := [d1, d2] }
  | _ => none }
def ViewBareWrongFalsely : Prop := viewBareRow.holds Try.pinned (OpenSpec.ofChange viewBareWrong)

/-- 'feluccalaw11.ViewBooks': WHATEVER THE INPUT: true; the input reads as it did. -/
def viewBooksSpec : ChangeSpec := { name := "viewBooks", fn := fun _ => fun
  | [d1, d2, d3] => { results := [.lit (.bool true)], args := [d1, d2, d3] }
  | _ => none }
def viewBooksRow : OpenClaim := { program := "ytdjokmfncammeaa", sum := "31e01ebbb18d4e2686f3afe625a38ae330dc63f05ae52e1e4d79c479da71730a", func := "felucca/feluccalaw11.ViewBooks", spec := "viewBooks", unfollowed := true, recurses := true, apart := false }
def ViewBooksSaid : Prop := viewBooksRow.holds Try.pinned (OpenSpec.ofChange viewBooksSpec)

/-- ITS FALSE NEIGHBOUR: 'it returns false'. Refute it at one input. -/
def viewBooksWrong : ChangeSpec := { name := "viewBooks", fn := fun _ => fun
  | [d1, d2, d3] => { results := [.lit (.bool false)], args := [d1, d2, d3] }
  | _ => none }
def ViewBooksWrongFalsely : Prop := viewBooksRow.holds Try.pinned (OpenSpec.ofChange viewBooksWrong)

/-- 'feluccalaw11.ViewRight': WHATEVER THE INPUT: true; the input reads as it did. -/
def viewRightSpec : ChangeSpec := { name := "viewRight", fn := fun _ => fun
  | [d1, d2, d3] => { results := [.lit (.bool true)], args := [d1, d2, d3] }
  | _ => none }
def viewRightRow : OpenClaim := { program := "ytdjokmfncammeaa", sum := "31e01ebbb18d4e2686f3afe625a38ae330dc63f05ae52e1e4d79c479da71730a", func := "felucca/feluccalaw11.ViewRight", spec := "viewRight", unfollowed := true, recurses := true, apart := false }
def ViewRightSaid : Prop := viewRightRow.holds Try.pinned (OpenSpec.ofChange viewRightSpec)

/-- ITS FALSE NEIGHBOUR: 'it returns false'. Refute it at one input. -/
def viewRightWrong : ChangeSpec := { name := "viewRight", fn := fun _ => fun
  | [d1, d2, d3] => { results := [.lit (.bool false)], args := [d1, d2, d3] }
  | _ => none }
def ViewRightWrongFalsely : Prop := viewRightRow.holds Try.pinned (OpenSpec.ofChange viewRightWrong)

/- THE SECOND FORM. 'bulk': how many values and letters a reading holds, each counted each time it is reached (what is shared counts as often as it is met; a slice's spare places count too). A statement '..UptoSaid' is the law's where the arguments, and the package variables that the reading takes, are together of bulk at most 1048576: NARROWER than '..Said'. Prove '..Said' where nothing that the law and all that it calls make is longer than what came in: it says more and counts as full. Else prove '..UptoSaid'. A law counts once. -/
mutual
def uptoBulk {H : Type} : DataW H → Nat
  | .lit (.string bytes) => bytes.length + 1
  | .lit _ => 1
  | .nil => 1
  | .ptr d => uptoBulk d + 1
  | .slice elems spare => uptoBulkAll elems + uptoBulkAll spare + 1
  | .agg parts => uptoBulkAll parts + 1
  | .iface _ d => uptoBulk d + 1
  | .map entries => uptoBulkEntries entries + 1
  | .held _ => 1
def uptoBulkAll {H : Type} : List (DataW H) → Nat
  | [] => 0
  | d :: r => uptoBulk d + uptoBulkAll r
def uptoBulkEntries {H : Type} : List (Lit × DataW H) → Nat
  | [] => 0
  | x :: r => uptoBulkEntry x + uptoBulkEntries r
def uptoBulkEntry {H : Type} : Lit × DataW H → Nat
  | (.string bytes, d) => bytes.length + uptoBulk d + 1
  | (_, d) => uptoBulk d + 1
 end
def uptoSmall : (H : Type) → List (DataW H) → Bool := fun _ ds => decide (uptoBulkAll ds ≤ 1048576)
def OpenSpec.upto (s : _root_.Go.ChangeSpec) : _root_.Go.OpenSpec := { _root_.Go.OpenSpec.ofChange s with cond := some uptoSmall }

/-- 'feluccalaw11.ViewTells', WHERE WHAT IT READS IS OF BULK AT MOST 1048576: true; the input reads as it did. -/
def viewTellsUptoRow : OpenClaim := { program := "ytdjokmfncammeaa", sum := "31e01ebbb18d4e2686f3afe625a38ae330dc63f05ae52e1e4d79c479da71730a", func := "felucca/feluccalaw11.ViewTells", spec := "viewTells", unfollowed := true, recurses := true, apart := false, narrowed := true }
def ViewTellsUptoSaid : Prop := viewTellsUptoRow.holds Try.pinned (OpenSpec.upto viewTellsSpec)

/-- 'feluccalaw11.ViewFroms', WHERE WHAT IT READS IS OF BULK AT MOST 1048576: true; the input reads as it did. -/
def viewFromsUptoRow : OpenClaim := { program := "ytdjokmfncammeaa", sum := "31e01ebbb18d4e2686f3afe625a38ae330dc63f05ae52e1e4d79c479da71730a", func := "felucca/feluccalaw11.ViewFroms", spec := "viewFroms", unfollowed := true, recurses := true, apart := false, narrowed := true }
def ViewFromsUptoSaid : Prop := viewFromsUptoRow.holds Try.pinned (OpenSpec.upto viewFromsSpec)

/-- 'feluccalaw11.ViewBare', WHERE WHAT IT READS IS OF BULK AT MOST 1048576: true; the input reads as it did. -/
def viewBareUptoRow : OpenClaim := { program := "ytdjokmfncammeaa", sum := "31e01ebbb18d4e2686f3afe625a38ae330dc63f05ae52e1e4d79c479da71730a", func := "felucca/feluccalaw11.ViewBare", spec := "viewBare", unfollowed := true, recurses := true, apart := false, narrowed := true }
def ViewBareUptoSaid : Prop := viewBareUptoRow.holds Try.pinned (OpenSpec.upto viewBareSpec)

/-- 'feluccalaw11.ViewBooks', WHERE WHAT IT READS IS OF BULK AT MOST 1048576: true; the input reads as it did. -/
def viewBooksUptoRow : OpenClaim := { program := "ytdjokmfncammeaa", sum := "31e01ebbb18d4e2686f3afe625a38ae330dc63f05ae52e1e4d79c479da71730a", func := "felucca/feluccalaw11.ViewBooks", spec := "viewBooks", unfollowed := true, recurses := true, apart := false, narrowed := true }
def ViewBooksUptoSaid : Prop := viewBooksUptoRow.holds Try.pinned (OpenSpec.upto viewBooksSpec)

/-- 'feluccalaw11.ViewRight', WHERE WHAT IT READS IS OF BULK AT MOST 1048576: true; the input reads as it did. -/
def viewRightUptoRow : OpenClaim := { program := "ytdjokmfncammeaa", sum := "31e01ebbb18d4e2686f3afe625a38ae330dc63f05ae52e1e4d79c479da71730a", func := "felucca/feluccalaw11.ViewRight", spec := "viewRight", unfollowed := true, recurses := true, apart := false, narrowed := true }
def ViewRightUptoSaid : Prop := viewRightUptoRow.holds Try.pinned (OpenSpec.upto viewRightSpec)

end Rows
end Go.Proofs.Ytdjokmfncammeaa
