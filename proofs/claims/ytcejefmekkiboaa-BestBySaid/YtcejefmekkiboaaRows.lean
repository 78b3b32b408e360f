/-
  No cell of these rows narrows 'for every input' (looked for: loops, veiled, ifaces, maps, wideKeys, modest, calm, conditions, laid).
  DERIVED. THE GIVEN ROWS OF THIS SEAT. 4 by the template 'for every input the law returns true; each argument reads behind the call as it read before'; 0 by the template 'total and deterministic' (their statements: YtcejefmekkiboaaTotals.lean).
  GIVEN WITH THE SEED: the statements are not yours to turn. If you find one false, say at which input.
  Laid BY PROGRAM, IN A SANDBOX (cutbox-rows.mjs): the forced cells as the released guide's own fill.sh prints them over the translation af85f43aeb636781… (all of the seat's roots in one cut). By AI agents, Wed Nov 11 2026. No macro, syntax, notation, axiom, sorry.
-/
import Derived.Test.YtcejefmekkiboaaChecked
import GoSem.Claim
import GoSem.ClaimJoined
import GoSem.ClaimMapViews
import Derived.JoinedTies
import Derived.KernelRfl
namespace Go.Proofs.Ytcejefmekkiboaa
/- THE CELL 'sum', in the pinned program and in every row, IS THE sha256 OF THE DUMP (.gsa) THAT YtcejefmekkiboaaProg.lean LOADS. Nothing in Lean hashes anything: it is a label: what it is worth is what the hold of that sum in a sandbox is worth. -/
noncomputable def Try.pinned : Pinned := { name := "ytcejefmekkiboaa", sum := "af85f43aeb636781c4b745ca09ca272f4b7b13bc5bdc45e94c9194c06c22daf2", checked := Try.checked }
namespace Rows
def none {H : Type} : Left H := { results := [], args := [] }

/-- 'feluccalaw19.BestMore': WHATEVER THE INPUT: true; the input reads as it did. -/
def bestMoreSpec : ChangeSpec := { name := "bestMore", fn := fun _ => fun
  | [d1, d2, d3, d4, d5, d6, d7] => { results := [.lit (.bool true)], args := [d1, d2, d3, d4, d5, d6, d7] }
  | _ => none }
def bestMoreRow : OpenClaim := { program := "ytcejefmekkiboaa", sum := "af85f43aeb636781c4b745ca09ca272f4b7b13bc5bdc45e94c9194c06c22daf2", func := "felucca/feluccalaw19.BestMore", spec := "bestMore", unfollowed := true, recurses := true, apart := false }
def BestMoreSaid : Prop := bestMoreRow.holds Try.pinned (OpenSpec.ofChange bestMoreSpec)

/-- ITS FALSE NEIGHBOUR: 'it returns false'. Refute it at one input. -/
def bestMoreWrong : ChangeSpec := { name := "bestMore", fn := fun _ => fun
  | [d1, d2, d3, d4, d5, d6, d7] => { results := [.lit (.bool false)], args := [d1, d2, d3, d4, d5, d6, d7] }
  | _ => none }
def BestMoreWrongFalsely : Prop := bestMoreRow.holds Try.pinned (OpenSpec.ofChange bestMoreWrong)

/-- 'feluccalaw19.BestBy': WHATEVER THE INPUT: true; the input reads as it did. -/
def bestBySpec : ChangeSpec := { name := "bestBy", fn := fun _ => fun
  | [d1, d2, d3, d4, d5, d6, d7] => { results := [.lit (.bool true)], args := [d1, d2, d3, d4, d5, d6, d7] }
  | _ => none }
def bestByRow : OpenClaim := { program := "ytcejefmekkiboaa", sum := "af85f43aeb636781c4b745ca09ca272f4b7b13bc5bdc45e94c9194c06c22daf2", func := "felucca/feluccalaw19.BestBy", spec := "bestBy", unfollowed := true, recurses := true, apart := false }
def BestBySaid : Prop := bestByRow.holds Try.pinned (OpenSpec.ofChange bestBySpec)

/-- ITS FALSE NEIGHBOUR: 'it returns false'. Refute it at one input. -/
def bestByWrong : ChangeSpec := { name := "bestBy", fn := fun _ => fun
  | [d1, d2, d3, d4, d5, d6, d7] => { results := [.lit (.bool false)], args := [d1, d2, d3, d4, d5, d6, d7] }
  | _ => none }
def BestByWrongFalsely : Prop := bestByRow.holds Try.pinned (OpenSpec.ofChange bestByWrong)

/-- 'feluccalaw19.BestRises': WHATEVER THE INPUT: true; the input reads as it did. -/
def bestRisesSpec : ChangeSpec := { name := "bestRises", fn := fun _ => fun
  | [d1, d2, d3, d4, d5, d6, d7] => { results := [.lit (.bool true)], args := [d1, d2, d3, d4, d5, d6, d7] }
  | _ => none }
def bestRisesRow : OpenClaim := { program := "ytcejefmekkiboaa", sum := "af85f43aeb636781c4b745ca09ca272f4b7b13bc5bdc45e94c9194c06c22daf2", func := "felucca/feluccalaw19.BestRises", spec := "bestRises", unfollowed := true, recurses := true, apart := false }
def BestRisesSaid : Prop := bestRisesRow.holds Try.pinned (OpenSpec.ofChange bestRisesSpec)

/-- ITS FALSE NEIGHBOUR: 'it returns false'. Refute it at one input. -/
def bestRisesWrong : ChangeSpec := { name := "bestRises", fn := fun _ => fun
  | [d1, d2, d3, d4, d5, d6, d7] => { results := [.lit (.bool false)], args := [d1, d2, d3, d4, d5, d6, d7] }
  | _ => none }
def BestRisesWrongFalsely : Prop := bestRisesRow.holds Try.pinned (OpenSpec.ofChange bestRisesWrong)

/-- 'feluccalaw19.BestWhole': WHATEVER THE INPUT: true; the input reads as it did. -/
def bestWholeSpec : ChangeSpec := { name := "bestWhole", fn := fun _ => fun
  | [d1, d2, d3, d4, d5, d6, d7, d8] => { results := [.lit (.bool true)], args := [d1, d2, d3, d4, d5, d6, d7, d8] }
  | _ => none }
def bestWholeRow : OpenClaim := { program := "ytcejefmekkiboaa", sum := "af85f43aeb636781c4b745ca09ca272f4b7b13bc5bdc45e94c9194c06c22daf2", func := "felucca/feluccalaw19.BestWhole", spec := "bestWhole", unfollowed := true, recurses := true, apart := false }
def BestWholeSaid : Prop := bestWholeRow.holds Try.pinned (OpenSpec.ofChange bestWholeSpec)

/-- ITS FALSE NEIGHBOUR: 'it returns false'. Refute it at one input. -/
def bestWholeWrong : ChangeSpec := { name := "bestWhole", fn := fun _ => fun
  | [d1, d2, d3, d4, d5, d6, d7, d8] => { results := [.lit (.bool false)], args := [d1, d2, d3, d4, d5, d6, d7, d8] }
  | _ => none }
def BestWholeWrongFalsely : Prop := bestWholeRow.holds Try.pinned (OpenSpec.ofChange bestWholeWrong)

/- THE SECOND FORM. 'bulk': how many values and letters a reading holds, each counted each time it is reached (what is shared counts as often as it is met; a slice's spare places count too). A statement '..UptoSaid' is the law's where the arguments, and the package variables that the reading takes, are together of bulk at most 1048576: NARROWER than '..Said'. Prove '..Said' where nothing that the law and all that it calls make is longer than what came in: it says more and counts as full. Else prove '..UptoSaid'. A law counts once. -/
mutual
def uptoBulk {H : Type} : DataW H → Nat
  | .lit (.string bytes) => bytes.length + 1
  | .lit _ => 1
  | .nil => 1
  | .ptr d => uptoBulk d + 1
  | .slice elems spare => uptoBulkAll elems + uptoBulkAll spare + 1
  | .agg parts => uptoBulkAll parts + 1
  | .iface _ d => uptoBulk d + 1
  | .map entries => uptoBulkEntries entries + 1
  | .held _ => 1
def uptoBulkAll {H : Type} : List (DataW H) → Nat
  | [] => 0
  | d :: r => uptoBulk d + uptoBulkAll r
def uptoBulkEntries {H : Type} : List (Lit × DataW H) → Nat
  | [] => 0
  | x :: r => uptoBulkEntry x + uptoBulkEntries r
def uptoBulkEntry {H : Type} : Lit × DataW H → Nat
  | (.string bytes, d) => bytes.length + uptoBulk d + 1
  | (_, d) => uptoBulk d + 1
 end
def uptoSmall : (H : Type) → List (DataW H) → Bool := fun _ ds => decide (uptoBulkAll ds ≤ 1048576)
def OpenSpec.upto (s : _root_.Go.ChangeSpec) : _root_.Go.OpenSpec := { _root_.Go.OpenSpec.ofChange s with cond := some uptoSmall }

/-- 'feluccalaw19.BestMore', WHERE WHAT IT READS IS OF BULK AT MOST 1048576: true; the input reads as it did. -/
def bestMoreUptoRow : OpenClaim := { program := "ytcejefmekkiboaa", sum := "af85f43aeb636781c4b745ca09ca272f4b7b13bc5bdc45e94c9194c06c22daf2", func := "felucca/feluccalaw19.BestMore", spec := "bestMore", unfollowed := true, recurses := true, apart := false, narrowed := true }
def BestMoreUptoSaid : Prop := bestMoreUptoRow.holds Try.pinned (OpenSpec.upto bestMoreSpec)

/-- 'feluccalaw19.BestBy', WHERE WHAT IT READS IS OF BULK AT MOST 1048576: true; the input reads as it did. -/
def bestByUptoRow : OpenClaim := { program := "ytcejefmekkiboaa", sum := "af85f43aeb636781c4b745ca09ca272f4b7b13bc5bdc45e94c9194c06c22daf2", func := "felucca/feluccalaw19.BestBy", spec := "bestBy", unfollowed := true, recurses := true, apart := false, narrowed := true }
def BestByUptoSaid : Prop := bestByUptoRow.holds Try.pinned (OpenSpec.upto bestBySpec)

/-- 'feluccalaw19.BestRises', WHERE WHAT IT READS IS OF BULK AT MOST 1048576: true; the input reads as it did. -/
def bestRisesUptoRow : OpenClaim := { program := "ytcejefmekkiboaa", sum := "af85f43aeb636781c4b745ca09ca272f4b7b13bc5bdc45e94c9194c06c22daf2", func := "felucca/feluccalaw19.BestRises", spec := "bestRises", unfollowed := true, recurses := true, apart := false, narrowed := true }
def BestRisesUptoSaid : Prop := bestRisesUptoRow.holds Try.pinned (OpenSpec.upto bestRisesSpec)

/-- 'feluccalaw19.BestWhole', WHERE WHAT IT READS IS OF BULK AT MOST 1048576: true; the input reads as it did. -/
def bestWholeUptoRow : OpenClaim := { program := "ytcejefmekkiboaa", sum := "af85f43aeb636781c4b745ca09ca272f4b7b13bc5bdc45e94c9194c06c22daf2", func := "felucca/feluccalaw19.BestWhole", spec := "bestWhole", unfollowed := true, recurses := true, apart := false, narrowed := true }
def BestWholeUptoSaid : Prop := bestWholeUptoRow.holds Try.pinned (OpenSpec.upto bestWholeSpec)

end Rows
end Go.Proofs.Ytcejefmekkiboaa
