/-
  No cell of these rows narrows 'for every input' (looked for: loops, veiled, ifaces, maps, wideKeys, modest, calm, conditions, laid).
  DERIVED. THE GIVEN ROWS OF THIS SEAT. 9 by the template 'for every input the law returns true; each argument reads behind the call as it read before'; 0 by the template 'total and deterministic' (their statements: YtjcilbnbciclpaaTotals.lean).
  GIVEN WITH THE SEED: the statements are not yours to turn. If you find one false, say at which input.
  Laid BY PROGRAM, IN A SANDBOX (cutbox-rows.mjs): the forced cells as the released guide's own fill.sh prints them over the translation ab65ff1e29aa6298… (all of the seat's roots in one cut). By AI agents, Wed Nov 11 2026. No macro, syntax, notation, axiom, sorry.
-/
import Derived.Test.YtjcilbnbciclpaaChecked
import GoSem.Claim
import GoSem.ClaimJoined
import GoSem.ClaimMapViews
import Derived.JoinedTies
import Derived.KernelRfl
namespace Go.Proofs.Ytjcilbnbciclpaa
/- THE CELL 'sum', in the pinned program and in every row, IS THE sha256 OF THE DUMP (.gsa) THAT YtjcilbnbciclpaaProg.lean LOADS. Nothing in Lean hashes anything: it is a label: what it is worth is what the hold of that sum in a sandbox is worth. -/
noncomputable def Try.pinned : Pinned := { name := "ytjcilbnbciclpaa", sum := "ab65ff1e29aa6298fb356be427082ea6f8693dce006211a9bf7582e0da36a1be", checked := Try.checked }
namespace Rows
def none {H : Type} : Left H := { results := [], args := [] }

/-- 'feluccalaw17.LeastTells': WHATEVER THE INPUT: true; the input reads as it did. -/
def leastTellsSpec : ChangeSpec := { name := "leastTells", fn := fun _ => fun
  | [d1, d2, d3, d4, d5, d6, d7] => { results := [.lit (.bool true)], args := [d1, d2, d3, d4, d5, d6, d7] }
  | _ => none }
def leastTellsRow : OpenClaim := { program := "ytjcilbnbciclpaa", sum := "ab65ff1e29aa6298fb356be427082ea6f8693dce006211a9bf7582e0da36a1be", func := "felucca/feluccalaw17.LeastTells", spec := "leastTells", unfollowed := true, recurses := true, apart := false }
def LeastTellsSaid : Prop := leastTellsRow.holds Try.pinned (OpenSpec.ofChange leastTellsSpec)

/-- ITS FALSE NEIGHBOUR: 'it returns false'. Refute it at one input. -/
def leastTellsWrong : ChangeSpec := { name := "leastTells", fn := fun _ => fun
  | [d1, d2, d3, d4, d5, d6, d7] => { results := [.lit (.bool false)], args := [d1, d2, d3, d4, d5, d6, d7] }
  | _ => none }
def LeastTellsWrongFalsely : Prop := leastTellsRow.holds Try.pinned (OpenSpec.ofChange leastTellsWrong)

/-- 'feluccalaw17.LeastLater': WHATEVER THE INPUT: true; the input reads as it did. -/
def leastLaterSpec : ChangeSpec := { name := "leastLater", fn := fun _ => fun
  | [d1, d2, d3, d4, d5, d6, d7, d8, d9] => { results := [.lit (.bool true)], args := [d1, d2, d3, d4, d5, d6, d7, d8, d9] }
  | _ => none }
def leastLaterRow : OpenClaim := { program := "ytjcilbnbciclpaa", sum := "ab65ff1e29aa6298fb356be427082ea6f8693dce006211a9bf7582e0da36a1be", func := "felucca/feluccalaw17.LeastLater", spec := "leastLater", unfollowed := true, recurses := true, apart := false }
def LeastLaterSaid : Prop := leastLaterRow.holds Try.pinned (OpenSpec.ofChange leastLaterSpec)

/-- ITS FALSE NEIGHBOUR: 'it returns false'. Refute it at one input. -/
def leastLaterWrong : ChangeSpec := { name := "leastLater", fn := fun _ => fun
  | [d1, d2, d3, d4, d5, d6, d7, d8, d9] => { results := [.lit (.bool false)], args := [d1, d2, d3, d4, d5, d6, d7, d8, d9] }
  | _ => none }
def LeastLaterWrongFalsely : Prop := leastLaterRow.holds Try.pinned (OpenSpec.ofChange leastLaterWrong)

/-- 'feluccalaw17.LeastShuts': WHATEVER THE INPUT: true; the input reads as it did. -/
def leastShutsSpec : ChangeSpec := { name := "leastShuts", fn := fun _ => fun
  | [d1, d2, d3, d4, d5, d6, d7] => { results := [.lit (.bool true)], args := [d1, d2, d3, d4, d5, d6, d7] }
  | _ => none }
def leastShutsRow : OpenClaim := { program := "ytjcilbnbciclpaa", sum := "ab65ff1e29aa6298fb356be427082ea6f8693dce006211a9bf7582e0da36a1be", func := "felucca/feluccalaw17.LeastShuts", spec := "leastShuts", unfollowed := true, recurses := true, apart := false }
def LeastShutsSaid : Prop := leastShutsRow.holds Try.pinned (OpenSpec.ofChange leastShutsSpec)

/-- ITS FALSE NEIGHBOUR: 'it returns false'. Refute it at one input. -/
def leastShutsWrong : ChangeSpec := { name := "leastShuts", fn := fun _ => fun
  | [d1, d2, d3, d4, d5, d6, d7] => { results := [.lit (.bool false)], args := [d1, d2, d3, d4, d5, d6, d7] }
  | _ => none }
def LeastShutsWrongFalsely : Prop := leastShutsRow.holds Try.pinned (OpenSpec.ofChange leastShutsWrong)

/-- 'feluccalaw17.LeastFirst': WHATEVER THE INPUT: true; the input reads as it did. -/
def leastFirstSpec : ChangeSpec := { name := "leastFirst", fn := fun _ => fun
  | [d1, d2, d3, d4, d5, d6] => { results := [.lit (.bool true)], args := [d1, d2, d3, d4, d5, d6] }
  | _ => none }
def leastFirstRow : OpenClaim := { program := "ytjcilbnbciclpaa", sum := "ab65ff1e29aa6298fb356be427082ea6f8693dce006211a9bf7582e0da36a1be", func := "felucca/feluccalaw17.LeastFirst", spec := "leastFirst", unfollowed := true, recurses := true, apart := false }
def LeastFirstSaid : Prop := leastFirstRow.holds Try.pinned (OpenSpec.ofChange leastFirstSpec)

/-- ITS FALSE NEIGHBOUR: 'it returns false'. Refute it at one input. -/
def leastFirstWrong : ChangeSpec := { name := "leastFirst", fn := fun _ => fun
  | [d1, d2, d3, d4, d5, d6] => { results := [.lit (.bool false)], args := [d1, d2, d3, d4, d5, d6] }
  | _ => none }
def LeastFirstWrongFalsely : Prop := leastFirstRow.holds Try.pinned (OpenSpec.ofChange leastFirstWrong)

/-- 'feluccalaw17.LeastBeats': WHATEVER THE INPUT: true; the input reads as it did. -/
def leastBeatsSpec : ChangeSpec := { name := "leastBeats", fn := fun _ => fun
  | [d1, d2, d3, d4, d5, d6, d7] => { results := [.lit (.bool true)], args := [d1, d2, d3, d4, d5, d6, d7] }
  | _ => none }
def leastBeatsRow : OpenClaim := { program := "ytjcilbnbciclpaa", sum := "ab65ff1e29aa6298fb356be427082ea6f8693dce006211a9bf7582e0da36a1be", func := "felucca/feluccalaw17.LeastBeats", spec := "leastBeats", unfollowed := true, recurses := true, apart := false }
def LeastBeatsSaid : Prop := leastBeatsRow.holds Try.pinned (OpenSpec.ofChange leastBeatsSpec)

/-- ITS FALSE NEIGHBOUR: 'it returns false'. Refute it at one input. -/
def leastBeatsWrong : ChangeSpec := { name := "leastBeats", fn := fun _ => fun
  | [d1, d2, d3, d4, d5, d6, d7] => { results := [.lit (.bool false)], args := [d1, d2, d3, d4, d5, d6, d7] }
  | _ => none }
def LeastBeatsWrongFalsely : Prop := leastBeatsRow.holds Try.pinned (OpenSpec.ofChange leastBeatsWrong)

/-- 'feluccalaw18.SpurTells': WHATEVER THE INPUT: true; the input reads as it did. -/
def spurTellsSpec : ChangeSpec := { name := "spurTells", fn := fun _ => fun
  | [d1, d2, d3, d4, d5, d6, d7, d8] => { results := [.lit (.bool true)], args := [d1, d2, d3, d4, d5, d6, d7, d8] }
  | _ => none }
def spurTellsRow : OpenClaim := { program := "ytjcilbnbciclpaa", sum := "ab65ff1e29aa6298fb356be427082ea6f8693dce006211a9bf7582e0da36a1be", func := "felucca/feluccalaw18.SpurTells", spec := "spurTells", unfollowed := true, recurses := true, apart := false }
def SpurTellsSaid : Prop := spurTellsRow.holds Try.pinned (OpenSpec.ofChange spurTellsSpec)

/-- ITS FALSE NEIGHBOUR: 'it returns false'. Refute it at one input. -/
def spurTellsWrong : ChangeSpec := { name := "spurTells", fn := fun _ => fun
  | [d1, d2, d3, d4, d5, d6, d7, d8] => { results := [.lit (.bool false)], args := [d1, d2, d3, d4, d5, d6, d7, d8] }
  | _ => none }
def SpurTellsWrongFalsely : Prop := spurTellsRow.holds Try.pinned (OpenSpec.ofChange spurTellsWrong)

/-- 'feluccalaw18.SpurBans': WHATEVER THE INPUT: true; the input reads as it did. -/
def spurBansSpec : ChangeSpec := { name := "spurBans", fn := fun _ => fun
  | [d1, d2, d3, d4, d5, d6, d7, d8, d9] => { results := [.lit (.bool true)], args := [d1, d2, d3, d4, d5, d6, d7, d8, d9] }
  | _ => none }
def spurBansRow : OpenClaim := { program := "ytjcilbnbciclpaa", sum := "ab65ff1e29aa6298fb356be427082ea6f8693dce006211a9bf7582e0da36a1be", func := "felucca/feluccalaw18.SpurBans", spec := "spurBans", unfollowed := true, recurses := true, apart := false }
def SpurBansSaid : Prop := spurBansRow.holds Try.pinned (OpenSpec.ofChange spurBansSpec)

/-- ITS FALSE NEIGHBOUR: 'it returns false'. Refute it at one input. -/
def spurBansWrong : ChangeSpec := { name := "spurBans", fn := fun _ => fun
  | [d1, d2, d3, d4, d5, d6, d7, d8, d9] => { results := [.lit (.bool false)], args := [d1, d2, d3, d4, d5, d6, d7, d8, d9] }
  | _ => none }
def SpurBansWrongFalsely : Prop := spurBansRow.holds Try.pinned (OpenSpec.ofChange spurBansWrong)

/-- 'feluccalaw18.SpurBeats': WHATEVER THE INPUT: true; the input reads as it did. -/
def spurBeatsSpec : ChangeSpec := { name := "spurBeats", fn := fun _ => fun
  | [d1, d2, d3, d4, d5, d6, d7, d8, d9] => { results := [.lit (.bool true)], args := [d1, d2, d3, d4, d5, d6, d7, d8, d9] }
  | _ => none }
def spurBeatsRow : OpenClaim := { program := "ytjcilbnbciclpaa", sum := "ab65ff1e29aa6298fb356be427082ea6f8693dce006211a9bf7582e0da36a1be", func := "felucca/feluccalaw18.SpurBeats", spec := "spurBeats", unfollowed := true, recurses := true, apart := false }
def SpurBeatsSaid : Prop := spurBeatsRow.holds Try.pinned (OpenSpec.ofChange spurBeatsSpec)

/-- ITS FALSE NEIGHBOUR: 'it returns false'. Refute it at one input. -/
def spurBeatsWrong : ChangeSpec := { name := "spurBeats", fn := fun _ => fun
  | [d1, d2, d3, d4, d5, d6, d7, d8, d9] => { results := [.lit (.bool false)], args := [d1, d2, d3, d4, d5, d6, d7, d8, d9] }
  | _ => none }
def SpurBeatsWrongFalsely : Prop := spurBeatsRow.holds Try.pinned (OpenSpec.ofChange spurBeatsWrong)

/-- 'feluccalaw18.SpurParts': WHATEVER THE INPUT: true; the input reads as it did. -/
def spurPartsSpec : ChangeSpec := { name := "spurParts", fn := fun _ => fun
  | [d1, d2, d3, d4, d5, d6, d7, d8] => { results := [.lit (.bool true)], args := [d1, d2, d3, d4, d5, d6, d7, d8] }
  | _ => none }
def spurPartsRow : OpenClaim := { program := "ytjcilbnbciclpaa", sum := "ab65ff1e29aa6298fb356be427082ea6f8693dce006211a9bf7582e0da36a1be", func := "felucca/feluccalaw18.SpurParts", spec := "spurParts", unfollowed := true, recurses := true, apart := false }
def SpurPartsSaid : Prop := spurPartsRow.holds Try.pinned (OpenSpec.ofChange spurPartsSpec)

/-- ITS FALSE NEIGHBOUR: 'it returns false'. Refute it at one input. -/
def spurPartsWrong : ChangeSpec := { name := "spurParts", fn := fun _ => fun
  | [d1, d2, d3, d4, d5, d6, d7, d8] => { results := [.lit (.bool false)], args := [d1, d2, d3, d4, d5, d6, d7, d8] }
  | _ => none }
def SpurPartsWrongFalsely : Prop := spurPartsRow.holds Try.pinned (OpenSpec.ofChange spurPartsWrong)

/- THE SECOND FORM. 'bulk': how many values and letters a reading holds, each counted each time it is reached (what is shared counts as often as it is met; a slice's spare places count too). A statement '..UptoSaid' is the law's where the arguments, and the package variables that the reading takes, are together of bulk at most 1048576: NARROWER than '..Said'. Prove '..Said' where nothing that the law and all that it calls make is longer than what came in: it says more and counts as full. Else prove '..UptoSaid'. A law counts once. -/
mutual
def uptoBulk {H : Type} : DataW H → Nat
  | .lit (.string bytes) => bytes.length + 1
  | .lit _ => 1
  | .nil => 1
  | .ptr d => uptoBulk d + 1
  | .slice elems spare => uptoBulkAll elems + uptoBulkAll spare + 1
  | .agg parts => uptoBulkAll parts + 1
  | .iface _ d => uptoBulk d + 1
  | .map entries => uptoBulkEntries entries + 1
  | .held _ => 1
def uptoBulkAll {H : Type} : List (DataW H) → Nat
  | [] => 0
  | d :: r => uptoBulk d + uptoBulkAll r
def uptoBulkEntries {H : Type} : List (Lit × DataW H) → Nat
  | [] => 0
  | x :: r => uptoBulkEntry x + uptoBulkEntries r
def uptoBulkEntry {H : Type} : Lit × DataW H → Nat
  | (.string bytes, d) => bytes.length + uptoBulk d + 1
  | (_, d) => uptoBulk d + 1
 end
def uptoSmall : (H : Type) → List (DataW H) → Bool := fun _ ds => decide (uptoBulkAll ds ≤ 1048576)
def OpenSpec.upto (s : _root_.Go.ChangeSpec) : _root_.Go.OpenSpec := { _root_.Go.OpenSpec.ofChange s with cond := some uptoSmall }

/-- 'feluccalaw17.LeastTells', WHERE WHAT IT READS IS OF BULK AT MOST 1048576: true; the input reads as it did. -/
def leastTellsUptoRow : OpenClaim := { program := "ytjcilbnbciclpaa", sum := "ab65ff1e29aa6298fb356be427082ea6f8693dce006211a9bf7582e0da36a1be", func := "felucca/feluccalaw17.LeastTells", spec := "leastTells", unfollowed := true, recurses := true, apart := false, narrowed := true }
def LeastTellsUptoSaid : Prop := leastTellsUptoRow.holds Try.pinned (OpenSpec.upto leastTellsSpec)

/-- 'feluccalaw17.LeastLater', WHERE WHAT IT READS IS OF BULK AT MOST 1048576: true; the input reads as it did. -/
def leastLaterUptoRow : OpenClaim := { program := "ytjcilbnbciclpaa", sum := "ab65ff1e29aa6298fb356be427082ea6f8693dce006211a9bf7582e0da36a1be", func := "felucca/feluccalaw17.LeastLater", spec := "leastLater", unfollowed := true, recurses := true, apart := false, narrowed := true }
def LeastLaterUptoSaid : Prop := leastLaterUptoRow.holds Try.pinned (OpenSpec.upto leastLaterSpec)

/-- 'feluccalaw17.LeastShuts', WHERE WHAT IT READS IS OF BULK AT MOST 1048576: true; the input reads as it did. -/
def leastShutsUptoRow : OpenClaim := { program := "ytjcilbnbciclpaa", sum := "ab65ff1e29aa6298fb356be427082ea6f8693dce006211a9bf7582e0da36a1be", func := "felucca/feluccalaw17.LeastShuts", spec := "leastShuts", unfollowed := true, recurses := true, apart := false, narrowed := true }
def LeastShutsUptoSaid : Prop := leastShutsUptoRow.holds Try.pinned (OpenSpec.upto leastShutsSpec)

/-- 'feluccalaw17.LeastFirst', WHERE WHAT IT READS IS OF BULK AT MOST 1048576: true; the input reads as it did. -/
def leastFirstUptoRow : OpenClaim := { program := "ytjcilbnbciclpaa", sum := "ab65ff1e29aa6298fb356be427082ea6f8693dce006211a9bf7582e0da36a1be", func := "felucca/feluccalaw17.LeastFirst", spec := "leastFirst", unfollowed := true, recurses := true, apart := false, narrowed := true }
def LeastFirstUptoSaid : Prop := leastFirstUptoRow.holds Try.pinned (OpenSpec.upto leastFirstSpec)

/-- 'feluccalaw17.LeastBeats', WHERE WHAT IT READS IS OF BULK AT MOST 1048576: true; the input reads as it did. -/
def leastBeatsUptoRow : OpenClaim := { program := "ytjcilbnbciclpaa", sum := "ab65ff1e29aa6298fb356be427082ea6f8693dce006211a9bf7582e0da36a1be", func := "felucca/feluccalaw17.LeastBeats", spec := "leastBeats", unfollowed := true, recurses := true, apart := false, narrowed := true }
def LeastBeatsUptoSaid : Prop := leastBeatsUptoRow.holds Try.pinned (OpenSpec.upto leastBeatsSpec)

/-- 'feluccalaw18.SpurTells', WHERE WHAT IT READS IS OF BULK AT MOST 1048576: true; the input reads as it did. -/
def spurTellsUptoRow : OpenClaim := { program := "ytjcilbnbciclpaa", sum := "ab65ff1e29aa6298fb356be427082ea6f8693dce006211a9bf7582e0da36a1be", func := "felucca/feluccalaw18.SpurTells", spec := "spurTells", unfollowed := true, recurses := true, apart := false, narrowed := true }
def SpurTellsUptoSaid : Prop := spurTellsUptoRow.holds Try.pinned (OpenSpec.upto spurTellsSpec)

/-- 'feluccalaw18.SpurBans', WHERE WHAT IT READS IS OF BULK AT MOST 1048576: true; the input reads as it did. -/
def spurBansUptoRow : OpenClaim := { program := "ytjcilbnbciclpaa", sum := "ab65ff1e29aa6298fb356be427082ea6f8693dce006211a9bf7582e0da36a1be", func := "felucca/feluccalaw18.SpurBans", spec := "spurBans", unfollowed := true, recurses := true, apart := false, narrowed := true }
def SpurBansUptoSaid : Prop := spurBansUptoRow.holds Try.pinned (OpenSpec.upto spurBansSpec)

/-- 'feluccalaw18.SpurBeats', WHERE WHAT IT READS IS OF BULK AT MOST 1048576: true; the input reads as it did. -/
def spurBeatsUptoRow : OpenClaim := { program := "ytjcilbnbciclpaa", sum := "ab65ff1e29aa6298fb356be427082ea6f8693dce006211a9bf7582e0da36a1be", func := "felucca/feluccalaw18.SpurBeats", spec := "spurBeats", unfollowed := true, recurses := true, apart := false, narrowed := true }
def SpurBeatsUptoSaid : Prop := spurBeatsUptoRow.holds Try.pinned (OpenSpec.upto spurBeatsSpec)

/-- 'feluccalaw18.SpurParts', WHERE WHAT IT READS IS OF BULK AT MOST 1048576: true; the input reads as it did. -/
def spurPartsUptoRow : OpenClaim := { program := "ytjcilbnbciclpaa", sum := "ab65ff1e29aa6298fb356be427082ea6f8693dce006211a9bf7582e0da36a1be", func := "felucca/feluccalaw18.SpurParts", spec := "spurParts", unfollowed := true, recurses := true, apart := false, narrowed := true }
def SpurPartsUptoSaid : Prop := spurPartsUptoRow.holds Try.pinned (OpenSpec.upto spurPartsSpec)

end Rows
end Go.Proofs.Ytjcilbnbciclpaa
