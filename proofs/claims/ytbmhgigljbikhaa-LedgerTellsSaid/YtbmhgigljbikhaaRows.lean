/-
  No cell of these rows narrows 'for every input' (looked for: loops, veiled, ifaces, maps, wideKeys, modest, calm, conditions, laid).
  DERIVED. THE GIVEN ROWS OF THIS SEAT. 10 by the template 'for every input the law returns true; each argument reads behind the call as it read before'; 0 by the template 'total and deterministic' (their statements: YtbmhgigljbikhaaTotals.lean).
  GIVEN WITH THE SEED: the statements are not yours to turn. If you find one false, say at which input.
  Laid BY PROGRAM, IN A SANDBOX (cutbox-rows.mjs): the forced cells as the released guide's own fill.sh prints them over the translation 653c8f2caac0c2ef… (all of the seat's roots in one cut). By AI agents, Wed Nov 11 2026. No macro, syntax, notation, axiom, sorry.
-/
import Derived.Test.YtbmhgigljbikhaaChecked
import GoSem.Claim
import GoSem.ClaimJoined
import GoSem.ClaimMapViews
import Derived.JoinedTies
import Derived.KernelRfl
namespace Go.Proofs.Ytbmhgigljbikhaa
/- THE CELL 'sum', in the pinned program and in every row, IS THE sha256 OF THE DUMP (.gsa) THAT YtbmhgigljbikhaaProg.lean LOADS. Nothing in Lean hashes anything: it is a label: what it is worth is what the hold of that sum in a sandbox is worth. -/
noncomputable def Try.pinned : Pinned := { name := "ytbmhgigljbikhaa", sum := "653c8f2caac0c2ef51ec6f9c1ce6d61914436b49fd6a7a1a5b9140efc2a24d23", checked := Try.checked }
namespace Rows
def none {H : Type} : Left H := { results := [], args := [] }

/-- 'feluccalaw14.HeapTells': WHATEVER THE INPUT: true; the input reads as it did. -/
def heapTellsSpec : ChangeSpec := { name := "heapTells", fn := fun _ => fun
  | [d1, d2] => { results := [.lit (.bool true)], args := [d1, d2] }
  | _ => none }
def heapTellsRow : OpenClaim := { program := "ytbmhgigljbikhaa", sum := "653c8f2caac0c2ef51ec6f9c1ce6d61914436b49fd6a7a1a5b9140efc2a24d23", func := "felucca/feluccalaw14.HeapTells", spec := "heapTells", recurses := true, apart := false }
def HeapTellsSaid : Prop := heapTellsRow.holds Try.pinned (OpenSpec.ofChange heapTellsSpec)

/-- ITS FALSE NEIGHBOUR: 'it returns false'. Refute it at one input. -/
def heapTellsWrong : ChangeSpec := { name := "heapTells", fn := fun _ => fun
  | [d1, d2] => { results := [.lit (.bool false)], args := [d1, d2] }
  | _ => none }
def HeapTellsWrongFalsely : Prop := heapTellsRow.holds Try.pinned (OpenSpec.ofChange heapTellsWrong)

/-- 'feluccalaw14.HeapRises': WHATEVER THE INPUT: true; the input reads as it did. -/
def heapRisesSpec : ChangeSpec := { name := "heapRises", fn := fun _ => fun
  | [d] => { results := [.lit (.bool true)], args := [d] }
  | _ => none }
def heapRisesRow : OpenClaim := { program := "ytbmhgigljbikhaa", sum := "653c8f2caac0c2ef51ec6f9c1ce6d61914436b49fd6a7a1a5b9140efc2a24d23", func := "felucca/feluccalaw14.HeapRises", spec := "heapRises", recurses := true, apart := false }
def HeapRisesSaid : Prop := heapRisesRow.holds Try.pinned (OpenSpec.ofChange heapRisesSpec)

/-- ITS FALSE NEIGHBOUR: 'it returns false'. Refute it at one input. -/
def heapRisesWrong : ChangeSpec := { name := "heapRises", fn := fun _ => fun
  | [d] => { results := [.lit (.bool false)], args := [d] }
  | _ => none }
def HeapRisesWrongFalsely : Prop := heapRisesRow.holds Try.pinned (OpenSpec.ofChange heapRisesWrong)

/-- 'feluccalaw14.HeapPeeks': WHATEVER THE INPUT: true; the input reads as it did. -/
def heapPeeksSpec : ChangeSpec := { name := "heapPeeks", fn := fun _ => fun
  | [d1, d2] => { results := [.lit (.bool true)], args := [d1, d2] }
  | _ => none }
def heapPeeksRow : OpenClaim := { program := "ytbmhgigljbikhaa", sum := "653c8f2caac0c2ef51ec6f9c1ce6d61914436b49fd6a7a1a5b9140efc2a24d23", func := "felucca/feluccalaw14.HeapPeeks", spec := "heapPeeks", recurses := true, apart := false }
def HeapPeeksSaid : Prop := heapPeeksRow.holds Try.pinned (OpenSpec.ofChange heapPeeksSpec)

/-- ITS FALSE NEIGHBOUR: 'it returns false'. Refute it at one input. -/
def heapPeeksWrong : ChangeSpec := { name := "heapPeeks", fn := fun _ => fun
  | [d1, d2] => { results := [.lit (.bool false)], args := [d1, d2] }
  | _ => none }
def HeapPeeksWrongFalsely : Prop := heapPeeksRow.holds Try.pinned (OpenSpec.ofChange heapPeeksWrong)

/-- 'feluccalaw14.HeapOrder': WHATEVER THE INPUT: true; the input reads as it did. -/
def heapOrderSpec : ChangeSpec := { name := "heapOrder", fn := fun _ => fun
  | [d1, d2] => { results := [.lit (.bool true)], args := [d1, d2] }
  | _ => none }
def heapOrderRow : OpenClaim := { program := "ytbmhgigljbikhaa", sum := "653c8f2caac0c2ef51ec6f9c1ce6d61914436b49fd6a7a1a5b9140efc2a24d23", func := "felucca/feluccalaw14.HeapOrder", spec := "heapOrder", recurses := true, apart := false }
def HeapOrderSaid : Prop := heapOrderRow.holds Try.pinned (OpenSpec.ofChange heapOrderSpec)

/-- ITS FALSE NEIGHBOUR: 'it returns false'. Refute it at one input. -/
def heapOrderWrong : ChangeSpec := { name := "heapOrder", fn := fun _ => fun
  | [d1, d2] => { results := [.lit (.bool false)], args := [d1, d2] }
  | _ => none }
def HeapOrderWrongFalsely : Prop := heapOrderRow.holds Try.pinned (OpenSpec.ofChange heapOrderWrong)

/-- 'feluccalaw09.LedgerTells': WHATEVER THE INPUT: true; the input reads as it did. -/
def ledgerTellsSpec : ChangeSpec := { name := "ledgerTells", fn := fun _ => fun
  | [d1, d2, d3, d4] => { results := [.lit (.bool true)], args := [d1, d2, d3, d4] }
  | _ => none }
def ledgerTellsRow : OpenClaim := { program := "ytbmhgigljbikhaa", sum := "653c8f2caac0c2ef51ec6f9c1ce6d61914436b49fd6a7a1a5b9140efc2a24d23", func := "felucca/feluccalaw09.LedgerTells", spec := "ledgerTells", unfollowed := true, recurses := true, apart := false }
def LedgerTellsSaid : Prop := ledgerTellsRow.holds Try.pinned (OpenSpec.ofChange ledgerTellsSpec)

/-- ITS FALSE NEIGHBOUR: 'it returns false'. Refute it at one input. -/
def ledgerTellsWrong : ChangeSpec := { name := "ledgerTells", fn := fun _ => fun
  | [d1, d2, d3, d4] => { results := [.lit (.bool false)], args := [d1, d2, d3, d4] }
  | _ => none }
def LedgerTellsWrongFalsely : Prop := ledgerTellsRow.holds Try.pinned (OpenSpec.ofChange ledgerTellsWrong)

/-- 'feluccalaw09.LedgerBack': WHATEVER THE INPUT: true; the input reads as it did. -/
def ledgerBackSpec : ChangeSpec := { name := "ledgerBack", fn := fun _ => fun
  | [d1, d2, d3, d4] => { results := [.lit (.bool true)], args := [d1, d2, d3, d4] }
  | _ => none }
def ledgerBackRow : OpenClaim := { program := "ytbmhgigljbikhaa", sum := "653c8f2caac0c2ef51ec6f9c1ce6d61914436b49fd6a7a1a5b9140efc2a24d23", func := "felucca/feluccalaw09.LedgerBack", spec := "ledgerBack", unfollowed := true, recurses := true, apart := false }
def LedgerBackSaid : Prop := ledgerBackRow.holds Try.pinned (OpenSpec.ofChange ledgerBackSpec)

/-- ITS FALSE NEIGHBOUR: 'it returns false'. Refute it at one input. -/
def ledgerBackWrong : ChangeSpec := { name := "ledgerBack", fn := fun _ => fun
  | [d1, d2, d3, d4] => { results := [.lit (.bool false)], args := [d1, d2, d3, d4] }
  | _ => none }
def LedgerBackWrongFalsely : Prop := ledgerBackRow.holds Try.pinned (OpenSpec.ofChange ledgerBackWrong)

/-- 'feluccalaw09.LedgerRight': WHATEVER THE INPUT: true; the input reads as it did. -/
def ledgerRightSpec : ChangeSpec := { name := "ledgerRight", fn := fun _ => fun
  | [d1, d2, d3] => { results := [.lit (.bool true)], args := [d1, d2, d3] }
  | _ => none }
def ledgerRightRow : OpenClaim := { program := "ytbmhgigljbikhaa", sum := "653c8f2caac0c2ef51ec6f9c1ce6d61914436b49fd6a7a1a5b9140efc2a24d23", func := "felucca/feluccalaw09.LedgerRight", spec := "ledgerRight", unfollowed := true, recurses := true, apart := false }
def LedgerRightSaid : Prop := ledgerRightRow.holds Try.pinned (OpenSpec.ofChange ledgerRightSpec)

/-- ITS FALSE NEIGHBOUR: 'it returns false'. Refute it at one input. -/
def ledgerRightWrong : ChangeSpec := { name := "ledgerRight", fn := fun _ => fun
  | [d1, d2, d3] => { results := [.lit (.bool false)], args := [d1, d2, d3] }
  | _ => none }
def LedgerRightWrongFalsely : Prop := ledgerRightRow.holds Try.pinned (OpenSpec.ofChange ledgerRightWrong)

/-- 'feluccalaw09.LedgerBounds': WHATEVER THE INPUT: true; the input reads as it did. -/
def ledgerBoundsSpec : ChangeSpec := { name := "ledgerBounds", fn := fun _ => fun
  | [d1, d2] => { results := [.lit (.bool true)], args := [d1, d2] }
  | _ => none }
def ledgerBoundsRow : OpenClaim := { program := "ytbmhgigljbikhaa", sum := "653c8f2caac0c2ef51ec6f9c1ce6d61914436b49fd6a7a1a5b9140efc2a24d23", func := "felucca/feluccalaw09.LedgerBounds", spec := "ledgerBounds", unfollowed := true, recurses := true, apart := false }
def LedgerBoundsSaid : Prop := ledgerBoundsRow.holds Try.pinned (OpenSpec.ofChange ledgerBoundsSpec)

/-- ITS FALSE NEIGHBOUR: 'it returns false'. Refute it at one input. -/
def ledgerBoundsWrong : ChangeSpec := { name := "ledgerBounds", fn := fun _ => fun
  | [d1, d2] => { results := [.lit (.bool false)], args := [d1, d2] }
  | _ => none }
def LedgerBoundsWrongFalsely : Prop := ledgerBoundsRow.holds Try.pinned (OpenSpec.ofChange ledgerBoundsWrong)

/-- 'feluccalaw09.LedgerOrder': WHATEVER THE INPUT: true; the input reads as it did. -/
def ledgerOrderSpec : ChangeSpec := { name := "ledgerOrder", fn := fun _ => fun
  | [d1, d2, d3, d4, d5, d6] => { results := [.lit (.bool true)], args := [d1, d2, d3, d4, d5, d6] }
  | _ => none }
def ledgerOrderRow : OpenClaim := { program := "ytbmhgigljbikhaa", sum := "653c8f2caac0c2ef51ec6f9c1ce6d61914436b49fd6a7a1a5b9140efc2a24d23", func := "felucca/feluccalaw09.LedgerOrder", spec := "ledgerOrder", unfollowed := true, recurses := true, apart := false }
def LedgerOrderSaid : Prop := ledgerOrderRow.holds Try.pinned (OpenSpec.ofChange ledgerOrderSpec)

/-- ITS FALSE NEIGHBOUR: 'it returns false'. Refute it at one input. -/
def ledgerOrderWrong : ChangeSpec := { name := "ledgerOrder", fn := fun _ => fun
  | [d1, d2, d3, d4, d5, d6] => { results := [.lit (.bool false)], args := [d1, d2, d3, d4, d5, d6] }
  | _ => none }
def LedgerOrderWrongFalsely : Prop := ledgerOrderRow.holds Try.pinned (OpenSpec.ofChange ledgerOrderWrong)

/-- 'feluccalaw09.LedgerDrops': WHATEVER THE INPUT: true; the input reads as it did. -/
def ledgerDropsSpec : ChangeSpec := { name := "ledgerDrops", fn := fun _ => fun
  | [d1, d2, d3, d4] => { results := [.lit (.bool true)], args := [d1, d2, d3, d4] }
  | _ => none }
def ledgerDropsRow : OpenClaim := { program := "ytbmhgigljbikhaa", sum := "653c8f2caac0c2ef51ec6f9c1ce6d61914436b49fd6a7a1a5b9140efc2a24d23", func := "felucca/feluccalaw09.LedgerDrops", spec := "ledgerDrops", unfollowed := true, recurses := true, apart := false }
def LedgerDropsSaid : Prop := ledgerDropsRow.holds Try.pinned (OpenSpec.ofChange ledgerDropsSpec)

/-- ITS FALSE NEIGHBOUR: 'it returns false'. Refute it at one input. -/
def ledgerDropsWrong : ChangeSpec := { name := "ledgerDrops", fn := fun _ => fun
  | [d1, d2, d3, d4] => { results := [.lit (.bool false)], args := [d1, d2, d3, d4] }
  | _ => none }
def LedgerDropsWrongFalsely : Prop := ledgerDropsRow.holds Try.pinned (OpenSpec.ofChange ledgerDropsWrong)

/- THE SECOND FORM. 'bulk': how many values and letters a reading holds, each counted each time it is reached (what is shared counts as often as it is met; a slice's spare places count too). A statement '..UptoSaid' is the law's where the arguments, and the package variables that the reading takes, are together of bulk at most 1048576: NARROWER than '..Said'. Prove '..Said' where nothing that the law and all that it calls make is longer than what came in: it says more and counts as full. Else prove '..UptoSaid'. A law counts once. -/
mutual
def uptoBulk {H : Type} : DataW H → Nat
  | .lit (.string bytes) => bytes.length + 1
  | .lit _ => 1
  | .nil => 1
  | .ptr d => uptoBulk d + 1
  | .slice elems spare => uptoBulkAll elems + uptoBulkAll spare + 1
  | .agg parts => uptoBulkAll parts + 1
  | .iface _ d => uptoBulk d + 1
  | .map entries => uptoBulkEntries entries + 1
  | .held _ => 1
def uptoBulkAll {H : Type} : List (DataW H) → Nat
  | [] => 0
  | d :: r => uptoBulk d + uptoBulkAll r
def uptoBulkEntries {H : Type} : List (Lit × DataW H) → Nat
  | [] => 0
  | x :: r => uptoBulkEntry x + uptoBulkEntries r
def uptoBulkEntry {H : Type} : Lit × DataW H → Nat
  | (.string bytes, d) => bytes.length + uptoBulk d + 1
  | (_, d) => uptoBulk d + 1
 end
def uptoSmall : (H : Type) → List (DataW H) → Bool := fun _ ds => decide (uptoBulkAll ds ≤ 1048576)
def OpenSpec.upto (s : _root_.Go.ChangeSpec) : _root_.Go.OpenSpec := { _root_.Go.OpenSpec.ofChange s with cond := some uptoSmall }

/-- 'feluccalaw14.HeapTells', WHERE WHAT IT READS IS OF BULK AT MOST 1048576: true; the input reads as it did. -/
def heapTellsUptoRow : OpenClaim := { program := "ytbmhgigljbikhaa", sum := "653c8f2caac0c2ef51ec6f9c1ce6d61914436b49fd6a7a1a5b9140efc2a24d23", func := "felucca/feluccalaw14.HeapTells", spec := "heapTells", recurses := true, apart := false, narrowed := true }
def HeapTellsUptoSaid : Prop := heapTellsUptoRow.holds Try.pinned (OpenSpec.upto heapTellsSpec)

/-- 'feluccalaw14.HeapRises', WHERE WHAT IT READS IS OF BULK AT MOST 1048576: true; the input reads as it did. -/
def heapRisesUptoRow : OpenClaim := { program := "ytbmhgigljbikhaa", sum := "653c8f2caac0c2ef51ec6f9c1ce6d61914436b49fd6a7a1a5b9140efc2a24d23", func := "felucca/feluccalaw14.HeapRises", spec := "heapRises", recurses := true, apart := false, narrowed := true }
def HeapRisesUptoSaid : Prop := heapRisesUptoRow.holds Try.pinned (OpenSpec.upto heapRisesSpec)

/-- 'feluccalaw14.HeapPeeks', WHERE WHAT IT READS IS OF BULK AT MOST 1048576: true; the input reads as it did. -/
def heapPeeksUptoRow : OpenClaim := { program := "ytbmhgigljbikhaa", sum := "653c8f2caac0c2ef51ec6f9c1ce6d61914436b49fd6a7a1a5b9140efc2a24d23", func := "felucca/feluccalaw14.HeapPeeks", spec := "heapPeeks", recurses := true, apart := false, narrowed := true }
def HeapPeeksUptoSaid : Prop := heapPeeksUptoRow.holds Try.pinned (OpenSpec.upto heapPeeksSpec)

/-- 'feluccalaw14.HeapOrder', WHERE WHAT IT READS IS OF BULK AT MOST 1048576: true; the input reads as it did. -/
def heapOrderUptoRow : OpenClaim := { program := "ytbmhgigljbikhaa", sum := "653c8f2caac0c2ef51ec6f9c1ce6d61914436b49fd6a7a1a5b9140efc2a24d23", func := "felucca/feluccalaw14.HeapOrder", spec := "heapOrder", recurses := true, apart := false, narrowed := true }
def HeapOrderUptoSaid : Prop := heapOrderUptoRow.holds Try.pinned (OpenSpec.upto heapOrderSpec)

/-- 'feluccalaw09.LedgerTells', WHERE WHAT IT READS IS OF BULK AT MOST 1048576: true; the input reads as it did. -/
def ledgerTellsUptoRow : OpenClaim := { program := "ytbmhgigljbikhaa", sum := "653c8f2caac0c2ef51ec6f9c1ce6d61914436b49fd6a7a1a5b9140efc2a24d23", func := "felucca/feluccalaw09.LedgerTells", spec := "ledgerTells", unfollowed := true, recurses := true, apart := false, narrowed := true }
def LedgerTellsUptoSaid : Prop := ledgerTellsUptoRow.holds Try.pinned (OpenSpec.upto ledgerTellsSpec)

/-- 'feluccalaw09.LedgerBack', WHERE WHAT IT READS IS OF BULK AT MOST 1048576: true; the input reads as it did. -/
def ledgerBackUptoRow : OpenClaim := { program := "ytbmhgigljbikhaa", sum := "653c8f2caac0c2ef51ec6f9c1ce6d61914436b49fd6a7a1a5b9140efc2a24d23", func := "felucca/feluccalaw09.LedgerBack", spec := "ledgerBack", unfollowed := true, recurses := true, apart := false, narrowed := true }
def LedgerBackUptoSaid : Prop := ledgerBackUptoRow.holds Try.pinned (OpenSpec.upto ledgerBackSpec)

/-- 'feluccalaw09.LedgerRight', WHERE WHAT IT READS IS OF BULK AT MOST 1048576: true; the input reads as it did. -/
def ledgerRightUptoRow : OpenClaim := { program := "ytbmhgigljbikhaa", sum := "653c8f2caac0c2ef51ec6f9c1ce6d61914436b49fd6a7a1a5b9140efc2a24d23", func := "felucca/feluccalaw09.LedgerRight", spec := "ledgerRight", unfollowed := true, recurses := true, apart := false, narrowed := true }
def LedgerRightUptoSaid : Prop := ledgerRightUptoRow.holds Try.pinned (OpenSpec.upto ledgerRightSpec)

/-- 'feluccalaw09.LedgerBounds', WHERE WHAT IT READS IS OF BULK AT MOST 1048576: true; the input reads as it did. -/
def ledgerBoundsUptoRow : OpenClaim := { program := "ytbmhgigljbikhaa", sum := "653c8f2caac0c2ef51ec6f9c1ce6d61914436b49fd6a7a1a5b9140efc2a24d23", func := "felucca/feluccalaw09.LedgerBounds", spec := "ledgerBounds", unfollowed := true, recurses := true, apart := false, narrowed := true }
def LedgerBoundsUptoSaid : Prop := ledgerBoundsUptoRow.holds Try.pinned (OpenSpec.upto ledgerBoundsSpec)

/-- 'feluccalaw09.LedgerOrder', WHERE WHAT IT READS IS OF BULK AT MOST 1048576: true; the input reads as it did. -/
def ledgerOrderUptoRow : OpenClaim := { program := "ytbmhgigljbikhaa", sum := "653c8f2caac0c2ef51ec6f9c1ce6d61914436b49fd6a7a1a5b9140efc2a24d23", func := "felucca/feluccalaw09.LedgerOrder", spec := "ledgerOrder", unfollowed := true, recurses := true, apart := false, narrowed := true }
def LedgerOrderUptoSaid : Prop := ledgerOrderUptoRow.holds Try.pinned (OpenSpec.upto ledgerOrderSpec)

/-- 'feluccalaw09.LedgerDrops', WHERE WHAT IT READS IS OF BULK AT MOST 1048576: true; the input reads as it did. -/
def ledgerDropsUptoRow : OpenClaim := { program := "ytbmhgigljbikhaa", sum := "653c8f2caac0c2ef51ec6f9c1ce6d61914436b49fd6a7a1a5b9140efc2a24d23", func := "felucca/feluccalaw09.LedgerDrops", spec := "ledgerDrops", unfollowed := true, recurses := true, apart := false, narrowed := true }
def LedgerDropsUptoSaid : Prop := ledgerDropsUptoRow.holds Try.pinned (OpenSpec.upto ledgerDropsSpec)

end Rows
end Go.Proofs.Ytbmhgigljbikhaa
