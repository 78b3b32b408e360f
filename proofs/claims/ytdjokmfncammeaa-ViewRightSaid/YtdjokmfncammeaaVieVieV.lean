/-
  The small case of the view comes out right.
-/
import Derived.Test.YtdjokmfncammeaaVieVieQ
set_option linter.unusedVariables false
set_option linter.unusedSimpArgs false
set_option linter.unnecessarySimpa false
namespace Go.Vie
open Go.Ev
def isT : Option D → Bool
  | some (.bool true) => true
  | _ => false
theorem isT_eq {d : Option D} (h : isT d = true) : d = some (.bool true) := by
  unfold isT at h
  split at h
  · rfl
  · cases h
set_option maxRecDepth 100000 in
theorem small_run : isT (callP Γ 400 8 []) = true := by decide +kernel
theorem s_small : EvP Γ 8 [] (.bool true) := EvP_of_run (isT_eq small_run)
end Go.Vie
