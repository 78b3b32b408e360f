/-
  Rules to run the evaluator's code by hand: forgetting the slots that are read no more.
-/
import Derived.Test.YtjcilbnbciclpaaEvEvX5
set_option linter.unusedVariables false
set_option linter.unusedSimpArgs false
set_option linter.unnecessarySimpa false
namespace Go.Ev
section
variable {Γ:Nat→Option FD} {c a b:C} {ρ:Nat→D} {st:Store} {Q:X→(Nat→D)→Store→Prop} {g:(Nat→D)→Nat→D}
end
end Go.Ev
