/-
  Rules to run the evaluator's code by hand: more of calls.
-/
import Derived.Test.YtjcilbnbciclpaaEvEvX4
set_option linter.unusedVariables false
set_option linter.unusedSimpArgs false
set_option linter.unnecessarySimpa false
namespace Go.Ev
section
variable {Γ:Nat→Option FD} {ρ:Nat→D} {st:Store} {dr:Bool} {R:(Nat→D)→Store→List Fl→Prop} {l:List Op1} {g:Option (Nat×Bool)} {mv:Bool} {k:Nat} {x y:A}
end
def Bo:Option D→Bool
 |some (.bool true)=>true
 |_=>false
theorem zU {o:Option D} (h:Bo o=true):o=some (.bool true):=by
 unfold Bo at h
 split at h
 ·rfl
 ·cases h
end Go.Ev
