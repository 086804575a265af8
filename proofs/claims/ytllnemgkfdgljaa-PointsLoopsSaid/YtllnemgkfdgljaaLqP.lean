/-
  Points: the plain law of PointsLoops.
-/
import Derived.Test.YtllnemgkfdgljaaLqG
import Derived.Test.YtllnemgkfdgljaaPl9E
set_option linter.unusedSectionVars false
set_option linter.unusedSimpArgs false
set_option linter.unusedVariables false
namespace Go.DN
open Go.AM
theorem pointsLoopsLaw (p : SPoints) (h : okSPoints p) : ∃ fu, F.adjointlaw9_PointsLoops fu p = some true :=
 ⟨70000000000, pointsLoops_F p⟩
end Go.DN
