/-
  Arrays: the plain law: pairs.
-/
import Derived.Test.YtcbaolgciiieeaaGreatAdU
set_option linter.unusedSectionVars false
set_option linter.unusedSimpArgs false
set_option linter.unusedVariables false
namespace Go.DN.Pl
open Go.AM Go.PL
def okOp (op : SOp) : Prop := op.Dims.length ≤ 1048576 ∧ op.At.length ≤ 1048576 ∧ op.Lo.length ≤ 1048576 ∧ op.Hi.length ≤ 1048576 ∧ op.Step.length ≤ 1048576
end Go.DN.Pl
