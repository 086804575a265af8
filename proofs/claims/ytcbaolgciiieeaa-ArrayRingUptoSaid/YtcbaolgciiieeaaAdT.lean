/-
  Arrays: the plain law: places that are free, padded, joined.
-/
import Derived.Test.YtcbaolgciiieeaaAdR
set_option linter.unusedSectionVars false
set_option linter.unusedSimpArgs false
set_option linter.unusedVariables false
namespace Go.DN.Pl
open Go.AM Go.PL
end Go.DN.Pl
