/-
  Arrays: the plain law: views flipped, formed anew.
-/
import Derived.Test.YtcbaolgciiieeaaGreatAeA
set_option linter.unusedSectionVars false
set_option linter.unusedSimpArgs false
set_option linter.unusedVariables false
namespace Go.DN.Pl
open Go.AM Go.PL
end Go.DN.Pl
