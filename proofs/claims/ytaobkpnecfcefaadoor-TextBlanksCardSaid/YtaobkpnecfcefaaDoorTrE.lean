/-
  What the arguments are known to be.
-/
import Derived.Test.YtaobkpnecfcefaaDoorTrS
set_option maxRecDepth 20000
set_option linter.unusedVariables false
set_option linter.unusedSimpArgs false
namespace Go.DN
open Go.AM
end Go.DN
