/-
  What the arguments are known to be.
-/
import Derived.Test.YtaobkpnecfcefaaDoorTrS
set_option maxRecDepth 20000
set_option linter.unusedVariables false
set_option linter.unusedSimpArgs false
namespace Go.DN
open Go.AM
noncomputable instance:aR bh:=(mP S0 (.st 0):aR (S0.D (.st 0)))
noncomputable instance:aR cJ:=(mP S0 (.st 1):aR (S0.D (.st 1)))
noncomputable instance:aR ai:=(mP S0 (.st 2):aR (S0.D (.st 2)))
noncomputable instance:aR br:=(mP S0 (.st 3):aR (S0.D (.st 3)))
end Go.DN
