/-
  What the arguments are known to be.
-/
import Derived.Test.YtaobkpnecfcefaaDoorTrS
set_option maxRecDepth 20000
set_option linter.unusedVariables false
set_option linter.unusedSimpArgs false
namespace Go.DN
open Go.AM
noncomputable instance:Enc SDim:=(encI S0 (.st 0):Enc (S0.D (.st 0)))
noncomputable instance:Enc SGiven:=(encI S0 (.st 1):Enc (S0.D (.st 1)))
noncomputable instance:Enc STree:=(encI S0 (.st 2):Enc (S0.D (.st 2)))
noncomputable instance:Enc SFunc:=(encI S0 (.st 3):Enc (S0.D (.st 3)))
end Go.DN
