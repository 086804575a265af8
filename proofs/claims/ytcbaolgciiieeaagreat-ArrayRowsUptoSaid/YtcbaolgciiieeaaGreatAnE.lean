/-
  What the arguments are known to be.
-/
import Derived.Test.YtcbaolgciiieeaaGreatAnS
import Derived.Test.YtcbaolgciiieeaaGreatMgE
set_option maxRecDepth 20000
set_option linter.unusedVariables false
set_option linter.unusedSectionVars false
set_option linter.unusedSimpArgs false
namespace Go.DN
open Go.AM
open Go.Proofs.YtcbaolgciiieeaaGreat.Up
noncomputable instance : Enc SArray := (encI S0 (.st 4) : Enc (S0.D (.st 4)))
def okSArray (a : SArray) : Prop := (okLU okI) a.Dims ∧ (okLU okI) a.Data
end Go.DN
