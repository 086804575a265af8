/-
  What the arguments are known to be.
-/
import Derived.Test.YtcbaolgciiieeaaAnS
import Derived.Test.YtcbaolgciiieeaaMgE
set_option maxRecDepth 20000
set_option linter.unusedVariables false
set_option linter.unusedSectionVars false
set_option linter.unusedSimpArgs false
namespace Go.DN
open Go.AM
open Go.Proofs.Ytcbaolgciiieeaa.Up
noncomputable instance : Enc SOp := (encI S0 (.st 0) : Enc (S0.D (.st 0)))
def okSOp (a : SOp) : Prop := okI a.Kind ∧ (okLU okI) a.Dims ∧ (okLU okI) a.At ∧ (okLU okI) a.Lo ∧ (okLU okI) a.Hi ∧ (okLU okI) a.Step ∧ okI a.Value
end Go.DN
