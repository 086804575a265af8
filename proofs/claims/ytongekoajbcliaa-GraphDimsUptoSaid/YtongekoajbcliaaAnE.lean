/-
  What the arguments are known to be.
-/
import Derived.Test.YtongekoajbcliaaAnS
import Derived.Test.YtongekoajbcliaaMgE
set_option maxRecDepth 20000
set_option linter.unusedVariables false
set_option linter.unusedSectionVars false
set_option linter.unusedSimpArgs false
namespace Go.DN
open Go.AM
open Go.Proofs.Ytongekoajbcliaa.Up
noncomputable instance : Enc SOp := (encI S0 (.st 0) : Enc (S0.D (.st 0)))
def okSOp (a : SOp) : Prop := okI a.Kind ∧ (okLU okI) a.Dims ∧ (okLU okI) a.At ∧ (okLU okI) a.Lo ∧ (okLU okI) a.Hi ∧ (okLU okI) a.Step ∧ okI a.Value
noncomputable instance : Enc SNode := (encI S0 (.st 4) : Enc (S0.D (.st 4)))
def okSNode (a : SNode) : Prop := okSOp a.Op ∧ (okLU okI) a.Args
noncomputable instance : Enc SGraph := (encI S0 (.st 5) : Enc (S0.D (.st 5)))
def okSGraph (a : SGraph) : Prop := (okLU okSNode) a.Nodes ∧ (okLU okI) a.Outs
end Go.DN
