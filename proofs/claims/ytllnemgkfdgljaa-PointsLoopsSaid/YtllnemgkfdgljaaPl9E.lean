/-
  What the arguments are known to be.
-/
import Derived.Test.YtllnemgkfdgljaaPl9S
set_option maxRecDepth 20000
set_option linter.unusedVariables false
set_option linter.unusedSectionVars false
set_option linter.unusedSimpArgs false
namespace Go.DN
open Go.AM
noncomputable instance : Enc SRow := (encI S0 (.st 0) : Enc (S0.D (.st 0)))
def okSRow (a : SRow) : Prop := (okL okI) a.Coef ∧ okI a.Const
noncomputable instance : Enc SPoints := (encI S0 (.st 1) : Enc (S0.D (.st 1)))
def okSPoints (a : SPoints) : Prop := (okL okI) a.Box ∧ (okL okSRow) a.Rows
end Go.DN
