/-
  What the arguments are known to be.
-/
import Derived.Test.YtfkigaldejbeiaaOwS
import Derived.Test.YtfkigaldejbeiaaMgE
set_option maxRecDepth 20000
set_option linter.unusedVariables false
set_option linter.unusedSectionVars false
set_option linter.unusedSimpArgs false
namespace Go.DN
open Go.AM
open Go.Proofs.Ytfkigaldejbeiaa.Up
noncomputable instance:Enc SRow:=(encI S0 (.st 0):Enc (S0.D (.st 0)))
def okSRow (a:SRow):Prop:=(okLU okI) a.Coef∧okI a.Const
noncomputable instance:Enc SPoints:=(encI S0 (.st 1):Enc (S0.D (.st 1)))
def okSPoints (a:SPoints):Prop:=(okLU okI) a.Box∧(okLU okSRow) a.Rows
noncomputable instance:Enc SAccess:=(encI S0 (.st 2):Enc (S0.D (.st 2)))
def okSAccess (a:SAccess):Prop:=okI a.Array∧okSRow a.At
noncomputable instance:Enc SStmt:=(encI S0 (.st 3):Enc (S0.D (.st 3)))
def okSStmt (a:SStmt):Prop:=okSPoints a.Over∧okI a.Do∧okI a.Value∧okSAccess a.Put∧(okLU okSAccess) a.Get
noncomputable instance:Enc SNest:=(encI S0 (.st 4):Enc (S0.D (.st 4)))
def okSNest (a:SNest):Prop:=(okLU okI) a.Sizes∧(okLU okSStmt) a.Stmts
end Go.DN
