/-
  What the arguments are known to be.
-/
import Derived.Test.YtfkigaldejbeiaaOwS
import Derived.Test.YtfkigaldejbeiaaMgE
set_option maxRecDepth 20000
set_option linter.unusedVariables false
set_option linter.unusedSectionVars false
set_option linter.unusedSimpArgs false
namespace Go.DN
open Go.AM
open Go.Proofs.Ytfkigaldejbeiaa.Up
noncomputable instance:aJ aS:=(jA S0 (.st 0):aJ (S0.D (.st 0)))
def B5 (a:aS):Prop:=(te zW) a.cZ∧zW a.Const
noncomputable instance:aJ bp:=(jA S0 (.st 1):aJ (S0.D (.st 1)))
def D9 (a:bp):Prop:=(te zW) a.ba∧(te B5) a.Rows
noncomputable instance:aJ bF:=(jA S0 (.st 2):aJ (S0.D (.st 2)))
def yk (a:bF):Prop:=zW a.Array∧B5 a.At
noncomputable instance:aJ dh:=(jA S0 (.st 3):aJ (S0.D (.st 3)))
def IL (a:dh):Prop:=D9 a.bI∧zW a.Do∧zW a.Value∧yk a.cf∧(te yk) a.c9
noncomputable instance:aJ aP:=(jA S0 (.st 4):aJ (S0.D (.st 4)))
def IM (a:aP):Prop:=(te zW) a.cA∧(te IL) a.cd
end Go.DN
