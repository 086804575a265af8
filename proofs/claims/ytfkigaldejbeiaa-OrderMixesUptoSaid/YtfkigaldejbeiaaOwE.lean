/-
  What the arguments are known to be.
-/
import Derived.Test.YtfkigaldejbeiaaOwS
import Derived.Test.YtfkigaldejbeiaaMgE
set_option maxRecDepth 20000
set_option linter.unusedVariables false
set_option linter.unusedSectionVars false
set_option linter.unusedSimpArgs false
namespace Go.DN
open Go.AM
open Go.Proofs.Ytfkigaldejbeiaa.Up
noncomputable instance:aK aT:=(jC S0 (.st 0):aK (S0.D (.st 0)))
def Cr (a:aT):Prop:=(sg yF) a.cZ∧yF a.Const
noncomputable instance:aK bp:=(jC S0 (.st 1):aK (S0.D (.st 1)))
def Ez (a:bp):Prop:=(sg yF) a.ba∧(sg Cr) a.Rows
noncomputable instance:aK bF:=(jC S0 (.st 2):aK (S0.D (.st 2)))
def yE (a:bF):Prop:=yF a.Array∧Cr a.At
noncomputable instance:aK dh:=(jC S0 (.st 3):aK (S0.D (.st 3)))
def Jd (a:dh):Prop:=Ez a.bI∧yF a.Do∧yF a.Value∧yE a.cf∧(sg yE) a.c9
noncomputable instance:aK aO:=(jC S0 (.st 4):aK (S0.D (.st 4)))
def Je (a:aO):Prop:=(sg yF) a.cz∧(sg Jd) a.cd
end Go.DN
