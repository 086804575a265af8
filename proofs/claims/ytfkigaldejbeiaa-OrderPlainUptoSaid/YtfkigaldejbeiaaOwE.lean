/-
  What the arguments are known to be.
-/
import Derived.Test.YtfkigaldejbeiaaOwS
import Derived.Test.YtfkigaldejbeiaaMgE
set_option maxRecDepth 20000
set_option linter.unusedVariables false
set_option linter.unusedSimpArgs false
namespace Go.DN
open Go.AM
open Go.Proofs.Ytfkigaldejbeiaa.Up
noncomputable instance:aL aO:=(jG S0 (.st 0):aL (S0.D (.st 0)))
def Hp (a:aO):Prop:=(vE y8) a.db∧y8 a.Const
noncomputable instance:aL bu:=(jG S0 (.st 1):aL (S0.D (.st 1)))
def ER (a:bu):Prop:=(vE y8) a.aU∧(vE Hp) a.Rows
noncomputable instance:aL bK:=(jG S0 (.st 2):aL (S0.D (.st 2)))
def yZ (a:bK):Prop:=y8 a.Array∧Hp a.At
noncomputable instance:aL c9:=(jG S0 (.st 3):aL (S0.D (.st 3)))
def JA (a:c9):Prop:=ER a.ba∧y8 a.Do∧y8 a.Value∧yZ a.cg∧(vE yZ) a.de
noncomputable instance:aL aM:=(jG S0 (.st 4):aL (S0.D (.st 4)))
def JB (a:aM):Prop:=(vE y8) a.cC∧(vE JA) a.bC
end Go.DN
