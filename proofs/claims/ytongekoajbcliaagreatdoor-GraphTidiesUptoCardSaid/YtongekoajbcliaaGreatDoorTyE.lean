/-
  What the arguments are known to be.
-/
import Derived.Test.YtongekoajbcliaaGreatDoorAnS
import Derived.Test.YtongekoajbcliaaGreatDoorMgE
set_option maxRecDepth 20000
set_option linter.unusedVariables false
set_option linter.unusedSimpArgs false
namespace Go.DN
open Go.AM
open Go.Proofs.YtongekoajbcliaaGreatDoor.Up
noncomputable instance:aH cy:=(mY S0 (.st 0):aH (S0.D (.st 0)))
def Wa (a:cy):Prop:=BZ a.Kind∧(zL BZ) a.au∧(zL BZ) a.At∧(zL BZ) a.Lo∧(zL BZ) a.Hi∧(zL BZ) a.Step∧BZ a.Value
noncomputable instance:aH aq:=(mY S0 (.st 4):aH (S0.D (.st 4)))
def Ou (a:aq):Prop:=Wa a.Op∧(zL BZ) a.cH
noncomputable instance:aH cL:=(mY S0 (.st 5):aH (S0.D (.st 5)))
def EA (a:cL):Prop:=(zL Ou) a.aJ∧(zL BZ) a.lQ
end Go.DN
