/-
  What the arguments are known to be.
-/
import Derived.Test.YtongekoajbcliaaGreatDoorAnS
import Derived.Test.YtongekoajbcliaaGreatDoorMgE
set_option maxRecDepth 20000
set_option linter.all false
namespace Go.DN
open Go.AM
open Go.Proofs.YtongekoajbcliaaGreatDoor.Up
noncomputable instance:aI cq:=(np S0 (.st 0):aI (S0.D (.st 0)))
def WQ(a:cq):Prop:=Cs a.Kind/\(Ai Cs) a.av/\(Ai Cs) a.At/\(Ai Cs) a.Lo/\(Ai Cs) a.Hi/\(Ai Cs) a.Step/\Cs a.Value
noncomputable instance:aI ai:=(np S0 (.st 4):aI (S0.D (.st 4)))
def O6(a:ai):Prop:=WQ a.Op/\(Ai Cs) a.bU
noncomputable instance:aI bn:=(np S0 (.st 5):aI (S0.D (.st 5)))
def Ag(a:bn):Prop:=(Ai O6) a.ah/\(Ai Cs) a.cQ
end Go.DN
