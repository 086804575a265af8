/-
  Arrays: the plain law: views spread, turned, cut, flipped.
-/
import Derived.Test.YtcbaolgciiieeaaGreatAdX
set_option linter.unusedSectionVars false
set_option linter.unusedSimpArgs false
set_option linter.unusedVariables false
namespace Go.DN.Pl
open Go.AM Go.PL
def badS (v : SView) (dims at_ : List Int) (k : Nat) : Bool := atI dims (atI at_ k).toNat != atI v.Dims k
end Go.DN.Pl
