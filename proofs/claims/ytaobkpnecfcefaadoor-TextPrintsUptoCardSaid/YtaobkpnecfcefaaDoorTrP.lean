/-
  Text: the plain law of TextPrints.
-/
import Derived.Test.YtaobkpnecfcefaaDoorVrF
namespace Go.DN
open Go.AM
theorem textPrintsLaw {p:List SFunc}(ho:okP p) (hw:wtL wtF p≤1048576):∃fu,F.adjointlaw3_TextPrints fu p=some true:=⟨5000000,textPrints_F (by omega) hw ho⟩
end Go.DN
