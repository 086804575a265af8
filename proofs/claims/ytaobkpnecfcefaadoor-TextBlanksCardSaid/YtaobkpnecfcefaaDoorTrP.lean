/-
  Text: the law TextBlanks: what stands between tokens makes no difference.
-/
import Derived.Test.YtaobkpnecfcefaaDoorTrE
import Derived.Test.YtaobkpnecfcefaaDoorUsC
namespace Go.DN
open Go.AM
set_option linter.unusedVariables false in
theorem textBlanksLaw (s:ByteArray) (bt:List ByteArray) (k:okS s) (k2:okL okS bt):∃fu,F.adjointlaw3_TextBlanks fu s bt=some true:=textBlanks_F s bt
end Go.DN
