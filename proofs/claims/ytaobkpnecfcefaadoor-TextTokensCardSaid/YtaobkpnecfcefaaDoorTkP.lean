/-
  Text: the law TextTokens: the program's tokens are the reference's.
-/
import Derived.Test.YtaobkpnecfcefaaDoorTkE
import Derived.Test.YtaobkpnecfcefaaDoorTpE
namespace Go.DN
open Go.AM
set_option linter.unusedVariables false in
theorem textTokensLaw (s:ByteArray) (k:okS s):∃fu,F.adjointlaw3_TextTokens fu s=some true:=textTokens_F s
end Go.DN
