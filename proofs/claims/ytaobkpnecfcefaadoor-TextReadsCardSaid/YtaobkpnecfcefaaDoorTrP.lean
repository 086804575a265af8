/-
  Text: the law TextReads: what the program reads is what the reference reads.
-/
import Derived.Test.YtaobkpnecfcefaaDoorTrE
import Derived.Test.YtaobkpnecfcefaaDoorUrD
namespace Go.DN
open Go.AM
set_option linter.unusedVariables false in
theorem textReadsLaw (s:ByteArray) (k:okS s):∃fu,F.adjointlaw3_TextReads fu s=some true:=textReads_F s
end Go.DN
