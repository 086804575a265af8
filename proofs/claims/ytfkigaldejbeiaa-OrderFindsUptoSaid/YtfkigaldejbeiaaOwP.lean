/-
  Orders: the plain law of OrderFinds.
-/
import Derived.Test.YtfkigaldejbeiaaFmH
import Derived.Test.YtfkigaldejbeiaaOwE
set_option linter.unusedSectionVars false
set_option linter.unusedSimpArgs false
set_option linter.unusedVariables false
namespace Go.DN
open Go.AM Go.Proofs.Ytfkigaldejbeiaa.Up
theorem orderFindsLaw (n:SNest) (times:List (List SRow)) (h:okSNest n) (h1:okLU (okLU okSRow) times):∃fu,F.adjointlaw11_OrderFinds fu n times=some true:=
 ⟨70000000000,So.orderFinds_F n times h.1.1⟩
end Go.DN
