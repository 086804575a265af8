/-
  Orders: the plain law of OrderRuns.
-/
import Derived.Test.YtfkigaldejbeiaaOvQ
import Derived.Test.YtfkigaldejbeiaaOzE
set_option linter.unusedSectionVars false
set_option linter.unusedSimpArgs false
set_option linter.unusedVariables false
namespace Go.DN
open Go.AM Go.Proofs.Ytfkigaldejbeiaa.Up
theorem orderRunsLaw (n:SNest) (times:List (List SRow)) (mem:List (List Int)) (mix:List Int) (h:okSNest n) (h1:okLU (okLU okSRow) times) (h2:okLU (okLU okI) mem) (h3:okLU okI mix):∃fu,F.adjointlaw11_OrderRuns fu n times mem mix=some true:=
 ⟨70000000000,So.orderRuns_F n times mem mix h.1.1⟩
end Go.DN
