/-
  Orders: the plain law of OrderMixes.
-/
import Derived.Test.YtfkigaldejbeiaaFnE
import Derived.Test.YtfkigaldejbeiaaOwE
set_option linter.unusedSectionVars false
set_option linter.unusedSimpArgs false
set_option linter.unusedVariables false
namespace Go.DN
open Go.AM Go.Proofs.Ytfkigaldejbeiaa.Up
theorem Fh (n:aO) (times:List (List aT)) (mem:List (List Int)) (mix:List Int) (h:Je n) (h1:sg (sg Cr) times) (h2:sg (sg yF) mem) (h3:sg yF mix):∃fu,F.iS fu n times mem mix=some true:=
 ⟨70000000000,So.G0 n times mem mix h.1.1⟩
end Go.DN
