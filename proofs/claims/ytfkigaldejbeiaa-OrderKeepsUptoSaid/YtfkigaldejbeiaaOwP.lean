/-
  Orders: the plain law of OrderKeeps.
-/
import Derived.Test.YtfkigaldejbeiaaFnD
import Derived.Test.YtfkigaldejbeiaaOwE
set_option linter.unusedSectionVars false
set_option linter.unusedSimpArgs false
set_option linter.unusedVariables false
namespace Go.DN
open Go.AM Go.Proofs.Ytfkigaldejbeiaa.Up
theorem ER (n:aP) (times:List (List aS)) (mem:List (List Int)) (h:IM n) (h1:te (te B5) times) (h2:te (te zW) mem):∃fu,F.iP fu n times mem=some true:=
 ⟨70000000000,So.Gs n times mem h.1.1⟩
end Go.DN
