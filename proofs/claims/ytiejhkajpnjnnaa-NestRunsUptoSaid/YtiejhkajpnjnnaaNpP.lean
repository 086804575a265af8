/-
  Nest: the plain law of NestRuns.
-/
import Derived.Test.YtiejhkajpnjnnaaNpI
import Derived.Test.YtiejhkajpnjnnaaNsE
set_option linter.unusedSectionVars false
set_option linter.unusedSimpArgs false
set_option linter.unusedVariables false
set_option maxRecDepth 20000
namespace Go.DN
open Go.AM Go.Proofs.Ytiejhkajpnjnnaa.Up
theorem nestRunsLaw (n : SNest) (mem : List (List Int)) (h0 : okSNest n) (h1 : okLU (okLU okI) mem) : ∃ fu, F.adjointlaw10_NestRuns fu n mem = some true :=
 ⟨70000000000, nestRuns_F n mem (Nat.le_trans h0.1.1 (by omega))⟩
end Go.DN
