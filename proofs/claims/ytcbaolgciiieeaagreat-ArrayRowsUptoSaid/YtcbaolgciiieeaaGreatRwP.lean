/-
  Arrays: the plain law of ArrayRows.
-/
import Derived.Test.YtcbaolgciiieeaaGreatRwJ
import Derived.Test.YtcbaolgciiieeaaGreatAnE
set_option linter.unusedSectionVars false
set_option linter.unusedSimpArgs false
set_option linter.unusedVariables false
set_option maxRecDepth 20000
namespace Go.DN
open Go.AM Go.DN.Pl Go.Proofs.YtcbaolgciiieeaaGreat.Up
theorem arrayRowsLaw (a b : SArray) (y : List Int) (h1 : okSArray a) (h2 : okSArray b) (h3 : (okLU okI) y) : ∃ fu, F.adjointlaw2_ArrayRows fu a b y = some true :=
 ⟨5000000, rows_ok 5000000 a b y h1.1.1 h2.1.1 (by omega)⟩
end Go.DN
