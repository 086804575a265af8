/-
  Arrays: the plain law of ArrayMatrix.
-/
import Derived.Test.YtcbaolgciiieeaaMxD
import Derived.Test.YtcbaolgciiieeaaAnE
set_option linter.unusedSectionVars false
set_option linter.unusedSimpArgs false
set_option linter.unusedVariables false
set_option maxRecDepth 20000
namespace Go.DN
open Go.AM Go.DN.Pl Go.Proofs.Ytcbaolgciiieeaa.Up
theorem okArr_of {a : SArray} (h : okSArray a) : okArr a := ⟨h.1.1, h.2.1, fun x hx => h.2.2 x hx⟩
theorem arrayMatrixLaw (a b c : SArray) (h1 : okSArray a) (h2 : okSArray b) (h3 : okSArray c) : ∃ fu, F.adjointlaw2_ArrayMatrix fu a b c = some true :=
 ⟨5000000, matrix_ok 5000000 a b c (okArr_of h1) (okArr_of h2) (okArr_of h3) (by omega)⟩
end Go.DN
