/-
  Arrays: the plain law of ArrayPlain.
-/
import Derived.Test.YtcbaolgciiieeaaWtA
import Derived.Test.YtcbaolgciiieeaaAnE
set_option linter.unusedSectionVars false
set_option linter.unusedSimpArgs false
set_option linter.unusedVariables false
set_option maxRecDepth 20000
namespace Go.DN
open Go.AM Go.DN.Pl Go.Proofs.Ytcbaolgciiieeaa.Up
theorem okOp_of {op : SOp} (h : okSOp op) : okOp op := ⟨h.2.1.1, h.2.2.1.1, h.2.2.2.1.1, h.2.2.2.2.1.1, h.2.2.2.2.2.1.1⟩
theorem arrayPlainLaw (a b : SOp) (args : List (List Int)) (h1 : okSOp a) (h2 : okSOp b) (h3 : (okLU (okLU okI)) args) : ∃ fu, F.adjointlaw2_ArrayPlain fu a b args = some true :=
  ⟨5000000, plaw_ok 5000000 a b args (okOp_of h1) (okOp_of h2) ⟨h3.1, fun x hx => (h3.2 x hx).1⟩ (by omega)⟩
end Go.DN
