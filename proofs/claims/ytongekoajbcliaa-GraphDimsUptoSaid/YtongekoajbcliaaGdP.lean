/-
  Graphs: the plain law of GraphDims.
-/
import Derived.Test.YtongekoajbcliaaGdC
import Derived.Test.YtongekoajbcliaaAnE
set_option linter.unusedSectionVars false
set_option linter.unusedSimpArgs false
set_option linter.unusedVariables false
set_option maxRecDepth 20000
namespace Go.DN
open Go.AM Go.DN.Pl Go.Proofs.Ytongekoajbcliaa.Up
theorem okOp_of {op : SOp} (h : okSOp op) : okOp op := ⟨h.2.1.1, h.2.2.1.1, h.2.2.2.1.1, h.2.2.2.2.1.1, h.2.2.2.2.2.1.1⟩
theorem okG_of {g : SGraph} (h : okSGraph g) : okG g :=
 ⟨⟨Nat.le_trans h.1.1 (by omega), fun x hx => ⟨okOp_of (h.1.2 x hx).1, (h.1.2 x hx).2.1⟩⟩, Nat.le_trans h.2.1 (by omega)⟩
theorem graphDimsLaw (g : SGraph) (h1 : okSGraph g) : ∃ fu, F.adjointlaw5_GraphDims fu g = some true :=
 ⟨5000000, graphDims_ok 5000000 g (okG_of h1) (by omega)⟩
end Go.DN
