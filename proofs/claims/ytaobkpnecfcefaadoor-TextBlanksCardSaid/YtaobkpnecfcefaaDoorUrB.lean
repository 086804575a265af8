/-
  Text, reading: the reference's part: factors, chains, expressions.
-/
import Derived.Test.YtaobkpnecfcefaaDoorUrA
set_option linter.unusedVariables false
set_option linter.unusedSimpArgs false
set_option linter.unusedSectionVars false
namespace Go.DN
open Go.AM
variable {X:Toks}{f0:Nat}
section
variable {self:Slist→Int→Int→Option (STree×Int×SFault)}{dp:Int}(hf:Mx+1<f0){S:Nat→R STree}(hR:∀i:Nat,i≤X.L.length→Rf (S i) (self X.x (i:Int) (IntKind.wrap .i64 (dp+1)))) (hG:∀i,i≤X.L.length→Gd X TOk i (S i))
include hf hR hG
omit hf hR hG in
end
end Go.DN
