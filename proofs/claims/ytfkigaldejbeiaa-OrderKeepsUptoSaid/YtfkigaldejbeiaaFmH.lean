/-
  Orders: the plain law of OrderFinds: the law.
-/
import Derived.Test.YtfkigaldejbeiaaFmG
set_option linter.unusedSectionVars false
set_option linter.unusedSimpArgs false
set_option linter.unusedVariables false
namespace Go.DN.So
open Go.AM Go.DN
theorem EQ (fu:Nat) (hf:68719476750<fu){n:aP}{times:List (List aS)}(hs:n.cA.length≤1048576):F.qW fu n times=some (pQ n times (xp false times)):=by
 unfold F.qW
 rw[Gn.ND,Lu fu hf hs (NE fu (by omega))];rfl
end Go.DN.So
