/-
  Nest: the plain law: the walk over a statement's points.
-/
import Derived.Test.YtfkigaldejbeiaaFvD
set_option linter.unusedSectionVars false
set_option linter.unusedSimpArgs false
set_option linter.unusedVariables false
namespace Go.DN
open Go.AM
theorem getD_take {l:List Int}{k i:Nat}(h:i<k):(l.take k).getD i 0=l.getD i 0:=by
 rw[List.getD_eq_getElem?_getD,List.getD_eq_getElem?_getD,List.getElem?_take,if_pos h]
end Go.DN
