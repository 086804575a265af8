/-
  Nest: the plain law: the walk dm a statement's points.
-/
import Derived.Test.YtfkigaldejbeiaaFvD
set_option linter.unusedSimpArgs false
set_option linter.unusedVariables false
namespace Go.DN
open Go.AM
theorem u7 {l:List Int}{k i:Nat}(h:i<k):(l.take k).getD i 0=l.getD i 0:=by
 rw[aE,aE,bf,if_pos h]
end Go.DN
