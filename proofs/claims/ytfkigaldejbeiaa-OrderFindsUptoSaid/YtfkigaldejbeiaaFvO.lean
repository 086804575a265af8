/-
  Orders: the plain law of OrderRuns: the turns of one time, there and at the reference.
-/
import Derived.Test.YtfkigaldejbeiaaFvN
set_option linter.unusedSectionVars false
set_option linter.unusedSimpArgs false
set_option linter.unusedVariables false
namespace Go.DN.So
open Go.AM Go.DN
def FQ (T:SSpot→List Int) (L M:List SSpot):Prop:=∀t,L.filter (isT T t)=M.filter (isT T t)
theorem FQ.mem {T:SSpot→List Int}{L M:List SSpot}(h:FQ T L M){q:SSpot}(hq:q∈L):q∈M:=by
 have:q∈L.filter (isT T (T q)):=List.mem_filter.2 ⟨hq,by simp[isT]⟩
 rw[h] at this
 exact(List.mem_filter.1 this).1
theorem FQ.symm {T:SSpot→List Int}{L M:List SSpot}(h:FQ T L M):FQ T M L:=fun t=>(h t).symm
section
variable {n:SNest}{times:List (List SRow)}{mix:List Int}
end
end Go.DN.So
