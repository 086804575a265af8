/-
  Orders: the plain law of OrderRuns: the turns of one time, there and at the reference.
-/
import Derived.Test.YtfkigaldejbeiaaFvN
set_option linter.unusedSectionVars false
set_option linter.unusedSimpArgs false
set_option linter.unusedVariables false
namespace Go.DN.So
open Go.AM Go.DN
abbrev Rm (n:aP):={m:List (List Int) // Fits n m}
def FQ (T:bE→List Int) (L M:List bE):Prop:=∀t,L.filter (OT T t)=M.filter (OT T t)
theorem FQ.mem {T:bE→List Int}{L M:List bE}(h:FQ T L M){q:bE}(hq:q∈L):q∈M:=by
 have:q∈L.filter (OT T (T q)):=ku.2 ⟨hq,by simp[OT]⟩
 rw[h] at this
 exact(ku.1 this).1
theorem FQ.symm {T:bE→List Int}{L M:List bE}(h:FQ T L M):FQ T M L:=fun t=>(h t).symm
section
variable {n:aP}{times:List (List aS)}{mix:List Int}
end
end Go.DN.So
