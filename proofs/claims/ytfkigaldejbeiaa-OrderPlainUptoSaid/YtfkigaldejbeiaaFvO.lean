/-
  Orders: the plain law of OrderRuns: the turns of one time, there and at the reference.
-/
import Derived.Test.YtfkigaldejbeiaaFvN
set_option linter.unusedSectionVars false
set_option linter.unusedSimpArgs false
set_option linter.unusedVariables false
namespace Go.DN.So
open Go.AM Go.DN
abbrev Sf (n:aM):={m:List (List Int) // Fits n m}
def FQ (T:bE→List Int) (L M:List bE):Prop:=∀t,L.filter (PJ T t)=M.filter (PJ T t)
theorem FQ.mem {T:bE→List Int}{L M:List bE}(h:FQ T L M){q:bE}(hq:q∈L):q∈M:=by
 have:q∈L.filter (PJ T (T q)):=kB.2 ⟨hq,by simp[PJ]⟩
 rw[h] at this
 exact(kB.1 this).1
theorem FQ.symm {T:bE→List Int}{L M:List bE}(h:FQ T L M):FQ T M L:=fun t=>(h t).symm
section
variable {n:aM}{times:List (List aO)}{mix:List Int}
end
end Go.DN.So
