/-
  Orders: the plain law of OrderRuns: the turns of one time, there and at the reference.
-/
import Derived.Test.YtfkigaldejbeiaaFvN
set_option linter.unusedSectionVars false
set_option linter.unusedSimpArgs false
set_option linter.unusedVariables false
namespace Go.DN.So
open Go.AM Go.DN
abbrev RM (n:aO):={m:List (List Int) // Fits n m}
def FQ (T:bD→List Int) (L M:List bD):Prop:=∀t,L.filter (Ph T t)=M.filter (Ph T t)
theorem FQ.mem {T:bD→List Int}{L M:List bD}(h:FQ T L M){q:bD}(hq:q∈L):q∈M:=by
 have:q∈L.filter (Ph T (T q)):=kw.2 ⟨hq,by simp[Ph]⟩
 rw[h] at this
 exact(kw.1 this).1
theorem FQ.symm {T:bD→List Int}{L M:List bD}(h:FQ T L M):FQ T M L:=fun t=>(h t).symm
section
variable {n:aO}{times:List (List aT)}{mix:List Int}
end
end Go.DN.So
