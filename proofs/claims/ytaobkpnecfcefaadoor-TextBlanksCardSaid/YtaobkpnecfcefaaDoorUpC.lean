/-
  Text: tokens: the plain law: the reference's numbers.
-/
import Derived.Test.YtaobkpnecfcefaaDoorUpB
set_option linter.unusedVariables false
set_option linter.unusedSimpArgs false
namespace Go.DN
open Go.AM
theorem all_D8 {s:ByteArray}(h:allB isD s=true):s.data.toList.all D8=true:=by
 rw[List.all_eq_true]
 intro c hc
 obtain⟨i,hi,rfl⟩:=List.getElem_of_mem hc
 have hs:i<s.size:=by simpa using hi
 have:=allB_iff.1 h i hs
 unfold ch at this
 have h4:s[i]?=some s[i]:=getElem?_pos ..
 rw[h4] at this
 exact this
def numl (s:ByteArray):Bool:=allB isD s&&(decide (s.size=1)||!decide (ch s 0=48))
end Go.DN
