/-
  Orders: the plain law of OrderFinds: the document's answer.
-/
import Derived.Test.YtfkigaldejbeiaaFmE
set_option linter.unusedSectionVars false
set_option linter.unusedSimpArgs false
set_option linter.unusedVariables false
namespace Go.DN.So
open Go.AM Go.DN
def xC (n:aP) (a:bF) (x:List Int):Int:=match jD n a x with | some q=>q.2 | none=>-1
def xp (alike:Bool) (times:List (List aS)) (a b:bE):Bool:=bif alike then decide (sf 8 times a=sf 8 times b) else jn (sf 8 times b) (sf 8 times a)
end Go.DN.So
