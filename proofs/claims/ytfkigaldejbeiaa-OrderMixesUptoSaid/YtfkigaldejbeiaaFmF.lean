/-
  Orders: the plain law of OrderFinds: the document's answer.
-/
import Derived.Test.YtfkigaldejbeiaaFmE
set_option linter.unusedSectionVars false
set_option linter.unusedSimpArgs false
set_option linter.unusedVariables false
namespace Go.DN.So
open Go.AM Go.DN
def xS (n:aO) (a:bF) (x:List Int):Int:=match jF n a x with | some q=>q.2 | none=>-1
def oY (alike:Bool) (times:List (List aT)) (a b:bD):Bool:=bif alike then decide (sx 8 times a=sx 8 times b) else jr (sx 8 times b) (sx 8 times a)
end Go.DN.So
