/-
  Orders: the plain law of OrderFinds: the document's answer.
-/
import Derived.Test.YtfkigaldejbeiaaFmE
set_option linter.unusedSimpArgs false
set_option linter.unusedVariables false
namespace Go.DN.So
open Go.AM Go.DN
def yj (n:aM) (a:bK) (x:List Int):Int:=match jI n a x with | some q=>q.2 | none=>-1
def qt (alike:Bool) (times:List (List aO)) (a b:bE):Bool:=bif alike then decide (ph 8 times a=ph 8 times b) else g8 (ph 8 times b) (ph 8 times a)
end Go.DN.So
