/-
  walk: what 'need' does.
-/
import Derived.Test.YtmhbeopldeccmaaDoorMgB
namespace Go.DN
open Go.AM
def dX (b:Bool) (e:Int):Option (Unit⊕((Int×Int)×Unit)):=some (match b with | true=>.inl () | false=>.inr ((e,0),()))
end Go.DN
