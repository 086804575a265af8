/-
  Orders: order.search, with what is asked of two as an argument.
-/
import Derived.Test.YtfkigaldejbeiaaFmA
namespace Go.DN
open Go.AM
namespace Gn
theorem ND (fu:Nat) (n:aP) (t:List (List aS)):F.td fu n t=search (F.gR fu) fu n t:=rfl
end Gn
end Go.DN
