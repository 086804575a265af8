/-
  Orders: order.search, with what is asked of two as an argument.
-/
import Derived.Test.YtfkigaldejbeiaaFmA
namespace Go.DN
open Go.AM
namespace Gn
theorem N6 (fu:Nat) (n:aO) (t:List (List aT)):F.tI fu n t=search (F.gU fu) fu n t:=rfl
theorem Qk (fu:Nat) (n:aO) (t:List (List aT)):F.qG fu n t=search (F.iC fu) fu n t:=rfl
end Gn
end Go.DN
