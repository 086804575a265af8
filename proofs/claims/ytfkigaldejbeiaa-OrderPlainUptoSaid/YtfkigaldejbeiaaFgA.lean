/-
  Orders: order.search, with what is asked of two as an argument.
-/
import Derived.Test.YtfkigaldejbeiaaFmA
namespace Go.DN
open Go.AM
namespace Gn
theorem OC (fu:Nat) (n:aM) (t:List (List aO)):F.tR fu n t=search (F.gV fu) fu n t:=rfl
theorem QK (fu:Nat) (n:aM) (t:List (List aO)):F.qM fu n t=search (F.iG fu) fu n t:=rfl
end Gn
end Go.DN
