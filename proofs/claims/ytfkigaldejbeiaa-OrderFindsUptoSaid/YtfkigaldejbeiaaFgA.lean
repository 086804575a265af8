/-
  Orders: order.search, with what is asked of two as an argument.
-/
import Derived.Test.YtfkigaldejbeiaaFmA
namespace Go.DN
open Go.AM
namespace Gn
theorem legal_eq (fu:Nat) (n:SNest) (t:List (List SRow)):F.order_search fu n t=search (F.order_Legal_1 fu) fu n t:=rfl
theorem free_eq (fu:Nat) (n:SNest) (t:List (List SRow)):F.order_search_2 fu n t=search (F.order_Free_1 fu) fu n t:=rfl
end Gn
end Go.DN
