/-
  Orders: the plain law of OrderRuns: the reference's times, and its least ones.
-/
import Derived.Test.YtfkigaldejbeiaaFvL
import Derived.Test.YtfkigaldejbeiaaFqF
set_option linter.unusedSimpArgs false
set_option linter.unusedVariables false
namespace Go.DN.So
open Go.AM Go.DN
structure yg (n:aM) (times:List (List aO)) (q:bE):Prop where
 pos:0≤q.Stmt
 ex:∃s rows,n.bC[q.Stmt.toNat]?=some s∧times[q.Stmt.toNat]?=some rows∧ix n s∧ku q.At∧q.At.length=s.ba.aU.length∧rows.length≤8∧∀r∈rows,fN r s.ba.aU.length=0
theorem RM {α:Type}{l:List α}{i:Int}{x:α}(h:0≤i) (hx:l[i.toNat]?=some x):idx l i=some x:=by
 obtain⟨k,rfl⟩:=kZ h
 exact bM hx
def PJ (T:bE→List Int) (t:List Int) (q:bE):Bool:=decide (T q=t)
def ints (l:List Nat):List Int:=l.map fun (i:Nat)=>(i:Int)
end Go.DN.So
