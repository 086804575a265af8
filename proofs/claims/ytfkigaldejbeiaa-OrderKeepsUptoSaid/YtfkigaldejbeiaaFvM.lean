/-
  Orders: the plain law of OrderRuns: the reference's times, and its least ones.
-/
import Derived.Test.YtfkigaldejbeiaaFvL
import Derived.Test.YtfkigaldejbeiaaFqF
set_option linter.unusedSectionVars false
set_option linter.unusedSimpArgs false
set_option linter.unusedVariables false
namespace Go.DN.So
open Go.AM Go.DN
structure xA (n:aP) (times:List (List aS)) (q:bE):Prop where
 pos:0≤q.Stmt
 ex:∃s rows,n.cd[q.Stmt.toNat]?=some s∧times[q.Stmt.toNat]?=some rows∧iD n s∧kl q.At∧q.At.length=s.bI.ba.length∧rows.length≤8∧∀r∈rows,fK r s.bI.ba.length=0
theorem QW {α:Type}{l:List α}{i:Int}{x:α}(h:0≤i) (hx:l[i.toNat]?=some x):idx l i=some x:=by
 obtain⟨k,rfl⟩:=kU h
 exact bJ hx
def OT (T:bE→List Int) (t:List Int) (q:bE):Bool:=decide (T q=t)
def ints (l:List Nat):List Int:=l.map fun (i:Nat)=>(i:Int)
end Go.DN.So
