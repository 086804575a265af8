/-
  Arrays: the plain law: joined, paired.
-/
import Derived.Test.YtcbaolgciiieeaaGreatAdT
set_option linter.unusedSectionVars false
set_option linter.unusedSimpArgs false
set_option linter.unusedVariables false
namespace Go.DN.Pl
open Go.AM Go.PL
def badJ (a x : List Int) (p : Nat) (i : Nat) : Bool := (i : Int) != (p : Int) && (atI x i != atI a i)
def fitJ (a x : List Int) (p : Nat) : Bool := decide (x.length = a.length) && !((List.range a.length).any (badJ a x p))
theorem lpart1 {α : Type} (x : α) (r : List α) : lpart (x :: r) 1 ((x :: r).length : Int) = r := by
 unfold lpart
 simp
end Go.DN.Pl
