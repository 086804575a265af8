/-
  Arrays: the plain law: numbers of dimensions.
-/
import Derived.Test.YtcbaolgciiieeaaGreatAdQ
set_option linter.unusedSectionVars false
set_option linter.unusedSimpArgs false
set_option linter.unusedVariables false
namespace Go.DN.Pl
open Go.AM Go.PL
def atI (l : List Int) (k : Nat) : Int := l.getD k 0
theorem atI_get {l : List Int} {k : Nat} {x : Int} (h : l[k]? = some x) : atI l k = x := by unfold atI; rw [List.getD_eq_getElem?_getD, h]; rfl
theorem get_atI {l : List Int} {k : Nat} (h : k < l.length) : l[k]? = some (atI l k) := by rw [atI_get (List.getElem?_eq_getElem h)]; exact List.getElem?_eq_getElem h
end Go.DN.Pl
