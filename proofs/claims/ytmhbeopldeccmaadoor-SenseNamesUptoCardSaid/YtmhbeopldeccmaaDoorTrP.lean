/-
  Sense: the plain law of SenseNames.
-/
import Derived.Test.YtmhbeopldeccmaaDoorWnD
namespace Go.DN
open Go.AM
theorem D1 {p:List bB}(ho:De p) (hw:bu eI p≤1048576):∃fu,F.jI fu p=some true:=⟨5000000,E2 (by omega) hw ho⟩
end Go.DN
