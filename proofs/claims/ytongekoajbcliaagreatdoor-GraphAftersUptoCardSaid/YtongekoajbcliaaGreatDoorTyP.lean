/-
  Graphs: the plain law of GraphAfters.
-/
import Derived.Test.YtongekoajbcliaaGreatDoorAfB
import Derived.Test.YtongekoajbcliaaGreatDoorTyE
set_option linter.all false
namespace Go.DN
open Go.AM Go.DN.Pl Go.Proofs.YtongekoajbcliaaGreatDoor.Up
def O9{g:bn}(h:Ag g):E4 g:=⟨⟨h.1.1,fun x a=>h.1.2 x a⟩,h.2⟩
def IL(f g:bn)(h:Ag f)(k:Ag g):∃fu,F.jU fu f g=some true:=⟨5000000,WG 5000000 f g (O9 h) (O9 k) (by omega)⟩
end Go.DN
