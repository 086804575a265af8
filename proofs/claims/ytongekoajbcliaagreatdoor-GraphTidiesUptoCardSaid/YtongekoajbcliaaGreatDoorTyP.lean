/-
  Graphs: the plain law of GraphTidies.
-/
import Derived.Test.YtongekoajbcliaaGreatDoorTdD
import Derived.Test.YtongekoajbcliaaGreatDoorTyE
set_option linter.unusedSimpArgs false
set_option linter.unusedVariables false
namespace Go.DN
open Go.AM Go.DN.Pl Go.Proofs.YtongekoajbcliaaGreatDoor.Up
theorem W8 {g:cL}(h:EA g):P5 g:=⟨⟨h.1.1,fun x hx=>h.1.2 x hx⟩,h.2⟩
theorem H9 (g:cL) (h:EA g):∃fu,F.jM fu g=some true:=
 ⟨5000000,TX 5000000 g (W8 h) (by omega)⟩
end Go.DN
