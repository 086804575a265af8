/-
  Orders: the plain law of OrderStripped.
-/
import Derived.Test.YtfkigaldejbeiaaOtM
import Derived.Test.YtfkigaldejbeiaaOsE
set_option linter.unusedSectionVars false
set_option linter.unusedSimpArgs false
set_option linter.unusedVariables false
namespace Go.DN
open Go.AM Go.Proofs.Ytfkigaldejbeiaa.Up
theorem small_of {n : SNest} (h : okSNest n) : Pl.SmN n where
 sizes := Nat.le_trans h.1.1 (by omega)
 stmts := Nat.le_trans h.2.1 (by omega)
 stmt := fun s hs => by
  obtain ⟨⟨hbox, hrows⟩, _, _, ⟨_, hput⟩, hgets⟩ := h.2.2 s hs
  exact ⟨Nat.le_trans hbox.1 (by omega), Nat.le_trans hrows.1 (by omega), fun r hr => Nat.le_trans (hrows.2 r hr).1.1 (by omega), Nat.le_trans hput.1.1 (by omega), Nat.le_trans hgets.1 (by omega), fun a ha => Nat.le_trans (hgets.2 a ha).2.1.1 (by omega)⟩
theorem orderStrippedLaw (n : SNest) (a b c : Int) (mem : List (List Int)) (h : okSNest n) (h1 : okI a) (h2 : okI b) (h3 : okI c) (h4 : okLU (okLU okI) mem) : ∃ fu, F.adjointlaw11_OrderStripped fu n a b c mem = some true :=
 ⟨5000000, orderStripped_F n a b c mem (Nat.le_trans h.1.1 (by omega)) (small_of h)⟩
end Go.DN
