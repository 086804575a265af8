/-
  DERIVED. GIVEN WITH THE SEED: THE CARDS: each row of YtmhbeopldeccmaaDoorRows.lean that lists a variable, with what it lists TIED to the program's text (the seventh form; the later family's looks); each row that meets fmt, with fmt's text TOLD by the authors' own Lean function (tested against real Go, not proved from fmt's source: count such statements apart). THE CARD IS WHAT COUNTS. Prove the row's statement (the work); the ties are given (YtmhbeopldeccmaaDoorTie.lean); close each card by the builder's one call (the guide's Derived/Test/ToyasCard.lean, 'card_holds'). Laid BY PROGRAM, IN A SANDBOX (cutbox-door.mjs). By AI agents, Wed Nov 11 2026. No macro, syntax, notation, axiom, sorry.
-/
import Derived.Test.YtmhbeopldeccmaaDoorRows
import GoSem.ClaimSeven
namespace Go.Proofs.YtmhbeopldeccmaaDoor
namespace Rows

/-- THE TIED CARD OF 'adjointlaw4.SenseNames'. -/
def senseNamesCard : Claim7 := { stood := { row := senseNamesRow, standIns := [], harness := (true, "d464d8428969bf15098587f1a8489f2f1b6eaed3ecb68d1d05fd3985552fd321"), looks := true }, kinds := [], alts := [], laidByText := true, laidKinds := [.data, .data, .data], laidTests := true, laidLooks := .later }
def SenseNamesCardSaid : Prop := Claim7.holds Tryd.pinned (.plain (OpenSpec.ofChange senseNamesSpec)) senseNamesCard

/-- THE SECOND FORM's CARD OF 'adjointlaw4.SenseNames'. -/
def senseNamesUptoCard : Claim7 := { stood := { row := senseNamesUptoRow, standIns := [], harness := (true, "d464d8428969bf15098587f1a8489f2f1b6eaed3ecb68d1d05fd3985552fd321"), looks := true }, kinds := [], alts := [], laidByText := true, laidKinds := [.data, .data, .data], laidTests := true, laidLooks := .later }
def SenseNamesUptoCardSaid : Prop := Claim7.holds Tryd.pinned (.plain (OpenSpec.upto senseNamesSpec)) senseNamesUptoCard
end Rows
end Go.Proofs.YtmhbeopldeccmaaDoor
