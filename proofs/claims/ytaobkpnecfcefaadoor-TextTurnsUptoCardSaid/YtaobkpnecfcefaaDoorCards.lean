/-
  DERIVED. GIVEN WITH THE SEED: THE CARDS: each row of YtaobkpnecfcefaaDoorRows.lean that lists a variable, with what it lists TIED to the program's text (the seventh form; the later family's looks); each row that meets fmt, with fmt's text TOLD by the authors' own Lean function (tested against real Go, not proved from fmt's source: count such statements apart). THE CARD IS WHAT COUNTS. Prove the row's statement (the work); the ties are given (YtaobkpnecfcefaaDoorTie.lean); close each card by the builder's one call (the guide's Derived/Test/ToyasCard.lean, 'card_holds'). Laid BY PROGRAM, IN A SANDBOX (cutbox-door.mjs). By AI agents, Wed Nov 11 2026. No macro, syntax, notation, axiom, sorry.
-/
import Derived.Test.YtaobkpnecfcefaaDoorRows
import GoSem.ClaimSeven
namespace Go.Proofs.YtaobkpnecfcefaaDoor
namespace Rows

/-- THE TIED CARD OF 'adjointlaw3.TextPrints'. -/
def textPrintsCard : Claim7 := { stood := { row := textPrintsRow, standIns := [], harness := (true, "5e061583569be7809e3db90f375dd44e1c37794afe11e88bb40c2c8d2e838cd6"), looks := true }, kinds := [], alts := [], laidByText := true, laidKinds := [.data, .data, .data], laidTests := true, laidLooks := .later }
def TextPrintsCardSaid : Prop := Claim7.holds Tryd.pinned (.plain (OpenSpec.ofChange textPrintsSpec)) textPrintsCard

/-- THE TIED CARD OF 'adjointlaw3.TextTokens'. -/
def textTokensCard : Claim7 := { stood := { row := textTokensRow, standIns := [], harness := (true, "5e061583569be7809e3db90f375dd44e1c37794afe11e88bb40c2c8d2e838cd6"), looks := true }, kinds := [], alts := [], laidByText := true, laidKinds := [.data, .data, .data, .sentinel, .sentinel], laidTests := true, laidLooks := .later }
def TextTokensCardSaid : Prop := Claim7.holds Tryd.pinned (.plain (OpenSpec.ofChange textTokensSpec)) textTokensCard

/-- THE TIED CARD OF 'adjointlaw3.TextReads'. -/
def textReadsCard : Claim7 := { stood := { row := textReadsRow, standIns := [], harness := (true, "5e061583569be7809e3db90f375dd44e1c37794afe11e88bb40c2c8d2e838cd6"), looks := true }, kinds := [], alts := [], laidByText := true, laidKinds := [.data, .data, .data, .sentinel, .sentinel], laidTests := true, laidLooks := .later }
def TextReadsCardSaid : Prop := Claim7.holds Tryd.pinned (.plain (OpenSpec.ofChange textReadsSpec)) textReadsCard

/-- THE TIED CARD OF 'adjointlaw3.TextBlanks'. -/
def textBlanksCard : Claim7 := { stood := { row := textBlanksRow, standIns := [], harness := (true, "5e061583569be7809e3db90f375dd44e1c37794afe11e88bb40c2c8d2e838cd6"), looks := true }, kinds := [], alts := [], laidByText := true, laidKinds := [.data, .data, .data, .sentinel, .sentinel], laidTests := true, laidLooks := .later }
def TextBlanksCardSaid : Prop := Claim7.holds Tryd.pinned (.plain (OpenSpec.ofChange textBlanksSpec)) textBlanksCard

/-- THE TIED CARD OF 'adjointlaw3.TextTurns'. -/
def textTurnsCard : Claim7 := { stood := { row := textTurnsRow, standIns := [], harness := (true, "5e061583569be7809e3db90f375dd44e1c37794afe11e88bb40c2c8d2e838cd6"), looks := true }, kinds := [], alts := [], laidByText := true, laidKinds := [.data, .data, .data, .sentinel, .sentinel], laidTests := true, laidLooks := .later }
def TextTurnsCardSaid : Prop := Claim7.holds Tryd.pinned (.plain (OpenSpec.ofChange textTurnsSpec)) textTurnsCard

/-- THE TIED CARD OF 'adjointlaw3.TextAgain'. -/
def textAgainCard : Claim7 := { stood := { row := textAgainRow, standIns := [], harness := (true, "5e061583569be7809e3db90f375dd44e1c37794afe11e88bb40c2c8d2e838cd6"), looks := true }, kinds := [], alts := [], laidByText := true, laidKinds := [.data, .data, .data, .sentinel, .sentinel], laidTests := true, laidLooks := .later }
def TextAgainCardSaid : Prop := Claim7.holds Tryd.pinned (.plain (OpenSpec.ofChange textAgainSpec)) textAgainCard

/-- THE SECOND FORM's CARD OF 'adjointlaw3.TextPrints'. -/
def textPrintsUptoCard : Claim7 := { stood := { row := textPrintsUptoRow, standIns := [], harness := (true, "5e061583569be7809e3db90f375dd44e1c37794afe11e88bb40c2c8d2e838cd6"), looks := true }, kinds := [], alts := [], laidByText := true, laidKinds := [.data, .data, .data], laidTests := true, laidLooks := .later }
def TextPrintsUptoCardSaid : Prop := Claim7.holds Tryd.pinned (.plain (OpenSpec.upto textPrintsSpec)) textPrintsUptoCard

/-- THE SECOND FORM's CARD OF 'adjointlaw3.TextTokens'. -/
def textTokensUptoCard : Claim7 := { stood := { row := textTokensUptoRow, standIns := [], harness := (true, "5e061583569be7809e3db90f375dd44e1c37794afe11e88bb40c2c8d2e838cd6"), looks := true }, kinds := [], alts := [], laidByText := true, laidKinds := [.data, .data, .data, .sentinel, .sentinel], laidTests := true, laidLooks := .later }
def TextTokensUptoCardSaid : Prop := Claim7.holds Tryd.pinned (.plain (OpenSpec.upto textTokensSpec)) textTokensUptoCard

/-- THE SECOND FORM's CARD OF 'adjointlaw3.TextReads'. -/
def textReadsUptoCard : Claim7 := { stood := { row := textReadsUptoRow, standIns := [], harness := (true, "5e061583569be7809e3db90f375dd44e1c37794afe11e88bb40c2c8d2e838cd6"), looks := true }, kinds := [], alts := [], laidByText := true, laidKinds := [.data, .data, .data, .sentinel, .sentinel], laidTests := true, laidLooks := .later }
def TextReadsUptoCardSaid : Prop := Claim7.holds Tryd.pinned (.plain (OpenSpec.upto textReadsSpec)) textReadsUptoCard

/-- THE SECOND FORM's CARD OF 'adjointlaw3.TextBlanks'. -/
def textBlanksUptoCard : Claim7 := { stood := { row := textBlanksUptoRow, standIns := [], harness := (true, "5e061583569be7809e3db90f375dd44e1c37794afe11e88bb40c2c8d2e838cd6"), looks := true }, kinds := [], alts := [], laidByText := true, laidKinds := [.data, .data, .data, .sentinel, .sentinel], laidTests := true, laidLooks := .later }
def TextBlanksUptoCardSaid : Prop := Claim7.holds Tryd.pinned (.plain (OpenSpec.upto textBlanksSpec)) textBlanksUptoCard

/-- THE SECOND FORM's CARD OF 'adjointlaw3.TextTurns'. -/
def textTurnsUptoCard : Claim7 := { stood := { row := textTurnsUptoRow, standIns := [], harness := (true, "5e061583569be7809e3db90f375dd44e1c37794afe11e88bb40c2c8d2e838cd6"), looks := true }, kinds := [], alts := [], laidByText := true, laidKinds := [.data, .data, .data, .sentinel, .sentinel], laidTests := true, laidLooks := .later }
def TextTurnsUptoCardSaid : Prop := Claim7.holds Tryd.pinned (.plain (OpenSpec.upto textTurnsSpec)) textTurnsUptoCard

/-- THE SECOND FORM's CARD OF 'adjointlaw3.TextAgain'. -/
def textAgainUptoCard : Claim7 := { stood := { row := textAgainUptoRow, standIns := [], harness := (true, "5e061583569be7809e3db90f375dd44e1c37794afe11e88bb40c2c8d2e838cd6"), looks := true }, kinds := [], alts := [], laidByText := true, laidKinds := [.data, .data, .data, .sentinel, .sentinel], laidTests := true, laidLooks := .later }
def TextAgainUptoCardSaid : Prop := Claim7.holds Tryd.pinned (.plain (OpenSpec.upto textAgainSpec)) textAgainUptoCard
end Rows
end Go.Proofs.YtaobkpnecfcefaaDoor
