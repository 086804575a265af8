/-
  DERIVED. GIVEN WITH THE SEED: THE CARDS: each row of YtongekoajbcliaaGreatDoorRows.lean that lists a variable, with what it lists TIED to the program's text (the seventh form; the later family's looks); each row that meets fmt, with fmt's text TOLD by the authors' own Lean function (tested against real Go, not proved from fmt's source: count such statements apart). THE CARD IS WHAT COUNTS. Prove the row's statement (the work); the ties are given (YtongekoajbcliaaGreatDoorTie.lean); close each card by the builder's one call (the guide's Derived/Test/ToyasCard.lean, 'card_holds'). Laid BY PROGRAM, IN A SANDBOX (cutbox-door.mjs). By AI agents, Wed Nov 11 2026. No macro, syntax, notation, axiom, sorry.
-/
import Derived.Test.YtongekoajbcliaaGreatDoorRows
import GoSem.ClaimSeven
namespace Go.Proofs.YtongekoajbcliaaGreatDoor
namespace Rows

/-- THE TIED CARD OF 'adjointlaw5.GraphTidies'. -/
def graphTidiesCard : Claim7 := { stood := { row := graphTidiesRow, standIns := [], harness := (true, "97936f25f159374cfeb7d753f84985050d1e678dd71610f60beac32168145f40"), looks := true }, kinds := [], alts := [], laidByText := true, laidKinds := [.data, .data, .data], laidTests := true, laidLooks := .later }
def GraphTidiesCardSaid : Prop := Claim7.holds Tryz.pinned (.plain (OpenSpec.ofChange graphTidiesSpec)) graphTidiesCard

/-- THE TIED CARD OF 'adjointlaw5.GraphAfters'. -/
def graphAftersCard : Claim7 := { stood := { row := graphAftersRow, standIns := [], harness := (true, "97936f25f159374cfeb7d753f84985050d1e678dd71610f60beac32168145f40"), looks := true }, kinds := [], alts := [], laidByText := true, laidKinds := [.data, .data, .data], laidTests := true, laidLooks := .later }
def GraphAftersCardSaid : Prop := Claim7.holds Tryz.pinned (.plain (OpenSpec.ofChange graphAftersSpec)) graphAftersCard

/-- THE TIED CARD OF 'adjointlaw5.GraphBuilds'. -/
def graphBuildsCard : Claim7 := { stood := { row := graphBuildsRow, standIns := [], harness := (true, "97936f25f159374cfeb7d753f84985050d1e678dd71610f60beac32168145f40"), looks := true }, kinds := [], alts := [], laidByText := true, laidKinds := [.data, .data, .data], laidTests := true, laidLooks := .later }
def GraphBuildsCardSaid : Prop := Claim7.holds Tryz.pinned (.plain (OpenSpec.ofChange graphBuildsSpec)) graphBuildsCard

/-- THE TIED CARD OF 'adjointlaw5.GraphMeans'. -/
def graphMeansCard : Claim7 := { stood := { row := graphMeansRow, standIns := [], harness := (true, "97936f25f159374cfeb7d753f84985050d1e678dd71610f60beac32168145f40"), looks := true }, kinds := [], alts := [], laidByText := true, laidKinds := [.data, .data, .data], laidTests := true, laidLooks := .later }
def GraphMeansCardSaid : Prop := Claim7.holds Tryz.pinned (.plain (OpenSpec.ofChange graphMeansSpec)) graphMeansCard

/-- THE TIED CARD OF 'adjointlaw5.GraphTidy'. -/
def graphTidyCard : Claim7 := { stood := { row := graphTidyRow, standIns := [], harness := (true, "97936f25f159374cfeb7d753f84985050d1e678dd71610f60beac32168145f40"), looks := true }, kinds := [], alts := [], laidByText := true, laidKinds := [.data, .data, .data], laidTests := true, laidLooks := .later }
def GraphTidyCardSaid : Prop := Claim7.holds Tryz.pinned (.plain (OpenSpec.ofChange graphTidySpec)) graphTidyCard

/-- THE TIED CARD OF 'adjointlaw5.GraphAfter'. -/
def graphAfterCard : Claim7 := { stood := { row := graphAfterRow, standIns := [], harness := (true, "97936f25f159374cfeb7d753f84985050d1e678dd71610f60beac32168145f40"), looks := true }, kinds := [], alts := [], laidByText := true, laidKinds := [.data, .data, .data], laidTests := true, laidLooks := .later }
def GraphAfterCardSaid : Prop := Claim7.holds Tryz.pinned (.plain (OpenSpec.ofChange graphAfterSpec)) graphAfterCard

/-- THE SECOND FORM's CARD OF 'adjointlaw5.GraphTidies'. -/
def graphTidiesUptoCard : Claim7 := { stood := { row := graphTidiesUptoRow, standIns := [], harness := (true, "97936f25f159374cfeb7d753f84985050d1e678dd71610f60beac32168145f40"), looks := true }, kinds := [], alts := [], laidByText := true, laidKinds := [.data, .data, .data], laidTests := true, laidLooks := .later }
def GraphTidiesUptoCardSaid : Prop := Claim7.holds Tryz.pinned (.plain (OpenSpec.upto graphTidiesSpec)) graphTidiesUptoCard

/-- THE SECOND FORM's CARD OF 'adjointlaw5.GraphAfters'. -/
def graphAftersUptoCard : Claim7 := { stood := { row := graphAftersUptoRow, standIns := [], harness := (true, "97936f25f159374cfeb7d753f84985050d1e678dd71610f60beac32168145f40"), looks := true }, kinds := [], alts := [], laidByText := true, laidKinds := [.data, .data, .data], laidTests := true, laidLooks := .later }
def GraphAftersUptoCardSaid : Prop := Claim7.holds Tryz.pinned (.plain (OpenSpec.upto graphAftersSpec)) graphAftersUptoCard

/-- THE SECOND FORM's CARD OF 'adjointlaw5.GraphBuilds'. -/
def graphBuildsUptoCard : Claim7 := { stood := { row := graphBuildsUptoRow, standIns := [], harness := (true, "97936f25f159374cfeb7d753f84985050d1e678dd71610f60beac32168145f40"), looks := true }, kinds := [], alts := [], laidByText := true, laidKinds := [.data, .data, .data], laidTests := true, laidLooks := .later }
def GraphBuildsUptoCardSaid : Prop := Claim7.holds Tryz.pinned (.plain (OpenSpec.upto graphBuildsSpec)) graphBuildsUptoCard

/-- THE SECOND FORM's CARD OF 'adjointlaw5.GraphMeans'. -/
def graphMeansUptoCard : Claim7 := { stood := { row := graphMeansUptoRow, standIns := [], harness := (true, "97936f25f159374cfeb7d753f84985050d1e678dd71610f60beac32168145f40"), looks := true }, kinds := [], alts := [], laidByText := true, laidKinds := [.data, .data, .data], laidTests := true, laidLooks := .later }
def GraphMeansUptoCardSaid : Prop := Claim7.holds Tryz.pinned (.plain (OpenSpec.upto graphMeansSpec)) graphMeansUptoCard

/-- THE SECOND FORM's CARD OF 'adjointlaw5.GraphTidy'. -/
def graphTidyUptoCard : Claim7 := { stood := { row := graphTidyUptoRow, standIns := [], harness := (true, "97936f25f159374cfeb7d753f84985050d1e678dd71610f60beac32168145f40"), looks := true }, kinds := [], alts := [], laidByText := true, laidKinds := [.data, .data, .data], laidTests := true, laidLooks := .later }
def GraphTidyUptoCardSaid : Prop := Claim7.holds Tryz.pinned (.plain (OpenSpec.upto graphTidySpec)) graphTidyUptoCard

/-- THE SECOND FORM's CARD OF 'adjointlaw5.GraphAfter'. -/
def graphAfterUptoCard : Claim7 := { stood := { row := graphAfterUptoRow, standIns := [], harness := (true, "97936f25f159374cfeb7d753f84985050d1e678dd71610f60beac32168145f40"), looks := true }, kinds := [], alts := [], laidByText := true, laidKinds := [.data, .data, .data], laidTests := true, laidLooks := .later }
def GraphAfterUptoCardSaid : Prop := Claim7.holds Tryz.pinned (.plain (OpenSpec.upto graphAfterSpec)) graphAfterUptoCard
end Rows
end Go.Proofs.YtongekoajbcliaaGreatDoor
