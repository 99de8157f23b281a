/-
  DERIVED. GIVEN WITH THE SEED: THE CARDS: each row of YtiilloijkbabbaaGreatDoorRows.lean that lists a variable, with what it lists TIED to the program's text (the seventh form; the later family's looks); each row that meets fmt, with fmt's text TOLD by the authors' own Lean function (tested against real Go, not proved from fmt's source: count such statements apart). THE CARD IS WHAT COUNTS. Prove the row's statement (the work); the ties are given (YtiilloijkbabbaaGreatDoorTie.lean); close each card by the builder's one call (the guide's Derived/Test/ToyasCard.lean, 'card_holds'). Laid BY PROGRAM, IN A SANDBOX (cutbox-door.mjs). By AI agents, Wed Nov 11 2026. No macro, syntax, notation, axiom, sorry.
-/
import Derived.Test.YtiilloijkbabbaaGreatDoorRows
import GoSem.ClaimSeven
namespace Go.Proofs.YtiilloijkbabbaaGreatDoor
namespace Rows

/-- THE TIED CARD OF 'confidantlaw7.ImageLines'. -/
def imageLinesCard : Claim7 := { stood := { row := imageLinesRow, standIns := [], harness := (true, "6adf9785f5b31b2f1497f605f7bb46d36b5e188fc204945498dbd835cad93efe"), looks := true }, kinds := [], alts := [], laidByText := true, laidKinds := [.data, .data, .data, .data, .sentinel, .sentinel, .listed, .data, .pinned], laidTests := true, laidLooks := .later }
def ImageLinesCardSaid : Prop := Claim7.holds Tryz.pinned (.plain (OpenSpec.ofChange imageLinesSpec)) imageLinesCard

/-- THE TIED CARD OF 'confidantlaw7.ImageTells'. -/
def imageTellsCard : Claim7 := { stood := { row := imageTellsRow, standIns := [], harness := (true, "6adf9785f5b31b2f1497f605f7bb46d36b5e188fc204945498dbd835cad93efe"), looks := true }, kinds := [], alts := [], laidByText := true, laidKinds := [.data, .data, .data, .data, .sentinel, .sentinel, .listed, .data, .pinned], laidTests := true, laidLooks := .later }
def ImageTellsCardSaid : Prop := Claim7.holds Tryz.pinned (.plain (OpenSpec.ofChange imageTellsSpec)) imageTellsCard

/-- THE TIED CARD OF 'confidantlaw7.ImageReads'. -/
def imageReadsCard : Claim7 := { stood := { row := imageReadsRow, standIns := [], harness := (true, "6adf9785f5b31b2f1497f605f7bb46d36b5e188fc204945498dbd835cad93efe"), looks := true }, kinds := [], alts := [], laidByText := true, laidKinds := [.data, .data, .data, .data, .sentinel, .sentinel, .listed, .data, .pinned], laidTests := true, laidLooks := .later }
def ImageReadsCardSaid : Prop := Claim7.holds Tryz.pinned (.plain (OpenSpec.ofChange imageReadsSpec)) imageReadsCard

/-- THE SECOND FORM's CARD OF 'confidantlaw7.ImageLines'. -/
def imageLinesUptoCard : Claim7 := { stood := { row := imageLinesUptoRow, standIns := [], harness := (true, "6adf9785f5b31b2f1497f605f7bb46d36b5e188fc204945498dbd835cad93efe"), looks := true }, kinds := [], alts := [], laidByText := true, laidKinds := [.data, .data, .data, .data, .sentinel, .sentinel, .listed, .data, .pinned], laidTests := true, laidLooks := .later }
def ImageLinesUptoCardSaid : Prop := Claim7.holds Tryz.pinned (.plain (OpenSpec.upto imageLinesSpec)) imageLinesUptoCard

/-- THE SECOND FORM's CARD OF 'confidantlaw7.ImageTells'. -/
def imageTellsUptoCard : Claim7 := { stood := { row := imageTellsUptoRow, standIns := [], harness := (true, "6adf9785f5b31b2f1497f605f7bb46d36b5e188fc204945498dbd835cad93efe"), looks := true }, kinds := [], alts := [], laidByText := true, laidKinds := [.data, .data, .data, .data, .sentinel, .sentinel, .listed, .data, .pinned], laidTests := true, laidLooks := .later }
def ImageTellsUptoCardSaid : Prop := Claim7.holds Tryz.pinned (.plain (OpenSpec.upto imageTellsSpec)) imageTellsUptoCard

/-- THE SECOND FORM's CARD OF 'confidantlaw7.ImageReads'. -/
def imageReadsUptoCard : Claim7 := { stood := { row := imageReadsUptoRow, standIns := [], harness := (true, "6adf9785f5b31b2f1497f605f7bb46d36b5e188fc204945498dbd835cad93efe"), looks := true }, kinds := [], alts := [], laidByText := true, laidKinds := [.data, .data, .data, .data, .sentinel, .sentinel, .listed, .data, .pinned], laidTests := true, laidLooks := .later }
def ImageReadsUptoCardSaid : Prop := Claim7.holds Tryz.pinned (.plain (OpenSpec.upto imageReadsSpec)) imageReadsUptoCard
end Rows
end Go.Proofs.YtiilloijkbabbaaGreatDoor
