/-
  DERIVED. GIVEN WITH THE SEED: THE CARDS: each row of YtiilloijkbabbaaDoorRows.lean that lists a variable, with what it lists TIED to the program's text (the seventh form; the later family's looks); each row that meets fmt, with fmt's text TOLD by the authors' own Lean function (tested against real Go, not proved from fmt's source: count such statements apart). THE CARD IS WHAT COUNTS. Prove the row's statement (the work); the ties are given (YtiilloijkbabbaaDoorTie.lean); close each card by the builder's one call (the guide's Derived/Test/ToyasCard.lean, 'card_holds'). Laid BY PROGRAM, IN A SANDBOX (cutbox-door.mjs). By AI agents, Wed Nov 11 2026. No macro, syntax, notation, axiom, sorry.
-/
import Derived.Test.YtiilloijkbabbaaDoorRows
import GoSem.ClaimSeven
namespace Go.Proofs.YtiilloijkbabbaaDoor
namespace Rows

/-- THE TIED CARD OF 'confidantlaw7.ImageLimits'. -/
def imageLimitsCard : Claim7 := { stood := { row := imageLimitsRow, standIns := [], harness := (true, "6bbdad823e21584c34fc034e9b34b68cdb1227bf531b67af84c05745984f5e80"), looks := true }, kinds := [], alts := [], laidByText := true, laidKinds := [.data, .data, .data, .data, .sentinel, .sentinel, .listed, .data, .pinned], laidTests := true, laidLooks := .later }
def ImageLimitsCardSaid : Prop := Claim7.holds Tryd.pinned (.plain (OpenSpec.ofChange imageLimitsSpec)) imageLimitsCard

/-- THE TIED CARD OF 'confidantlaw7.ImageSames'. -/
def imageSamesCard : Claim7 := { stood := { row := imageSamesRow, standIns := [], harness := (true, "6bbdad823e21584c34fc034e9b34b68cdb1227bf531b67af84c05745984f5e80"), looks := true }, kinds := [], alts := [], laidByText := true, laidKinds := [.data, .data, .data, .data, .sentinel, .sentinel, .listed, .data, .pinned], laidTests := true, laidLooks := .later }
def ImageSamesCardSaid : Prop := Claim7.holds Tryd.pinned (.plain (OpenSpec.ofChange imageSamesSpec)) imageSamesCard

/-- THE SECOND FORM's CARD OF 'confidantlaw7.ImageLimits'. -/
def imageLimitsUptoCard : Claim7 := { stood := { row := imageLimitsUptoRow, standIns := [], harness := (true, "6bbdad823e21584c34fc034e9b34b68cdb1227bf531b67af84c05745984f5e80"), looks := true }, kinds := [], alts := [], laidByText := true, laidKinds := [.data, .data, .data, .data, .sentinel, .sentinel, .listed, .data, .pinned], laidTests := true, laidLooks := .later }
def ImageLimitsUptoCardSaid : Prop := Claim7.holds Tryd.pinned (.plain (OpenSpec.upto imageLimitsSpec)) imageLimitsUptoCard

/-- THE SECOND FORM's CARD OF 'confidantlaw7.ImageSames'. -/
def imageSamesUptoCard : Claim7 := { stood := { row := imageSamesUptoRow, standIns := [], harness := (true, "6bbdad823e21584c34fc034e9b34b68cdb1227bf531b67af84c05745984f5e80"), looks := true }, kinds := [], alts := [], laidByText := true, laidKinds := [.data, .data, .data, .data, .sentinel, .sentinel, .listed, .data, .pinned], laidTests := true, laidLooks := .later }
def ImageSamesUptoCardSaid : Prop := Claim7.holds Tryd.pinned (.plain (OpenSpec.upto imageSamesSpec)) imageSamesUptoCard
end Rows
end Go.Proofs.YtiilloijkbabbaaDoor
