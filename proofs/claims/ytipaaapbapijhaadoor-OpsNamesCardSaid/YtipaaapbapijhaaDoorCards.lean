/-
  DERIVED. GIVEN WITH THE SEED: THE CARDS: each row of YtipaaapbapijhaaDoorRows.lean that lists a variable, with what it lists TIED to the program's text (the seventh form; the later family's looks); each row that meets fmt, with fmt's text TOLD by the authors' own Lean function (tested against real Go, not proved from fmt's source: count such statements apart). THE CARD IS WHAT COUNTS. Prove the row's statement (the work); the ties are given (YtipaaapbapijhaaDoorTie.lean); close each card by the builder's one call (the guide's Derived/Test/ToyasCard.lean, 'card_holds'). Laid BY PROGRAM, IN A SANDBOX (cutbox-door.mjs). By AI agents, Wed Nov 11 2026. No macro, syntax, notation, axiom, sorry.
-/
import Derived.Test.YtipaaapbapijhaaDoorRows
import GoSem.ClaimSeven
namespace Go.Proofs.YtipaaapbapijhaaDoor
namespace Rows

/-- THE TIED CARD OF 'confidantlaw5.OpsTell'. -/
def opsTellCard : Claim7 := { stood := { row := opsTellRow, standIns := [], harness := (true, "645517b1668025b20d0db715bd33a2b61d177a3c707152974d7737a7b0de41e0"), looks := false }, kinds := [], alts := [], laidByText := true, laidKinds := [.listed, .data], laidTests := true, laidLooks := .later }
def OpsTellCardSaid : Prop := Claim7.holds Tryd.pinned (.plain (OpenSpec.ofChange opsTellSpec)) opsTellCard

/-- THE TIED CARD OF 'confidantlaw5.OpsAll'. -/
def opsAllCard : Claim7 := { stood := { row := opsAllRow, standIns := [], harness := (true, "645517b1668025b20d0db715bd33a2b61d177a3c707152974d7737a7b0de41e0"), looks := false }, kinds := [], alts := [], laidByText := true, laidKinds := [.listed, .data], laidTests := true, laidLooks := .later }
def OpsAllCardSaid : Prop := Claim7.holds Tryd.pinned (.plain (OpenSpec.ofChange opsAllSpec)) opsAllCard

/-- THE TIED CARD OF 'confidantlaw5.OpsNames'. -/
def opsNamesCard : Claim7 := { stood := { row := opsNamesRow, standIns := [], harness := (true, "645517b1668025b20d0db715bd33a2b61d177a3c707152974d7737a7b0de41e0"), looks := false }, kinds := [], alts := [], laidByText := true, laidKinds := [.listed, .data], laidTests := true, laidLooks := .later }
def OpsNamesCardSaid : Prop := Claim7.holds Tryd.pinned (.plain (OpenSpec.ofChange opsNamesSpec)) opsNamesCard

/-- THE SECOND FORM's CARD OF 'confidantlaw5.OpsTell'. -/
def opsTellUptoCard : Claim7 := { stood := { row := opsTellUptoRow, standIns := [], harness := (true, "645517b1668025b20d0db715bd33a2b61d177a3c707152974d7737a7b0de41e0"), looks := false }, kinds := [], alts := [], laidByText := true, laidKinds := [.listed, .data], laidTests := true, laidLooks := .later }
def OpsTellUptoCardSaid : Prop := Claim7.holds Tryd.pinned (.plain (OpenSpec.upto opsTellSpec)) opsTellUptoCard

/-- THE SECOND FORM's CARD OF 'confidantlaw5.OpsAll'. -/
def opsAllUptoCard : Claim7 := { stood := { row := opsAllUptoRow, standIns := [], harness := (true, "645517b1668025b20d0db715bd33a2b61d177a3c707152974d7737a7b0de41e0"), looks := false }, kinds := [], alts := [], laidByText := true, laidKinds := [.listed, .data], laidTests := true, laidLooks := .later }
def OpsAllUptoCardSaid : Prop := Claim7.holds Tryd.pinned (.plain (OpenSpec.upto opsAllSpec)) opsAllUptoCard

/-- THE SECOND FORM's CARD OF 'confidantlaw5.OpsNames'. -/
def opsNamesUptoCard : Claim7 := { stood := { row := opsNamesUptoRow, standIns := [], harness := (true, "645517b1668025b20d0db715bd33a2b61d177a3c707152974d7737a7b0de41e0"), looks := false }, kinds := [], alts := [], laidByText := true, laidKinds := [.listed, .data], laidTests := true, laidLooks := .later }
def OpsNamesUptoCardSaid : Prop := Claim7.holds Tryd.pinned (.plain (OpenSpec.upto opsNamesSpec)) opsNamesUptoCard
end Rows
end Go.Proofs.YtipaaapbapijhaaDoor
