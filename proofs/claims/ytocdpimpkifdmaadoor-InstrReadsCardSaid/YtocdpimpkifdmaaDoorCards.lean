/-
  DERIVED. GIVEN WITH THE SEED: THE CARDS: each row of YtocdpimpkifdmaaDoorRows.lean that lists a variable, with what it lists TIED to the program's text (the seventh form; the later family's looks); each row that meets fmt, with fmt's text TOLD by the authors' own Lean function (tested against real Go, not proved from fmt's source: count such statements apart). THE CARD IS WHAT COUNTS. Prove the row's statement (the work); the ties are given (YtocdpimpkifdmaaDoorTie.lean); close each card by the builder's one call (the guide's Derived/Test/ToyasCard.lean, 'card_holds'). Laid BY PROGRAM, IN A SANDBOX (cutbox-door.mjs). By AI agents, Wed Nov 11 2026. No macro, syntax, notation, axiom, sorry.
-/
import Derived.Test.YtocdpimpkifdmaaDoorRows
import GoSem.ClaimSeven
namespace Go.Proofs.YtocdpimpkifdmaaDoor
namespace Rows

/-- THE TIED CARD OF 'confidantlaw23.TraceTells'. -/
def traceTellsCard : Claim7 := { stood := { row := traceTellsRow, standIns := [], harness := (true, "f13e8531806990144718f2101c0aabda52e7712596fd0025ef436dcbcf97dafc"), looks := true }, kinds := [], alts := [], laidByText := true, laidKinds := [.data, .data, .data, .listed, .data], laidTests := true, laidLooks := .later }
def TraceTellsCardSaid : Prop := Claim7.holds Tryd.pinned (.plain (OpenSpec.ofChange traceTellsSpec)) traceTellsCard

/-- THE TIED CARD OF 'confidantlaw23.TraceReads'. -/
def traceReadsCard : Claim7 := { stood := { row := traceReadsRow, standIns := [], harness := (true, "f13e8531806990144718f2101c0aabda52e7712596fd0025ef436dcbcf97dafc"), looks := true }, kinds := [], alts := [], laidByText := true, laidKinds := [.data, .data, .data, .listed, .data], laidTests := true, laidLooks := .later }
def TraceReadsCardSaid : Prop := Claim7.holds Tryd.pinned (.plain (OpenSpec.ofChange traceReadsSpec)) traceReadsCard

/-- THE TIED CARD OF 'confidantlaw23.TraceParts'. -/
def tracePartsCard : Claim7 := { stood := { row := tracePartsRow, standIns := [], harness := (true, "f13e8531806990144718f2101c0aabda52e7712596fd0025ef436dcbcf97dafc"), looks := true }, kinds := [], alts := [], laidByText := true, laidKinds := [.data, .data, .data, .listed, .data], laidTests := true, laidLooks := .later }
def TracePartsCardSaid : Prop := Claim7.holds Tryd.pinned (.plain (OpenSpec.ofChange tracePartsSpec)) tracePartsCard

/-- THE TIED CARD OF 'confidantlaw23.TraceTexts'. -/
def traceTextsCard : Claim7 := { stood := { row := traceTextsRow, standIns := [], harness := (true, "f13e8531806990144718f2101c0aabda52e7712596fd0025ef436dcbcf97dafc"), looks := true }, kinds := [], alts := [], laidByText := true, laidKinds := [.data, .data, .data, .listed, .data], laidTests := true, laidLooks := .later }
def TraceTextsCardSaid : Prop := Claim7.holds Tryd.pinned (.plain (OpenSpec.ofChange traceTextsSpec)) traceTextsCard

/-- THE TIED CARD OF 'confidantlaw23.TraceRights'. -/
def traceRightsCard : Claim7 := { stood := { row := traceRightsRow, standIns := [], harness := (true, "f13e8531806990144718f2101c0aabda52e7712596fd0025ef436dcbcf97dafc"), looks := true }, kinds := [], alts := [], laidByText := true, laidKinds := [.data, .data, .data, .listed, .data], laidTests := true, laidLooks := .later }
def TraceRightsCardSaid : Prop := Claim7.holds Tryd.pinned (.plain (OpenSpec.ofChange traceRightsSpec)) traceRightsCard

/-- THE TIED CARD OF 'confidantlaw6.InstrNumbers'. -/
def instrNumbersCard : Claim7 := { stood := { row := instrNumbersRow, standIns := [], harness := (true, "f13e8531806990144718f2101c0aabda52e7712596fd0025ef436dcbcf97dafc"), looks := true }, kinds := [], alts := [], laidByText := true, laidKinds := [.data, .data, .data, .sentinel, .sentinel, .listed, .data], laidTests := true, laidLooks := .later }
def InstrNumbersCardSaid : Prop := Claim7.holds Tryd.pinned (.plain (OpenSpec.ofChange instrNumbersSpec)) instrNumbersCard

/-- THE TIED CARD OF 'confidantlaw6.InstrTells'. -/
def instrTellsCard : Claim7 := { stood := { row := instrTellsRow, standIns := [], harness := (true, "f13e8531806990144718f2101c0aabda52e7712596fd0025ef436dcbcf97dafc"), looks := true }, kinds := [], alts := [], laidByText := true, laidKinds := [.data, .data, .data, .sentinel, .sentinel, .listed, .data], laidTests := true, laidLooks := .later }
def InstrTellsCardSaid : Prop := Claim7.holds Tryd.pinned (.plain (OpenSpec.ofChange instrTellsSpec)) instrTellsCard

/-- THE TIED CARD OF 'confidantlaw6.InstrReads'. -/
def instrReadsCard : Claim7 := { stood := { row := instrReadsRow, standIns := [], harness := (true, "f13e8531806990144718f2101c0aabda52e7712596fd0025ef436dcbcf97dafc"), looks := true }, kinds := [], alts := [], laidByText := true, laidKinds := [.data, .data, .data, .sentinel, .sentinel, .listed, .data], laidTests := true, laidLooks := .later }
def InstrReadsCardSaid : Prop := Claim7.holds Tryd.pinned (.plain (OpenSpec.ofChange instrReadsSpec)) instrReadsCard

/-- THE SECOND FORM's CARD OF 'confidantlaw23.TraceTells'. -/
def traceTellsUptoCard : Claim7 := { stood := { row := traceTellsUptoRow, standIns := [], harness := (true, "f13e8531806990144718f2101c0aabda52e7712596fd0025ef436dcbcf97dafc"), looks := true }, kinds := [], alts := [], laidByText := true, laidKinds := [.data, .data, .data, .listed, .data], laidTests := true, laidLooks := .later }
def TraceTellsUptoCardSaid : Prop := Claim7.holds Tryd.pinned (.plain (OpenSpec.upto traceTellsSpec)) traceTellsUptoCard

/-- THE SECOND FORM's CARD OF 'confidantlaw23.TraceReads'. -/
def traceReadsUptoCard : Claim7 := { stood := { row := traceReadsUptoRow, standIns := [], harness := (true, "f13e8531806990144718f2101c0aabda52e7712596fd0025ef436dcbcf97dafc"), looks := true }, kinds := [], alts := [], laidByText := true, laidKinds := [.data, .data, .data, .listed, .data], laidTests := true, laidLooks := .later }
def TraceReadsUptoCardSaid : Prop := Claim7.holds Tryd.pinned (.plain (OpenSpec.upto traceReadsSpec)) traceReadsUptoCard

/-- THE SECOND FORM's CARD OF 'confidantlaw23.TraceParts'. -/
def tracePartsUptoCard : Claim7 := { stood := { row := tracePartsUptoRow, standIns := [], harness := (true, "f13e8531806990144718f2101c0aabda52e7712596fd0025ef436dcbcf97dafc"), looks := true }, kinds := [], alts := [], laidByText := true, laidKinds := [.data, .data, .data, .listed, .data], laidTests := true, laidLooks := .later }
def TracePartsUptoCardSaid : Prop := Claim7.holds Tryd.pinned (.plain (OpenSpec.upto tracePartsSpec)) tracePartsUptoCard

/-- THE SECOND FORM's CARD OF 'confidantlaw23.TraceTexts'. -/
def traceTextsUptoCard : Claim7 := { stood := { row := traceTextsUptoRow, standIns := [], harness := (true, "f13e8531806990144718f2101c0aabda52e7712596fd0025ef436dcbcf97dafc"), looks := true }, kinds := [], alts := [], laidByText := true, laidKinds := [.data, .data, .data, .listed, .data], laidTests := true, laidLooks := .later }
def TraceTextsUptoCardSaid : Prop := Claim7.holds Tryd.pinned (.plain (OpenSpec.upto traceTextsSpec)) traceTextsUptoCard

/-- THE SECOND FORM's CARD OF 'confidantlaw23.TraceRights'. -/
def traceRightsUptoCard : Claim7 := { stood := { row := traceRightsUptoRow, standIns := [], harness := (true, "f13e8531806990144718f2101c0aabda52e7712596fd0025ef436dcbcf97dafc"), looks := true }, kinds := [], alts := [], laidByText := true, laidKinds := [.data, .data, .data, .listed, .data], laidTests := true, laidLooks := .later }
def TraceRightsUptoCardSaid : Prop := Claim7.holds Tryd.pinned (.plain (OpenSpec.upto traceRightsSpec)) traceRightsUptoCard

/-- THE SECOND FORM's CARD OF 'confidantlaw6.InstrNumbers'. -/
def instrNumbersUptoCard : Claim7 := { stood := { row := instrNumbersUptoRow, standIns := [], harness := (true, "f13e8531806990144718f2101c0aabda52e7712596fd0025ef436dcbcf97dafc"), looks := true }, kinds := [], alts := [], laidByText := true, laidKinds := [.data, .data, .data, .sentinel, .sentinel, .listed, .data], laidTests := true, laidLooks := .later }
def InstrNumbersUptoCardSaid : Prop := Claim7.holds Tryd.pinned (.plain (OpenSpec.upto instrNumbersSpec)) instrNumbersUptoCard

/-- THE SECOND FORM's CARD OF 'confidantlaw6.InstrTells'. -/
def instrTellsUptoCard : Claim7 := { stood := { row := instrTellsUptoRow, standIns := [], harness := (true, "f13e8531806990144718f2101c0aabda52e7712596fd0025ef436dcbcf97dafc"), looks := true }, kinds := [], alts := [], laidByText := true, laidKinds := [.data, .data, .data, .sentinel, .sentinel, .listed, .data], laidTests := true, laidLooks := .later }
def InstrTellsUptoCardSaid : Prop := Claim7.holds Tryd.pinned (.plain (OpenSpec.upto instrTellsSpec)) instrTellsUptoCard

/-- THE SECOND FORM's CARD OF 'confidantlaw6.InstrReads'. -/
def instrReadsUptoCard : Claim7 := { stood := { row := instrReadsUptoRow, standIns := [], harness := (true, "f13e8531806990144718f2101c0aabda52e7712596fd0025ef436dcbcf97dafc"), looks := true }, kinds := [], alts := [], laidByText := true, laidKinds := [.data, .data, .data, .sentinel, .sentinel, .listed, .data], laidTests := true, laidLooks := .later }
def InstrReadsUptoCardSaid : Prop := Claim7.holds Tryd.pinned (.plain (OpenSpec.upto instrReadsSpec)) instrReadsUptoCard
end Rows
end Go.Proofs.YtocdpimpkifdmaaDoor
