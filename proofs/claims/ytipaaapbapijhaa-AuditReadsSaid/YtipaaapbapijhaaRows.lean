/-
  No cell of these rows narrows 'for every input' (looked for: loops, veiled, ifaces, maps, wideKeys, modest, calm, conditions, laid).
  DERIVED. THE GIVEN ROWS OF THIS SEAT. 7 by the template 'for every input the law returns true; each argument reads behind the call as it read before'; 0 by the template 'total and deterministic' (their statements: YtipaaapbapijhaaTotals.lean).
  GIVEN WITH THE SEED: the statements are not yours to turn. If you find one false, say at which input.
  Laid BY PROGRAM, IN A SANDBOX (cutbox-rows.mjs): the forced cells as the released guide's own fill.sh prints them over the translation 3156d5afdad10e39… (all of the seat's roots in one cut). By AI agents, Wed Nov 11 2026. No macro, syntax, notation, axiom, sorry.
-/
import Derived.Test.YtipaaapbapijhaaChecked
import GoSem.Claim
import GoSem.ClaimJoined
import GoSem.ClaimMapViews
import Derived.JoinedTies
import Derived.KernelRfl
namespace Go.Proofs.Ytipaaapbapijhaa
/- THE CELL 'sum', in the pinned program and in every row, IS THE sha256 OF THE DUMP (.gsa) THAT YtipaaapbapijhaaProg.lean LOADS. Nothing in Lean hashes anything: it is a label: what it is worth is what the hold of that sum in a sandbox is worth. -/
noncomputable def Try.pinned : Pinned := { name := "ytipaaapbapijhaa", sum := "3156d5afdad10e39e41bfb999a0634d86d8281452481ce76088396e16dd10fc6", checked := Try.checked }
namespace Rows
def none {H : Type} : Left H := { results := [], args := [] }

/-- 'confidantlaw20.ParkNobody': WHATEVER THE INPUT: true; the input reads as it did. -/
def parkNobodySpec : ChangeSpec := { name := "parkNobody", fn := fun _ => fun
  | [d1, d2, d3] => { results := [.lit (.bool true)], args := [d1, d2, d3] }
  | _ => none }
def parkNobodyRow : OpenClaim := { program := "ytipaaapbapijhaa", sum := "3156d5afdad10e39e41bfb999a0634d86d8281452481ce76088396e16dd10fc6", func := "confidant/confidantlaw20.ParkNobody", spec := "parkNobody", unfollowed := true, recurses := true, apart := false }
def ParkNobodySaid : Prop := parkNobodyRow.holds Try.pinned (OpenSpec.ofChange parkNobodySpec)

/-- ITS FALSE NEIGHBOUR: 'it returns false'. Refute it at one input. -/
def parkNobodyWrong : ChangeSpec := { name := "parkNobody", fn := fun _ => fun
  | [d1, d2, d3] => { results := [.lit (.bool false)], args := [d1, d2, d3] }
  | _ => none }
def ParkNobodyWrongFalsely : Prop := parkNobodyRow.holds Try.pinned (OpenSpec.ofChange parkNobodyWrong)

/-- 'confidantlaw20.ParkFuel': WHATEVER THE INPUT: true; the input reads as it did. -/
def parkFuelSpec : ChangeSpec := { name := "parkFuel", fn := fun _ => fun
  | [d1, d2, d3, d4] => { results := [.lit (.bool true)], args := [d1, d2, d3, d4] }
  | _ => none }
def parkFuelRow : OpenClaim := { program := "ytipaaapbapijhaa", sum := "3156d5afdad10e39e41bfb999a0634d86d8281452481ce76088396e16dd10fc6", func := "confidant/confidantlaw20.ParkFuel", spec := "parkFuel", unfollowed := true, recurses := true, apart := false }
def ParkFuelSaid : Prop := parkFuelRow.holds Try.pinned (OpenSpec.ofChange parkFuelSpec)

/-- ITS FALSE NEIGHBOUR: 'it returns false'. Refute it at one input. -/
def parkFuelWrong : ChangeSpec := { name := "parkFuel", fn := fun _ => fun
  | [d1, d2, d3, d4] => { results := [.lit (.bool false)], args := [d1, d2, d3, d4] }
  | _ => none }
def ParkFuelWrongFalsely : Prop := parkFuelRow.holds Try.pinned (OpenSpec.ofChange parkFuelWrong)

/-- 'confidantlaw20.ParkPlays': WHATEVER THE INPUT: true; the input reads as it did. -/
def parkPlaysSpec : ChangeSpec := { name := "parkPlays", fn := fun _ => fun
  | [d1, d2] => { results := [.lit (.bool true)], args := [d1, d2] }
  | _ => none }
def parkPlaysRow : OpenClaim := { program := "ytipaaapbapijhaa", sum := "3156d5afdad10e39e41bfb999a0634d86d8281452481ce76088396e16dd10fc6", func := "confidant/confidantlaw20.ParkPlays", spec := "parkPlays", unfollowed := true, recurses := true, apart := false }
def ParkPlaysSaid : Prop := parkPlaysRow.holds Try.pinned (OpenSpec.ofChange parkPlaysSpec)

/-- ITS FALSE NEIGHBOUR: 'it returns false'. Refute it at one input. -/
def parkPlaysWrong : ChangeSpec := { name := "parkPlays", fn := fun _ => fun
  | [d1, d2] => { results := [.lit (.bool false)], args := [d1, d2] }
  | _ => none }
def ParkPlaysWrongFalsely : Prop := parkPlaysRow.holds Try.pinned (OpenSpec.ofChange parkPlaysWrong)

/-- 'confidantlaw20.ParkStays': WHATEVER THE INPUT: true; the input reads as it did. -/
def parkStaysSpec : ChangeSpec := { name := "parkStays", fn := fun _ => fun
  | [d1, d2, d3] => { results := [.lit (.bool true)], args := [d1, d2, d3] }
  | _ => none }
def parkStaysRow : OpenClaim := { program := "ytipaaapbapijhaa", sum := "3156d5afdad10e39e41bfb999a0634d86d8281452481ce76088396e16dd10fc6", func := "confidant/confidantlaw20.ParkStays", spec := "parkStays", unfollowed := true, recurses := true, apart := false }
def ParkStaysSaid : Prop := parkStaysRow.holds Try.pinned (OpenSpec.ofChange parkStaysSpec)

/-- ITS FALSE NEIGHBOUR: 'it returns false'. Refute it at one input. -/
def parkStaysWrong : ChangeSpec := { name := "parkStays", fn := fun _ => fun
  | [d1, d2, d3] => { results := [.lit (.bool false)], args := [d1, d2, d3] }
  | _ => none }
def ParkStaysWrongFalsely : Prop := parkStaysRow.holds Try.pinned (OpenSpec.ofChange parkStaysWrong)

/-- 'confidantlaw22.AuditTells': WHATEVER THE INPUT: true; the input reads as it did. -/
def auditTellsSpec : ChangeSpec := { name := "auditTells", fn := fun _ => fun
  | [d1, d2, d3, d4, d5, d6] => { results := [.lit (.bool true)], args := [d1, d2, d3, d4, d5, d6] }
  | _ => none }
def auditTellsRow : OpenClaim := { program := "ytipaaapbapijhaa", sum := "3156d5afdad10e39e41bfb999a0634d86d8281452481ce76088396e16dd10fc6", func := "confidant/confidantlaw22.AuditTells", spec := "auditTells", unfollowed := true, recurses := true, apart := false }
def AuditTellsSaid : Prop := auditTellsRow.holds Try.pinned (OpenSpec.ofChange auditTellsSpec)

/-- ITS FALSE NEIGHBOUR: 'it returns false'. Refute it at one input. -/
def auditTellsWrong : ChangeSpec := { name := "auditTells", fn := fun _ => fun
  | [d1, d2, d3, d4, d5, d6] => { results := [.lit (.bool false)], args := [d1, d2, d3, d4, d5, d6] }
  | _ => none }
def AuditTellsWrongFalsely : Prop := auditTellsRow.holds Try.pinned (OpenSpec.ofChange auditTellsWrong)

/-- 'confidantlaw22.AuditReads': WHATEVER THE INPUT: true; the input reads as it did. -/
def auditReadsSpec : ChangeSpec := { name := "auditReads", fn := fun _ => fun
  | [d1, d2, d3, d4, d5] => { results := [.lit (.bool true)], args := [d1, d2, d3, d4, d5] }
  | _ => none }
def auditReadsRow : OpenClaim := { program := "ytipaaapbapijhaa", sum := "3156d5afdad10e39e41bfb999a0634d86d8281452481ce76088396e16dd10fc6", func := "confidant/confidantlaw22.AuditReads", spec := "auditReads", unfollowed := true, recurses := true, apart := false }
def AuditReadsSaid : Prop := auditReadsRow.holds Try.pinned (OpenSpec.ofChange auditReadsSpec)

/-- ITS FALSE NEIGHBOUR: 'it returns false'. Refute it at one input. -/
def auditReadsWrong : ChangeSpec := { name := "auditReads", fn := fun _ => fun
  | [d1, d2, d3, d4, d5] => { results := [.lit (.bool false)], args := [d1, d2, d3, d4, d5] }
  | _ => none }
def AuditReadsWrongFalsely : Prop := auditReadsRow.holds Try.pinned (OpenSpec.ofChange auditReadsWrong)

/-- 'confidantlaw22.AuditParts': WHATEVER THE INPUT: true; the input reads as it did. -/
def auditPartsSpec : ChangeSpec := { name := "auditParts", fn := fun _ => fun
  | [d1, d2, d3] => { results := [.lit (.bool true)], args := [d1, d2, d3] }
  | _ => none }
def auditPartsRow : OpenClaim := { program := "ytipaaapbapijhaa", sum := "3156d5afdad10e39e41bfb999a0634d86d8281452481ce76088396e16dd10fc6", func := "confidant/confidantlaw22.AuditParts", spec := "auditParts", unfollowed := true, recurses := true, apart := false }
def AuditPartsSaid : Prop := auditPartsRow.holds Try.pinned (OpenSpec.ofChange auditPartsSpec)

/-- ITS FALSE NEIGHBOUR: 'it returns false'. Refute it at one input. -/
def auditPartsWrong : ChangeSpec := { name := "auditParts", fn := fun _ => fun
  | [d1, d2, d3] => { results := [.lit (.bool false)], args := [d1, d2, d3] }
  | _ => none }
def AuditPartsWrongFalsely : Prop := auditPartsRow.holds Try.pinned (OpenSpec.ofChange auditPartsWrong)

/- THE SECOND FORM. 'bulk': how many values and letters a reading holds, each counted each time it is reached (what is shared counts as often as it is met; a slice's spare places count too). A statement '..UptoSaid' is the law's where the arguments, and the package variables that the reading takes, are together of bulk at most 1048576: NARROWER than '..Said'. Prove '..Said' where nothing that the law and all that it calls make is longer than what came in: it says more and counts as full. Else prove '..UptoSaid'. A law counts once. -/
mutual
def uptoBulk {H : Type} : DataW H → Nat
  | .lit (.string bytes) => bytes.length + 1
  | .lit _ => 1
  | .nil => 1
  | .ptr d => uptoBulk d + 1
  | .slice elems spare => uptoBulkAll elems + uptoBulkAll spare + 1
  | .agg parts => uptoBulkAll parts + 1
  | .iface _ d => uptoBulk d + 1
  | .map entries => uptoBulkEntries entries + 1
  | .held _ => 1
def uptoBulkAll {H : Type} : List (DataW H) → Nat
  | [] => 0
  | d :: r => uptoBulk d + uptoBulkAll r
def uptoBulkEntries {H : Type} : List (Lit × DataW H) → Nat
  | [] => 0
  | x :: r => uptoBulkEntry x + uptoBulkEntries r
def uptoBulkEntry {H : Type} : Lit × DataW H → Nat
  | (.string bytes, d) => bytes.length + uptoBulk d + 1
  | (_, d) => uptoBulk d + 1
 end
def uptoSmall : (H : Type) → List (DataW H) → Bool := fun _ ds => decide (uptoBulkAll ds ≤ 1048576)
def OpenSpec.upto (s : _root_.Go.ChangeSpec) : _root_.Go.OpenSpec := { _root_.Go.OpenSpec.ofChange s with cond := some uptoSmall }

/-- 'confidantlaw20.ParkNobody', WHERE WHAT IT READS IS OF BULK AT MOST 1048576: true; the input reads as it did. -/
def parkNobodyUptoRow : OpenClaim := { program := "ytipaaapbapijhaa", sum := "3156d5afdad10e39e41bfb999a0634d86d8281452481ce76088396e16dd10fc6", func := "confidant/confidantlaw20.ParkNobody", spec := "parkNobody", unfollowed := true, recurses := true, apart := false, narrowed := true }
def ParkNobodyUptoSaid : Prop := parkNobodyUptoRow.holds Try.pinned (OpenSpec.upto parkNobodySpec)

/-- 'confidantlaw20.ParkFuel', WHERE WHAT IT READS IS OF BULK AT MOST 1048576: true; the input reads as it did. -/
def parkFuelUptoRow : OpenClaim := { program := "ytipaaapbapijhaa", sum := "3156d5afdad10e39e41bfb999a0634d86d8281452481ce76088396e16dd10fc6", func := "confidant/confidantlaw20.ParkFuel", spec := "parkFuel", unfollowed := true, recurses := true, apart := false, narrowed := true }
def ParkFuelUptoSaid : Prop := parkFuelUptoRow.holds Try.pinned (OpenSpec.upto parkFuelSpec)

/-- 'confidantlaw20.ParkPlays', WHERE WHAT IT READS IS OF BULK AT MOST 1048576: true; the input reads as it did. -/
def parkPlaysUptoRow : OpenClaim := { program := "ytipaaapbapijhaa", sum := "3156d5afdad10e39e41bfb999a0634d86d8281452481ce76088396e16dd10fc6", func := "confidant/confidantlaw20.ParkPlays", spec := "parkPlays", unfollowed := true, recurses := true, apart := false, narrowed := true }
def ParkPlaysUptoSaid : Prop := parkPlaysUptoRow.holds Try.pinned (OpenSpec.upto parkPlaysSpec)

/-- 'confidantlaw20.ParkStays', WHERE WHAT IT READS IS OF BULK AT MOST 1048576: true; the input reads as it did. -/
def parkStaysUptoRow : OpenClaim := { program := "ytipaaapbapijhaa", sum := "3156d5afdad10e39e41bfb999a0634d86d8281452481ce76088396e16dd10fc6", func := "confidant/confidantlaw20.ParkStays", spec := "parkStays", unfollowed := true, recurses := true, apart := false, narrowed := true }
def ParkStaysUptoSaid : Prop := parkStaysUptoRow.holds Try.pinned (OpenSpec.upto parkStaysSpec)

/-- 'confidantlaw22.AuditTells', WHERE WHAT IT READS IS OF BULK AT MOST 1048576: true; the input reads as it did. -/
def auditTellsUptoRow : OpenClaim := { program := "ytipaaapbapijhaa", sum := "3156d5afdad10e39e41bfb999a0634d86d8281452481ce76088396e16dd10fc6", func := "confidant/confidantlaw22.AuditTells", spec := "auditTells", unfollowed := true, recurses := true, apart := false, narrowed := true }
def AuditTellsUptoSaid : Prop := auditTellsUptoRow.holds Try.pinned (OpenSpec.upto auditTellsSpec)

/-- 'confidantlaw22.AuditReads', WHERE WHAT IT READS IS OF BULK AT MOST 1048576: true; the input reads as it did. -/
def auditReadsUptoRow : OpenClaim := { program := "ytipaaapbapijhaa", sum := "3156d5afdad10e39e41bfb999a0634d86d8281452481ce76088396e16dd10fc6", func := "confidant/confidantlaw22.AuditReads", spec := "auditReads", unfollowed := true, recurses := true, apart := false, narrowed := true }
def AuditReadsUptoSaid : Prop := auditReadsUptoRow.holds Try.pinned (OpenSpec.upto auditReadsSpec)

/-- 'confidantlaw22.AuditParts', WHERE WHAT IT READS IS OF BULK AT MOST 1048576: true; the input reads as it did. -/
def auditPartsUptoRow : OpenClaim := { program := "ytipaaapbapijhaa", sum := "3156d5afdad10e39e41bfb999a0634d86d8281452481ce76088396e16dd10fc6", func := "confidant/confidantlaw22.AuditParts", spec := "auditParts", unfollowed := true, recurses := true, apart := false, narrowed := true }
def AuditPartsUptoSaid : Prop := auditPartsUptoRow.holds Try.pinned (OpenSpec.upto auditPartsSpec)

end Rows
end Go.Proofs.Ytipaaapbapijhaa
