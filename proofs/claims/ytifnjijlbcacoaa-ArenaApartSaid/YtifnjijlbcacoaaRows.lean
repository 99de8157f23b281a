/-
  No cell of these rows narrows 'for every input' (looked for: loops, veiled, ifaces, maps, wideKeys, modest, calm, conditions, laid).
  DERIVED. THE GIVEN ROWS OF THIS SEAT. 10 by the template 'for every input the law returns true; each argument reads behind the call as it read before'; 0 by the template 'total and deterministic' (their statements: YtifnjijlbcacoaaTotals.lean).
  GIVEN WITH THE SEED: the statements are not yours to turn. If you find one false, say at which input.
  Laid BY PROGRAM, IN A SANDBOX (cutbox-rows.mjs): the forced cells as the released guide's own fill.sh prints them over the translation 5825a5ec2f6f51ec… (all of the seat's roots in one cut). By AI agents, Wed Nov 11 2026. No macro, syntax, notation, axiom, sorry.
-/
import Derived.Test.YtifnjijlbcacoaaChecked
import GoSem.Claim
import GoSem.ClaimJoined
import GoSem.ClaimMapViews
import Derived.JoinedTies
import Derived.KernelRfl
namespace Go.Proofs.Ytifnjijlbcacoaa
/- THE CELL 'sum', in the pinned program and in every row, IS THE sha256 OF THE DUMP (.gsa) THAT YtifnjijlbcacoaaProg.lean LOADS. Nothing in Lean hashes anything: it is a label: what it is worth is what the hold of that sum in a sandbox is worth. -/
noncomputable def Try.pinned : Pinned := { name := "ytifnjijlbcacoaa", sum := "5825a5ec2f6f51ece6d64c11775ed9784fa1fe7bf576fbd6bf392d2dd214640a", checked := Try.checked }
namespace Rows
def none {H : Type} : Left H := { results := [], args := [] }

/-- 'confidantlaw17.PicksTell': WHATEVER THE INPUT: true; the input reads as it did. -/
def picksTellSpec : ChangeSpec := { name := "picksTell", fn := fun _ => fun
  | [d1, d2, d3] => { results := [.lit (.bool true)], args := [d1, d2, d3] }
  | _ => none }
def picksTellRow : OpenClaim := { program := "ytifnjijlbcacoaa", sum := "5825a5ec2f6f51ece6d64c11775ed9784fa1fe7bf576fbd6bf392d2dd214640a", func := "confidant/confidantlaw17.PicksTell", spec := "picksTell", unfollowed := true, recurses := true, apart := false }
def PicksTellSaid : Prop := picksTellRow.holds Try.pinned (OpenSpec.ofChange picksTellSpec)

/-- ITS FALSE NEIGHBOUR: 'it returns false'. Refute it at one input. -/
def picksTellWrong : ChangeSpec := { name := "picksTell", fn := fun _ => fun
  | [d1, d2, d3] => { results := [.lit (.bool false)], args := [d1, d2, d3] }
  | _ => none }
def PicksTellWrongFalsely : Prop := picksTellRow.holds Try.pinned (OpenSpec.ofChange picksTellWrong)

/-- 'confidantlaw17.PicksFirst': WHATEVER THE INPUT: true; the input reads as it did. -/
def picksFirstSpec : ChangeSpec := { name := "picksFirst", fn := fun _ => fun
  | [d1, d2, d3] => { results := [.lit (.bool true)], args := [d1, d2, d3] }
  | _ => none }
def picksFirstRow : OpenClaim := { program := "ytifnjijlbcacoaa", sum := "5825a5ec2f6f51ece6d64c11775ed9784fa1fe7bf576fbd6bf392d2dd214640a", func := "confidant/confidantlaw17.PicksFirst", spec := "picksFirst", unfollowed := true, recurses := true, apart := false }
def PicksFirstSaid : Prop := picksFirstRow.holds Try.pinned (OpenSpec.ofChange picksFirstSpec)

/-- ITS FALSE NEIGHBOUR: 'it returns false'. Refute it at one input. -/
def picksFirstWrong : ChangeSpec := { name := "picksFirst", fn := fun _ => fun
  | [d1, d2, d3] => { results := [.lit (.bool false)], args := [d1, d2, d3] }
  | _ => none }
def PicksFirstWrongFalsely : Prop := picksFirstRow.holds Try.pinned (OpenSpec.ofChange picksFirstWrong)

/-- 'confidantlaw1.PackReads': WHATEVER THE INPUT: true; the input reads as it did. -/
def packReadsSpec : ChangeSpec := { name := "packReads", fn := fun _ => fun
  | [d1, d2, d3, d4, d5] => { results := [.lit (.bool true)], args := [d1, d2, d3, d4, d5] }
  | _ => none }
def packReadsRow : OpenClaim := { program := "ytifnjijlbcacoaa", sum := "5825a5ec2f6f51ece6d64c11775ed9784fa1fe7bf576fbd6bf392d2dd214640a", func := "confidant/confidantlaw1.PackReads", spec := "packReads", apart := false }
def PackReadsSaid : Prop := packReadsRow.holds Try.pinned (OpenSpec.ofChange packReadsSpec)

/-- ITS FALSE NEIGHBOUR: 'it returns false'. Refute it at one input. -/
def packReadsWrong : ChangeSpec := { name := "packReads", fn := fun _ => fun
  | [d1, d2, d3, d4, d5] => { results := [.lit (.bool false)], args := [d1, d2, d3, d4, d5] }
  | _ => none }
def PackReadsWrongFalsely : Prop := packReadsRow.holds Try.pinned (OpenSpec.ofChange packReadsWrong)

/-- 'confidantlaw1.PackBack': WHATEVER THE INPUT: true; the input reads as it did. -/
def packBackSpec : ChangeSpec := { name := "packBack", fn := fun _ => fun
  | [d1, d2, d3] => { results := [.lit (.bool true)], args := [d1, d2, d3] }
  | _ => none }
def packBackRow : OpenClaim := { program := "ytifnjijlbcacoaa", sum := "5825a5ec2f6f51ece6d64c11775ed9784fa1fe7bf576fbd6bf392d2dd214640a", func := "confidant/confidantlaw1.PackBack", spec := "packBack", apart := false }
def PackBackSaid : Prop := packBackRow.holds Try.pinned (OpenSpec.ofChange packBackSpec)

/-- ITS FALSE NEIGHBOUR: 'it returns false'. Refute it at one input. -/
def packBackWrong : ChangeSpec := { name := "packBack", fn := fun _ => fun
  | [d1, d2, d3] => { results := [.lit (.bool false)], args := [d1, d2, d3] }
  | _ => none }
def PackBackWrongFalsely : Prop := packBackRow.holds Try.pinned (OpenSpec.ofChange packBackWrong)

/-- 'confidantlaw1.PackOrders': WHATEVER THE INPUT: true; the input reads as it did. -/
def packOrdersSpec : ChangeSpec := { name := "packOrders", fn := fun _ => fun
  | [d1, d2, d3, d4] => { results := [.lit (.bool true)], args := [d1, d2, d3, d4] }
  | _ => none }
def packOrdersRow : OpenClaim := { program := "ytifnjijlbcacoaa", sum := "5825a5ec2f6f51ece6d64c11775ed9784fa1fe7bf576fbd6bf392d2dd214640a", func := "confidant/confidantlaw1.PackOrders", spec := "packOrders", apart := false }
def PackOrdersSaid : Prop := packOrdersRow.holds Try.pinned (OpenSpec.ofChange packOrdersSpec)

/-- ITS FALSE NEIGHBOUR: 'it returns false'. Refute it at one input. -/
def packOrdersWrong : ChangeSpec := { name := "packOrders", fn := fun _ => fun
  | [d1, d2, d3, d4] => { results := [.lit (.bool false)], args := [d1, d2, d3, d4] }
  | _ => none }
def PackOrdersWrongFalsely : Prop := packOrdersRow.holds Try.pinned (OpenSpec.ofChange packOrdersWrong)

/-- 'confidantlaw1.PackShort': WHATEVER THE INPUT: true; the input reads as it did. -/
def packShortSpec : ChangeSpec := { name := "packShort", fn := fun _ => fun
  | [d1, d2, d3] => { results := [.lit (.bool true)], args := [d1, d2, d3] }
  | _ => none }
def packShortRow : OpenClaim := { program := "ytifnjijlbcacoaa", sum := "5825a5ec2f6f51ece6d64c11775ed9784fa1fe7bf576fbd6bf392d2dd214640a", func := "confidant/confidantlaw1.PackShort", spec := "packShort", apart := false }
def PackShortSaid : Prop := packShortRow.holds Try.pinned (OpenSpec.ofChange packShortSpec)

/-- ITS FALSE NEIGHBOUR: 'it returns false'. Refute it at one input. -/
def packShortWrong : ChangeSpec := { name := "packShort", fn := fun _ => fun
  | [d1, d2, d3] => { results := [.lit (.bool false)], args := [d1, d2, d3] }
  | _ => none }
def PackShortWrongFalsely : Prop := packShortRow.holds Try.pinned (OpenSpec.ofChange packShortWrong)

/-- 'confidantlaw12.ArenaPlays': WHATEVER THE INPUT: true; the input reads as it did. -/
def arenaPlaysSpec : ChangeSpec := { name := "arenaPlays", fn := fun _ => fun
  | [d1, d2] => { results := [.lit (.bool true)], args := [d1, d2] }
  | _ => none }
def arenaPlaysRow : OpenClaim := { program := "ytifnjijlbcacoaa", sum := "5825a5ec2f6f51ece6d64c11775ed9784fa1fe7bf576fbd6bf392d2dd214640a", func := "confidant/confidantlaw12.ArenaPlays", spec := "arenaPlays", unfollowed := true, recurses := true, apart := false }
def ArenaPlaysSaid : Prop := arenaPlaysRow.holds Try.pinned (OpenSpec.ofChange arenaPlaysSpec)

/-- ITS FALSE NEIGHBOUR: 'it returns false'. Refute it at one input. -/
def arenaPlaysWrong : ChangeSpec := { name := "arenaPlays", fn := fun _ => fun
  | [d1, d2] => { results := [.lit (.bool false)], args := [d1, d2] }
  | _ => none }
def ArenaPlaysWrongFalsely : Prop := arenaPlaysRow.holds Try.pinned (OpenSpec.ofChange arenaPlaysWrong)

/-- 'confidantlaw12.ArenaApart': WHATEVER THE INPUT: true; the input reads as it did. -/
def arenaApartSpec : ChangeSpec := { name := "arenaApart", fn := fun _ => fun
  | [d1, d2, d3, d4] => { results := [.lit (.bool true)], args := [d1, d2, d3, d4] }
  | _ => none }
def arenaApartRow : OpenClaim := { program := "ytifnjijlbcacoaa", sum := "5825a5ec2f6f51ece6d64c11775ed9784fa1fe7bf576fbd6bf392d2dd214640a", func := "confidant/confidantlaw12.ArenaApart", spec := "arenaApart", unfollowed := true, recurses := true, apart := false }
def ArenaApartSaid : Prop := arenaApartRow.holds Try.pinned (OpenSpec.ofChange arenaApartSpec)

/-- ITS FALSE NEIGHBOUR: 'it returns false'. Refute it at one input. -/
def arenaApartWrong : ChangeSpec := { name := "arenaApart", fn := fun _ => fun
  | [d1, d2, d3, d4] => { results := [.lit (.bool false)], args := [d1, d2, d3, d4] }
  | _ => none }
def ArenaApartWrongFalsely : Prop := arenaApartRow.holds Try.pinned (OpenSpec.ofChange arenaApartWrong)

/-- 'confidantlaw12.ArenaHolds': WHATEVER THE INPUT: true; the input reads as it did. -/
def arenaHoldsSpec : ChangeSpec := { name := "arenaHolds", fn := fun _ => fun
  | [d1, d2] => { results := [.lit (.bool true)], args := [d1, d2] }
  | _ => none }
def arenaHoldsRow : OpenClaim := { program := "ytifnjijlbcacoaa", sum := "5825a5ec2f6f51ece6d64c11775ed9784fa1fe7bf576fbd6bf392d2dd214640a", func := "confidant/confidantlaw12.ArenaHolds", spec := "arenaHolds", unfollowed := true, recurses := true, apart := false }
def ArenaHoldsSaid : Prop := arenaHoldsRow.holds Try.pinned (OpenSpec.ofChange arenaHoldsSpec)

/-- ITS FALSE NEIGHBOUR: 'it returns false'. Refute it at one input. -/
def arenaHoldsWrong : ChangeSpec := { name := "arenaHolds", fn := fun _ => fun
  | [d1, d2] => { results := [.lit (.bool false)], args := [d1, d2] }
  | _ => none }
def ArenaHoldsWrongFalsely : Prop := arenaHoldsRow.holds Try.pinned (OpenSpec.ofChange arenaHoldsWrong)

/-- 'confidantlaw12.ArenaNumbers': WHATEVER THE INPUT: true; the input reads as it did. -/
def arenaNumbersSpec : ChangeSpec := { name := "arenaNumbers", fn := fun _ => fun
  | [d] => { results := [.lit (.bool true)], args := [d] }
  | _ => none }
def arenaNumbersRow : OpenClaim := { program := "ytifnjijlbcacoaa", sum := "5825a5ec2f6f51ece6d64c11775ed9784fa1fe7bf576fbd6bf392d2dd214640a", func := "confidant/confidantlaw12.ArenaNumbers", spec := "arenaNumbers", unfollowed := true, recurses := true, apart := false }
def ArenaNumbersSaid : Prop := arenaNumbersRow.holds Try.pinned (OpenSpec.ofChange arenaNumbersSpec)

/-- ITS FALSE NEIGHBOUR: 'it returns false'. Refute it at one input. -/
def arenaNumbersWrong : ChangeSpec := { name := "arenaNumbers", fn := fun _ => fun
  | [d] => { results := [.lit (.bool false)], args := [d] }
  | _ => none }
def ArenaNumbersWrongFalsely : Prop := arenaNumbersRow.holds Try.pinned (OpenSpec.ofChange arenaNumbersWrong)

/- THE SECOND FORM. 'bulk': how many values and letters a reading holds, each counted each time it is reached (what is shared counts as often as it is met; a slice's spare places count too). A statement '..UptoSaid' is the law's where the arguments, and the package variables that the reading takes, are together of bulk at most 1048576: NARROWER than '..Said'. Prove '..Said' where nothing that the law and all that it calls make is longer than what came in: it says more and counts as full. Else prove '..UptoSaid'. A law counts once. -/
mutual
def uptoBulk {H : Type} : DataW H → Nat
  | .lit (.string bytes) => bytes.length + 1
  | .lit _ => 1
  | .nil => 1
  | .ptr d => uptoBulk d + 1
  | .slice elems spare => uptoBulkAll elems + uptoBulkAll spare + 1
  | .agg parts => uptoBulkAll parts + 1
  | .iface _ d => uptoBulk d + 1
  | .map entries => uptoBulkEntries entries + 1
  | .held _ => 1
def uptoBulkAll {H : Type} : List (DataW H) → Nat
  | [] => 0
  | d :: r => uptoBulk d + uptoBulkAll r
def uptoBulkEntries {H : Type} : List (Lit × DataW H) → Nat
  | [] => 0
  | x :: r => uptoBulkEntry x + uptoBulkEntries r
def uptoBulkEntry {H : Type} : Lit × DataW H → Nat
  | (.string bytes, d) => bytes.length + uptoBulk d + 1
  | (_, d) => uptoBulk d + 1
 end
def uptoSmall : (H : Type) → List (DataW H) → Bool := fun _ ds => decide (uptoBulkAll ds ≤ 1048576)
def OpenSpec.upto (s : _root_.Go.ChangeSpec) : _root_.Go.OpenSpec := { _root_.Go.OpenSpec.ofChange s with cond := some uptoSmall }

/-- 'confidantlaw17.PicksTell', WHERE WHAT IT READS IS OF BULK AT MOST 1048576: true; the input reads as it did. -/
def picksTellUptoRow : OpenClaim := { program := "ytifnjijlbcacoaa", sum := "5825a5ec2f6f51ece6d64c11775ed9784fa1fe7bf576fbd6bf392d2dd214640a", func := "confidant/confidantlaw17.PicksTell", spec := "picksTell", unfollowed := true, recurses := true, apart := false, narrowed := true }
def PicksTellUptoSaid : Prop := picksTellUptoRow.holds Try.pinned (OpenSpec.upto picksTellSpec)

/-- 'confidantlaw17.PicksFirst', WHERE WHAT IT READS IS OF BULK AT MOST 1048576: true; the input reads as it did. -/
def picksFirstUptoRow : OpenClaim := { program := "ytifnjijlbcacoaa", sum := "5825a5ec2f6f51ece6d64c11775ed9784fa1fe7bf576fbd6bf392d2dd214640a", func := "confidant/confidantlaw17.PicksFirst", spec := "picksFirst", unfollowed := true, recurses := true, apart := false, narrowed := true }
def PicksFirstUptoSaid : Prop := picksFirstUptoRow.holds Try.pinned (OpenSpec.upto picksFirstSpec)

/-- 'confidantlaw1.PackReads', WHERE WHAT IT READS IS OF BULK AT MOST 1048576: true; the input reads as it did. -/
def packReadsUptoRow : OpenClaim := { program := "ytifnjijlbcacoaa", sum := "5825a5ec2f6f51ece6d64c11775ed9784fa1fe7bf576fbd6bf392d2dd214640a", func := "confidant/confidantlaw1.PackReads", spec := "packReads", apart := false, narrowed := true }
def PackReadsUptoSaid : Prop := packReadsUptoRow.holds Try.pinned (OpenSpec.upto packReadsSpec)

/-- 'confidantlaw1.PackBack', WHERE WHAT IT READS IS OF BULK AT MOST 1048576: true; the input reads as it did. -/
def packBackUptoRow : OpenClaim := { program := "ytifnjijlbcacoaa", sum := "5825a5ec2f6f51ece6d64c11775ed9784fa1fe7bf576fbd6bf392d2dd214640a", func := "confidant/confidantlaw1.PackBack", spec := "packBack", apart := false, narrowed := true }
def PackBackUptoSaid : Prop := packBackUptoRow.holds Try.pinned (OpenSpec.upto packBackSpec)

/-- 'confidantlaw1.PackOrders', WHERE WHAT IT READS IS OF BULK AT MOST 1048576: true; the input reads as it did. -/
def packOrdersUptoRow : OpenClaim := { program := "ytifnjijlbcacoaa", sum := "5825a5ec2f6f51ece6d64c11775ed9784fa1fe7bf576fbd6bf392d2dd214640a", func := "confidant/confidantlaw1.PackOrders", spec := "packOrders", apart := false, narrowed := true }
def PackOrdersUptoSaid : Prop := packOrdersUptoRow.holds Try.pinned (OpenSpec.upto packOrdersSpec)

/-- 'confidantlaw1.PackShort', WHERE WHAT IT READS IS OF BULK AT MOST 1048576: true; the input reads as it did. -/
def packShortUptoRow : OpenClaim := { program := "ytifnjijlbcacoaa", sum := "5825a5ec2f6f51ece6d64c11775ed9784fa1fe7bf576fbd6bf392d2dd214640a", func := "confidant/confidantlaw1.PackShort", spec := "packShort", apart := false, narrowed := true }
def PackShortUptoSaid : Prop := packShortUptoRow.holds Try.pinned (OpenSpec.upto packShortSpec)

/-- 'confidantlaw12.ArenaPlays', WHERE WHAT IT READS IS OF BULK AT MOST 1048576: true; the input reads as it did. -/
def arenaPlaysUptoRow : OpenClaim := { program := "ytifnjijlbcacoaa", sum := "5825a5ec2f6f51ece6d64c11775ed9784fa1fe7bf576fbd6bf392d2dd214640a", func := "confidant/confidantlaw12.ArenaPlays", spec := "arenaPlays", unfollowed := true, recurses := true, apart := false, narrowed := true }
def ArenaPlaysUptoSaid : Prop := arenaPlaysUptoRow.holds Try.pinned (OpenSpec.upto arenaPlaysSpec)

/-- 'confidantlaw12.ArenaApart', WHERE WHAT IT READS IS OF BULK AT MOST 1048576: true; the input reads as it did. -/
def arenaApartUptoRow : OpenClaim := { program := "ytifnjijlbcacoaa", sum := "5825a5ec2f6f51ece6d64c11775ed9784fa1fe7bf576fbd6bf392d2dd214640a", func := "confidant/confidantlaw12.ArenaApart", spec := "arenaApart", unfollowed := true, recurses := true, apart := false, narrowed := true }
def ArenaApartUptoSaid : Prop := arenaApartUptoRow.holds Try.pinned (OpenSpec.upto arenaApartSpec)

/-- 'confidantlaw12.ArenaHolds', WHERE WHAT IT READS IS OF BULK AT MOST 1048576: true; the input reads as it did. -/
def arenaHoldsUptoRow : OpenClaim := { program := "ytifnjijlbcacoaa", sum := "5825a5ec2f6f51ece6d64c11775ed9784fa1fe7bf576fbd6bf392d2dd214640a", func := "confidant/confidantlaw12.ArenaHolds", spec := "arenaHolds", unfollowed := true, recurses := true, apart := false, narrowed := true }
def ArenaHoldsUptoSaid : Prop := arenaHoldsUptoRow.holds Try.pinned (OpenSpec.upto arenaHoldsSpec)

/-- 'confidantlaw12.ArenaNumbers', WHERE WHAT IT READS IS OF BULK AT MOST 1048576: true; the input reads as it did. -/
def arenaNumbersUptoRow : OpenClaim := { program := "ytifnjijlbcacoaa", sum := "5825a5ec2f6f51ece6d64c11775ed9784fa1fe7bf576fbd6bf392d2dd214640a", func := "confidant/confidantlaw12.ArenaNumbers", spec := "arenaNumbers", unfollowed := true, recurses := true, apart := false, narrowed := true }
def ArenaNumbersUptoSaid : Prop := arenaNumbersUptoRow.holds Try.pinned (OpenSpec.upto arenaNumbersSpec)

end Rows
end Go.Proofs.Ytifnjijlbcacoaa
