/-
  No cell of these rows narrows 'for every input' (looked for: loops, veiled, ifaces, maps, wideKeys, modest, calm, conditions, laid).
  DERIVED. THE GIVEN ROWS OF THIS SEAT. 12 by the template 'for every input the law returns true; each argument reads behind the call as it read before'; 0 by the template 'total and deterministic' (their statements: YtjfnejcanlkknaaTotals.lean).
  GIVEN WITH THE SEED: the statements are not yours to turn. If you find one false, say at which input.
  Laid BY PROGRAM, IN A SANDBOX (cutbox-rows.mjs): the forced cells as the released guide's own fill.sh prints them over the translation 8a075e966d6bc456… (all of the seat's roots in one cut). By AI agents, Wed Nov 11 2026. No macro, syntax, notation, axiom, sorry.
-/
import Derived.Test.YtjfnejcanlkknaaChecked
import GoSem.Claim
import GoSem.ClaimJoined
import GoSem.ClaimMapViews
import Derived.JoinedTies
import Derived.KernelRfl
namespace Go.Proofs.Ytjfnejcanlkknaa
/- THE CELL 'sum', in the pinned program and in every row, IS THE sha256 OF THE DUMP (.gsa) THAT YtjfnejcanlkknaaProg.lean LOADS. Nothing in Lean hashes anything: it is a label: what it is worth is what the hold of that sum in a sandbox is worth. -/
noncomputable def Try.pinned : Pinned := { name := "ytjfnejcanlkknaa", sum := "8a075e966d6bc456b5ad1b22b0693cfec1592db3542b85cd8fd1d0355b289a54", checked := Try.checked }
namespace Rows
def none {H : Type} : Left H := { results := [], args := [] }

/-- 'confidantlaw15.RingPlays': WHATEVER THE INPUT: true; the input reads as it did. -/
def ringPlaysSpec : ChangeSpec := { name := "ringPlays", fn := fun _ => fun
  | [d1, d2] => { results := [.lit (.bool true)], args := [d1, d2] }
  | _ => none }
def ringPlaysRow : OpenClaim := { program := "ytjfnejcanlkknaa", sum := "8a075e966d6bc456b5ad1b22b0693cfec1592db3542b85cd8fd1d0355b289a54", func := "confidant/confidantlaw15.RingPlays", spec := "ringPlays", unfollowed := true, recurses := true, apart := false }
def RingPlaysSaid : Prop := ringPlaysRow.holds Try.pinned (OpenSpec.ofChange ringPlaysSpec)

/-- ITS FALSE NEIGHBOUR: 'it returns false'. Refute it at one input. -/
def ringPlaysWrong : ChangeSpec := { name := "ringPlays", fn := fun _ => fun
  | [d1, d2] => { results := [.lit (.bool false)], args := [d1, d2] }
  | _ => none }
def RingPlaysWrongFalsely : Prop := ringPlaysRow.holds Try.pinned (OpenSpec.ofChange ringPlaysWrong)

/-- 'confidantlaw15.RingEnds': WHATEVER THE INPUT: true; the input reads as it did. -/
def ringEndsSpec : ChangeSpec := { name := "ringEnds", fn := fun _ => fun
  | [d1, d2] => { results := [.lit (.bool true)], args := [d1, d2] }
  | _ => none }
def ringEndsRow : OpenClaim := { program := "ytjfnejcanlkknaa", sum := "8a075e966d6bc456b5ad1b22b0693cfec1592db3542b85cd8fd1d0355b289a54", func := "confidant/confidantlaw15.RingEnds", spec := "ringEnds", unfollowed := true, recurses := true, apart := false }
def RingEndsSaid : Prop := ringEndsRow.holds Try.pinned (OpenSpec.ofChange ringEndsSpec)

/-- ITS FALSE NEIGHBOUR: 'it returns false'. Refute it at one input. -/
def ringEndsWrong : ChangeSpec := { name := "ringEnds", fn := fun _ => fun
  | [d1, d2] => { results := [.lit (.bool false)], args := [d1, d2] }
  | _ => none }
def RingEndsWrongFalsely : Prop := ringEndsRow.holds Try.pinned (OpenSpec.ofChange ringEndsWrong)

/-- 'confidantlaw15.RingRooms': WHATEVER THE INPUT: true; the input reads as it did. -/
def ringRoomsSpec : ChangeSpec := { name := "ringRooms", fn := fun _ => fun
  | [d1, d2] => { results := [.lit (.bool true)], args := [d1, d2] }
  | _ => none }
def ringRoomsRow : OpenClaim := { program := "ytjfnejcanlkknaa", sum := "8a075e966d6bc456b5ad1b22b0693cfec1592db3542b85cd8fd1d0355b289a54", func := "confidant/confidantlaw15.RingRooms", spec := "ringRooms", unfollowed := true, recurses := true, apart := false }
def RingRoomsSaid : Prop := ringRoomsRow.holds Try.pinned (OpenSpec.ofChange ringRoomsSpec)

/-- ITS FALSE NEIGHBOUR: 'it returns false'. Refute it at one input. -/
def ringRoomsWrong : ChangeSpec := { name := "ringRooms", fn := fun _ => fun
  | [d1, d2] => { results := [.lit (.bool false)], args := [d1, d2] }
  | _ => none }
def RingRoomsWrongFalsely : Prop := ringRoomsRow.holds Try.pinned (OpenSpec.ofChange ringRoomsWrong)

/-- 'confidantlaw15.RingHalves': WHATEVER THE INPUT: true; the input reads as it did. -/
def ringHalvesSpec : ChangeSpec := { name := "ringHalves", fn := fun _ => fun
  | [d] => { results := [.lit (.bool true)], args := [d] }
  | _ => none }
def ringHalvesRow : OpenClaim := { program := "ytjfnejcanlkknaa", sum := "8a075e966d6bc456b5ad1b22b0693cfec1592db3542b85cd8fd1d0355b289a54", func := "confidant/confidantlaw15.RingHalves", spec := "ringHalves", unfollowed := true, recurses := true, apart := false }
def RingHalvesSaid : Prop := ringHalvesRow.holds Try.pinned (OpenSpec.ofChange ringHalvesSpec)

/-- ITS FALSE NEIGHBOUR: 'it returns false'. Refute it at one input. -/
def ringHalvesWrong : ChangeSpec := { name := "ringHalves", fn := fun _ => fun
  | [d] => { results := [.lit (.bool false)], args := [d] }
  | _ => none }
def RingHalvesWrongFalsely : Prop := ringHalvesRow.holds Try.pinned (OpenSpec.ofChange ringHalvesWrong)

/-- 'confidantlaw18.TableTells': WHATEVER THE INPUT: true; the input reads as it did. -/
def tableTellsSpec : ChangeSpec := { name := "tableTells", fn := fun _ => fun
  | [d1, d2, d3, d4, d5, d6, d7] => { results := [.lit (.bool true)], args := [d1, d2, d3, d4, d5, d6, d7] }
  | _ => none }
def tableTellsRow : OpenClaim := { program := "ytjfnejcanlkknaa", sum := "8a075e966d6bc456b5ad1b22b0693cfec1592db3542b85cd8fd1d0355b289a54", func := "confidant/confidantlaw18.TableTells", spec := "tableTells", unfollowed := true, recurses := true, apart := false }
def TableTellsSaid : Prop := tableTellsRow.holds Try.pinned (OpenSpec.ofChange tableTellsSpec)

/-- ITS FALSE NEIGHBOUR: 'it returns false'. Refute it at one input. -/
def tableTellsWrong : ChangeSpec := { name := "tableTells", fn := fun _ => fun
  | [d1, d2, d3, d4, d5, d6, d7] => { results := [.lit (.bool false)], args := [d1, d2, d3, d4, d5, d6, d7] }
  | _ => none }
def TableTellsWrongFalsely : Prop := tableTellsRow.holds Try.pinned (OpenSpec.ofChange tableTellsWrong)

/-- 'confidantlaw18.TableShares': WHATEVER THE INPUT: true; the input reads as it did. -/
def tableSharesSpec : ChangeSpec := { name := "tableShares", fn := fun _ => fun
  | [d1, d2, d3, d4] => { results := [.lit (.bool true)], args := [d1, d2, d3, d4] }
  | _ => none }
def tableSharesRow : OpenClaim := { program := "ytjfnejcanlkknaa", sum := "8a075e966d6bc456b5ad1b22b0693cfec1592db3542b85cd8fd1d0355b289a54", func := "confidant/confidantlaw18.TableShares", spec := "tableShares", unfollowed := true, recurses := true, apart := false }
def TableSharesSaid : Prop := tableSharesRow.holds Try.pinned (OpenSpec.ofChange tableSharesSpec)

/-- ITS FALSE NEIGHBOUR: 'it returns false'. Refute it at one input. -/
def tableSharesWrong : ChangeSpec := { name := "tableShares", fn := fun _ => fun
  | [d1, d2, d3, d4] => { results := [.lit (.bool false)], args := [d1, d2, d3, d4] }
  | _ => none }
def TableSharesWrongFalsely : Prop := tableSharesRow.holds Try.pinned (OpenSpec.ofChange tableSharesWrong)

/-- 'confidantlaw18.TableTurns': WHATEVER THE INPUT: true; the input reads as it did. -/
def tableTurnsSpec : ChangeSpec := { name := "tableTurns", fn := fun _ => fun
  | [d1, d2, d3] => { results := [.lit (.bool true)], args := [d1, d2, d3] }
  | _ => none }
def tableTurnsRow : OpenClaim := { program := "ytjfnejcanlkknaa", sum := "8a075e966d6bc456b5ad1b22b0693cfec1592db3542b85cd8fd1d0355b289a54", func := "confidant/confidantlaw18.TableTurns", spec := "tableTurns", unfollowed := true, recurses := true, apart := false }
def TableTurnsSaid : Prop := tableTurnsRow.holds Try.pinned (OpenSpec.ofChange tableTurnsSpec)

/-- ITS FALSE NEIGHBOUR: 'it returns false'. Refute it at one input. -/
def tableTurnsWrong : ChangeSpec := { name := "tableTurns", fn := fun _ => fun
  | [d1, d2, d3] => { results := [.lit (.bool false)], args := [d1, d2, d3] }
  | _ => none }
def TableTurnsWrongFalsely : Prop := tableTurnsRow.holds Try.pinned (OpenSpec.ofChange tableTurnsWrong)

/-- 'confidantlaw18.TableNext': WHATEVER THE INPUT: true; the input reads as it did. -/
def tableNextSpec : ChangeSpec := { name := "tableNext", fn := fun _ => fun
  | [d1, d2, d3] => { results := [.lit (.bool true)], args := [d1, d2, d3] }
  | _ => none }
def tableNextRow : OpenClaim := { program := "ytjfnejcanlkknaa", sum := "8a075e966d6bc456b5ad1b22b0693cfec1592db3542b85cd8fd1d0355b289a54", func := "confidant/confidantlaw18.TableNext", spec := "tableNext", unfollowed := true, recurses := true, apart := false }
def TableNextSaid : Prop := tableNextRow.holds Try.pinned (OpenSpec.ofChange tableNextSpec)

/-- ITS FALSE NEIGHBOUR: 'it returns false'. Refute it at one input. -/
def tableNextWrong : ChangeSpec := { name := "tableNext", fn := fun _ => fun
  | [d1, d2, d3] => { results := [.lit (.bool false)], args := [d1, d2, d3] }
  | _ => none }
def TableNextWrongFalsely : Prop := tableNextRow.holds Try.pinned (OpenSpec.ofChange tableNextWrong)

/-- 'confidantlaw13.FuturePlays': WHATEVER THE INPUT: true; the input reads as it did. -/
def futurePlaysSpec : ChangeSpec := { name := "futurePlays", fn := fun _ => fun
  | [d1, d2] => { results := [.lit (.bool true)], args := [d1, d2] }
  | _ => none }
def futurePlaysRow : OpenClaim := { program := "ytjfnejcanlkknaa", sum := "8a075e966d6bc456b5ad1b22b0693cfec1592db3542b85cd8fd1d0355b289a54", func := "confidant/confidantlaw13.FuturePlays", spec := "futurePlays", unfollowed := true, recurses := true, apart := false }
def FuturePlaysSaid : Prop := futurePlaysRow.holds Try.pinned (OpenSpec.ofChange futurePlaysSpec)

/-- ITS FALSE NEIGHBOUR: 'it returns false'. Refute it at one input. -/
def futurePlaysWrong : ChangeSpec := { name := "futurePlays", fn := fun _ => fun
  | [d1, d2] => { results := [.lit (.bool false)], args := [d1, d2] }
  | _ => none }
def FuturePlaysWrongFalsely : Prop := futurePlaysRow.holds Try.pinned (OpenSpec.ofChange futurePlaysWrong)

/-- 'confidantlaw13.FutureOnce': WHATEVER THE INPUT: true; the input reads as it did. -/
def futureOnceSpec : ChangeSpec := { name := "futureOnce", fn := fun _ => fun
  | [d1, d2] => { results := [.lit (.bool true)], args := [d1, d2] }
  | _ => none }
def futureOnceRow : OpenClaim := { program := "ytjfnejcanlkknaa", sum := "8a075e966d6bc456b5ad1b22b0693cfec1592db3542b85cd8fd1d0355b289a54", func := "confidant/confidantlaw13.FutureOnce", spec := "futureOnce", unfollowed := true, recurses := true, apart := false }
def FutureOnceSaid : Prop := futureOnceRow.holds Try.pinned (OpenSpec.ofChange futureOnceSpec)

/-- ITS FALSE NEIGHBOUR: 'it returns false'. Refute it at one input. -/
def futureOnceWrong : ChangeSpec := { name := "futureOnce", fn := fun _ => fun
  | [d1, d2] => { results := [.lit (.bool false)], args := [d1, d2] }
  | _ => none }
def FutureOnceWrongFalsely : Prop := futureOnceRow.holds Try.pinned (OpenSpec.ofChange futureOnceWrong)

/-- 'confidantlaw13.FutureQuotas': WHATEVER THE INPUT: true; the input reads as it did. -/
def futureQuotasSpec : ChangeSpec := { name := "futureQuotas", fn := fun _ => fun
  | [d1, d2] => { results := [.lit (.bool true)], args := [d1, d2] }
  | _ => none }
def futureQuotasRow : OpenClaim := { program := "ytjfnejcanlkknaa", sum := "8a075e966d6bc456b5ad1b22b0693cfec1592db3542b85cd8fd1d0355b289a54", func := "confidant/confidantlaw13.FutureQuotas", spec := "futureQuotas", unfollowed := true, recurses := true, apart := false }
def FutureQuotasSaid : Prop := futureQuotasRow.holds Try.pinned (OpenSpec.ofChange futureQuotasSpec)

/-- ITS FALSE NEIGHBOUR: 'it returns false'. Refute it at one input. -/
def futureQuotasWrong : ChangeSpec := { name := "futureQuotas", fn := fun _ => fun
  | [d1, d2] => { results := [.lit (.bool false)], args := [d1, d2] }
  | _ => none }
def FutureQuotasWrongFalsely : Prop := futureQuotasRow.holds Try.pinned (OpenSpec.ofChange futureQuotasWrong)

/-- 'confidantlaw13.FutureApart': WHATEVER THE INPUT: true; the input reads as it did. -/
def futureApartSpec : ChangeSpec := { name := "futureApart", fn := fun _ => fun
  | [d1, d2] => { results := [.lit (.bool true)], args := [d1, d2] }
  | _ => none }
def futureApartRow : OpenClaim := { program := "ytjfnejcanlkknaa", sum := "8a075e966d6bc456b5ad1b22b0693cfec1592db3542b85cd8fd1d0355b289a54", func := "confidant/confidantlaw13.FutureApart", spec := "futureApart", unfollowed := true, recurses := true, apart := false }
def FutureApartSaid : Prop := futureApartRow.holds Try.pinned (OpenSpec.ofChange futureApartSpec)

/-- ITS FALSE NEIGHBOUR: 'it returns false'. Refute it at one input. -/
def futureApartWrong : ChangeSpec := { name := "futureApart", fn := fun _ => fun
  | [d1, d2] => { results := [.lit (.bool false)], args := [d1, d2] }
  | _ => none }
def FutureApartWrongFalsely : Prop := futureApartRow.holds Try.pinned (OpenSpec.ofChange futureApartWrong)

/- THE SECOND FORM. 'bulk': how many values and letters a reading holds, each counted each time it is reached (what is shared counts as often as it is met; a slice's spare places count too). A statement '..UptoSaid' is the law's where the arguments, and the package variables that the reading takes, are together of bulk at most 1048576: NARROWER than '..Said'. Prove '..Said' where nothing that the law and all that it calls make is longer than what came in: it says more and counts as full. Else prove '..UptoSaid'. A law counts once. -/
mutual
def uptoBulk {H : Type} : DataW H → Nat
  | .lit (.string bytes) => bytes.length + 1
  | .lit _ => 1
  | .nil => 1
  | .ptr d => uptoBulk d + 1
  | .slice elems spare => uptoBulkAll elems + uptoBulkAll spare + 1
  | .agg parts => uptoBulkAll parts + 1
  | .iface _ d => uptoBulk d + 1
  | .map entries => uptoBulkEntries entries + 1
  | .held _ => 1
def uptoBulkAll {H : Type} : List (DataW H) → Nat
  | [] => 0
  | d :: r => uptoBulk d + uptoBulkAll r
def uptoBulkEntries {H : Type} : List (Lit × DataW H) → Nat
  | [] => 0
  | x :: r => uptoBulkEntry x + uptoBulkEntries r
def uptoBulkEntry {H : Type} : Lit × DataW H → Nat
  | (.string bytes, d) => bytes.length + uptoBulk d + 1
  | (_, d) => uptoBulk d + 1
 end
def uptoSmall : (H : Type) → List (DataW H) → Bool := fun _ ds => decide (uptoBulkAll ds ≤ 1048576)
def OpenSpec.upto (s : _root_.Go.ChangeSpec) : _root_.Go.OpenSpec := { _root_.Go.OpenSpec.ofChange s with cond := some uptoSmall }

/-- 'confidantlaw15.RingPlays', WHERE WHAT IT READS IS OF BULK AT MOST 1048576: true; the input reads as it did. -/
def ringPlaysUptoRow : OpenClaim := { program := "ytjfnejcanlkknaa", sum := "8a075e966d6bc456b5ad1b22b0693cfec1592db3542b85cd8fd1d0355b289a54", func := "confidant/confidantlaw15.RingPlays", spec := "ringPlays", unfollowed := true, recurses := true, apart := false, narrowed := true }
def RingPlaysUptoSaid : Prop := ringPlaysUptoRow.holds Try.pinned (OpenSpec.upto ringPlaysSpec)

/-- 'confidantlaw15.RingEnds', WHERE WHAT IT READS IS OF BULK AT MOST 1048576: true; the input reads as it did. -/
def ringEndsUptoRow : OpenClaim := { program := "ytjfnejcanlkknaa", sum := "8a075e966d6bc456b5ad1b22b0693cfec1592db3542b85cd8fd1d0355b289a54", func := "confidant/confidantlaw15.RingEnds", spec := "ringEnds", unfollowed := true, recurses := true, apart := false, narrowed := true }
def RingEndsUptoSaid : Prop := ringEndsUptoRow.holds Try.pinned (OpenSpec.upto ringEndsSpec)

/-- 'confidantlaw15.RingRooms', WHERE WHAT IT READS IS OF BULK AT MOST 1048576: true; the input reads as it did. -/
def ringRoomsUptoRow : OpenClaim := { program := "ytjfnejcanlkknaa", sum := "8a075e966d6bc456b5ad1b22b0693cfec1592db3542b85cd8fd1d0355b289a54", func := "confidant/confidantlaw15.RingRooms", spec := "ringRooms", unfollowed := true, recurses := true, apart := false, narrowed := true }
def RingRoomsUptoSaid : Prop := ringRoomsUptoRow.holds Try.pinned (OpenSpec.upto ringRoomsSpec)

/-- 'confidantlaw15.RingHalves', WHERE WHAT IT READS IS OF BULK AT MOST 1048576: true; the input reads as it did. -/
def ringHalvesUptoRow : OpenClaim := { program := "ytjfnejcanlkknaa", sum := "8a075e966d6bc456b5ad1b22b0693cfec1592db3542b85cd8fd1d0355b289a54", func := "confidant/confidantlaw15.RingHalves", spec := "ringHalves", unfollowed := true, recurses := true, apart := false, narrowed := true }
def RingHalvesUptoSaid : Prop := ringHalvesUptoRow.holds Try.pinned (OpenSpec.upto ringHalvesSpec)

/-- 'confidantlaw18.TableTells', WHERE WHAT IT READS IS OF BULK AT MOST 1048576: true; the input reads as it did. -/
def tableTellsUptoRow : OpenClaim := { program := "ytjfnejcanlkknaa", sum := "8a075e966d6bc456b5ad1b22b0693cfec1592db3542b85cd8fd1d0355b289a54", func := "confidant/confidantlaw18.TableTells", spec := "tableTells", unfollowed := true, recurses := true, apart := false, narrowed := true }
def TableTellsUptoSaid : Prop := tableTellsUptoRow.holds Try.pinned (OpenSpec.upto tableTellsSpec)

/-- 'confidantlaw18.TableShares', WHERE WHAT IT READS IS OF BULK AT MOST 1048576: true; the input reads as it did. -/
def tableSharesUptoRow : OpenClaim := { program := "ytjfnejcanlkknaa", sum := "8a075e966d6bc456b5ad1b22b0693cfec1592db3542b85cd8fd1d0355b289a54", func := "confidant/confidantlaw18.TableShares", spec := "tableShares", unfollowed := true, recurses := true, apart := false, narrowed := true }
def TableSharesUptoSaid : Prop := tableSharesUptoRow.holds Try.pinned (OpenSpec.upto tableSharesSpec)

/-- 'confidantlaw18.TableTurns', WHERE WHAT IT READS IS OF BULK AT MOST 1048576: true; the input reads as it did. -/
def tableTurnsUptoRow : OpenClaim := { program := "ytjfnejcanlkknaa", sum := "8a075e966d6bc456b5ad1b22b0693cfec1592db3542b85cd8fd1d0355b289a54", func := "confidant/confidantlaw18.TableTurns", spec := "tableTurns", unfollowed := true, recurses := true, apart := false, narrowed := true }
def TableTurnsUptoSaid : Prop := tableTurnsUptoRow.holds Try.pinned (OpenSpec.upto tableTurnsSpec)

/-- 'confidantlaw18.TableNext', WHERE WHAT IT READS IS OF BULK AT MOST 1048576: true; the input reads as it did. -/
def tableNextUptoRow : OpenClaim := { program := "ytjfnejcanlkknaa", sum := "8a075e966d6bc456b5ad1b22b0693cfec1592db3542b85cd8fd1d0355b289a54", func := "confidant/confidantlaw18.TableNext", spec := "tableNext", unfollowed := true, recurses := true, apart := false, narrowed := true }
def TableNextUptoSaid : Prop := tableNextUptoRow.holds Try.pinned (OpenSpec.upto tableNextSpec)

/-- 'confidantlaw13.FuturePlays', WHERE WHAT IT READS IS OF BULK AT MOST 1048576: true; the input reads as it did. -/
def futurePlaysUptoRow : OpenClaim := { program := "ytjfnejcanlkknaa", sum := "8a075e966d6bc456b5ad1b22b0693cfec1592db3542b85cd8fd1d0355b289a54", func := "confidant/confidantlaw13.FuturePlays", spec := "futurePlays", unfollowed := true, recurses := true, apart := false, narrowed := true }
def FuturePlaysUptoSaid : Prop := futurePlaysUptoRow.holds Try.pinned (OpenSpec.upto futurePlaysSpec)

/-- 'confidantlaw13.FutureOnce', WHERE WHAT IT READS IS OF BULK AT MOST 1048576: true; the input reads as it did. -/
def futureOnceUptoRow : OpenClaim := { program := "ytjfnejcanlkknaa", sum := "8a075e966d6bc456b5ad1b22b0693cfec1592db3542b85cd8fd1d0355b289a54", func := "confidant/confidantlaw13.FutureOnce", spec := "futureOnce", unfollowed := true, recurses := true, apart := false, narrowed := true }
def FutureOnceUptoSaid : Prop := futureOnceUptoRow.holds Try.pinned (OpenSpec.upto futureOnceSpec)

/-- 'confidantlaw13.FutureQuotas', WHERE WHAT IT READS IS OF BULK AT MOST 1048576: true; the input reads as it did. -/
def futureQuotasUptoRow : OpenClaim := { program := "ytjfnejcanlkknaa", sum := "8a075e966d6bc456b5ad1b22b0693cfec1592db3542b85cd8fd1d0355b289a54", func := "confidant/confidantlaw13.FutureQuotas", spec := "futureQuotas", unfollowed := true, recurses := true, apart := false, narrowed := true }
def FutureQuotasUptoSaid : Prop := futureQuotasUptoRow.holds Try.pinned (OpenSpec.upto futureQuotasSpec)

/-- 'confidantlaw13.FutureApart', WHERE WHAT IT READS IS OF BULK AT MOST 1048576: true; the input reads as it did. -/
def futureApartUptoRow : OpenClaim := { program := "ytjfnejcanlkknaa", sum := "8a075e966d6bc456b5ad1b22b0693cfec1592db3542b85cd8fd1d0355b289a54", func := "confidant/confidantlaw13.FutureApart", spec := "futureApart", unfollowed := true, recurses := true, apart := false, narrowed := true }
def FutureApartUptoSaid : Prop := futureApartUptoRow.holds Try.pinned (OpenSpec.upto futureApartSpec)

end Rows
end Go.Proofs.Ytjfnejcanlkknaa
