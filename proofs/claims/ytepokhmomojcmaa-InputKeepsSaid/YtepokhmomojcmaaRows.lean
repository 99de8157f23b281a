/-
  No cell of these rows narrows 'for every input' (looked for: loops, veiled, ifaces, maps, wideKeys, modest, calm, conditions, laid).
  DERIVED. THE GIVEN ROWS OF THIS SEAT. 11 by the template 'for every input the law returns true; each argument reads behind the call as it read before'; 0 by the template 'total and deterministic' (their statements: YtepokhmomojcmaaTotals.lean).
  GIVEN WITH THE SEED: the statements are not yours to turn. If you find one false, say at which input.
  Laid BY PROGRAM, IN A SANDBOX (cutbox-rows.mjs): the forced cells as the released guide's own fill.sh prints them over the translation 0ed067eadc1e7479… (all of the seat's roots in one cut). By AI agents, Wed Nov 11 2026. No macro, syntax, notation, axiom, sorry.
-/
import Derived.Test.YtepokhmomojcmaaChecked
import GoSem.Claim
import GoSem.ClaimJoined
import GoSem.ClaimMapViews
import Derived.JoinedTies
import Derived.KernelRfl
namespace Go.Proofs.Ytepokhmomojcmaa
/- THE CELL 'sum', in the pinned program and in every row, IS THE sha256 OF THE DUMP (.gsa) THAT YtepokhmomojcmaaProg.lean LOADS. Nothing in Lean hashes anything: it is a label: what it is worth is what the hold of that sum in a sandbox is worth. -/
noncomputable def Try.pinned : Pinned := { name := "ytepokhmomojcmaa", sum := "0ed067eadc1e7479f0d05c43319dac4876dd524ba1dd642eeb74cd2ed3dbc7fb", checked := Try.checked }
namespace Rows
def none {H : Type} : Left H := { results := [], args := [] }

/-- 'confidantlaw16.RngTells': WHATEVER THE INPUT: true; the input reads as it did. -/
def rngTellsSpec : ChangeSpec := { name := "rngTells", fn := fun _ => fun
  | [d1, d2, d3] => { results := [.lit (.bool true)], args := [d1, d2, d3] }
  | _ => none }
def rngTellsRow : OpenClaim := { program := "ytepokhmomojcmaa", sum := "0ed067eadc1e7479f0d05c43319dac4876dd524ba1dd642eeb74cd2ed3dbc7fb", func := "confidant/confidantlaw16.RngTells", spec := "rngTells", apart := false }
def RngTellsSaid : Prop := rngTellsRow.holds Try.pinned (OpenSpec.ofChange rngTellsSpec)

/-- ITS FALSE NEIGHBOUR: 'it returns false'. Refute it at one input. -/
def rngTellsWrong : ChangeSpec := { name := "rngTells", fn := fun _ => fun
  | [d1, d2, d3] => { results := [.lit (.bool false)], args := [d1, d2, d3] }
  | _ => none }
def RngTellsWrongFalsely : Prop := rngTellsRow.holds Try.pinned (OpenSpec.ofChange rngTellsWrong)

/-- 'confidantlaw16.RngBack': WHATEVER THE INPUT: true; the input reads as it did. -/
def rngBackSpec : ChangeSpec := { name := "rngBack", fn := fun _ => fun
  | [d1, d2, d3] => { results := [.lit (.bool true)], args := [d1, d2, d3] }
  | _ => none }
def rngBackRow : OpenClaim := { program := "ytepokhmomojcmaa", sum := "0ed067eadc1e7479f0d05c43319dac4876dd524ba1dd642eeb74cd2ed3dbc7fb", func := "confidant/confidantlaw16.RngBack", spec := "rngBack", apart := false }
def RngBackSaid : Prop := rngBackRow.holds Try.pinned (OpenSpec.ofChange rngBackSpec)

/-- ITS FALSE NEIGHBOUR: 'it returns false'. Refute it at one input. -/
def rngBackWrong : ChangeSpec := { name := "rngBack", fn := fun _ => fun
  | [d1, d2, d3] => { results := [.lit (.bool false)], args := [d1, d2, d3] }
  | _ => none }
def RngBackWrongFalsely : Prop := rngBackRow.holds Try.pinned (OpenSpec.ofChange rngBackWrong)

/-- 'confidantlaw16.RngLong': WHATEVER THE INPUT: true; the input reads as it did. -/
def rngLongSpec : ChangeSpec := { name := "rngLong", fn := fun _ => fun
  | [d1, d2] => { results := [.lit (.bool true)], args := [d1, d2] }
  | _ => none }
def rngLongRow : OpenClaim := { program := "ytepokhmomojcmaa", sum := "0ed067eadc1e7479f0d05c43319dac4876dd524ba1dd642eeb74cd2ed3dbc7fb", func := "confidant/confidantlaw16.RngLong", spec := "rngLong", apart := false }
def RngLongSaid : Prop := rngLongRow.holds Try.pinned (OpenSpec.ofChange rngLongSpec)

/-- ITS FALSE NEIGHBOUR: 'it returns false'. Refute it at one input. -/
def rngLongWrong : ChangeSpec := { name := "rngLong", fn := fun _ => fun
  | [d1, d2] => { results := [.lit (.bool false)], args := [d1, d2] }
  | _ => none }
def RngLongWrongFalsely : Prop := rngLongRow.holds Try.pinned (OpenSpec.ofChange rngLongWrong)

/-- 'confidantlaw16.RngSpreads': WHATEVER THE INPUT: true; the input reads as it did. -/
def rngSpreadsSpec : ChangeSpec := { name := "rngSpreads", fn := fun _ => fun
  | [d1, d2, d3] => { results := [.lit (.bool true)], args := [d1, d2, d3] }
  | _ => none }
def rngSpreadsRow : OpenClaim := { program := "ytepokhmomojcmaa", sum := "0ed067eadc1e7479f0d05c43319dac4876dd524ba1dd642eeb74cd2ed3dbc7fb", func := "confidant/confidantlaw16.RngSpreads", spec := "rngSpreads", apart := false }
def RngSpreadsSaid : Prop := rngSpreadsRow.holds Try.pinned (OpenSpec.ofChange rngSpreadsSpec)

/-- ITS FALSE NEIGHBOUR: 'it returns false'. Refute it at one input. -/
def rngSpreadsWrong : ChangeSpec := { name := "rngSpreads", fn := fun _ => fun
  | [d1, d2, d3] => { results := [.lit (.bool false)], args := [d1, d2, d3] }
  | _ => none }
def RngSpreadsWrongFalsely : Prop := rngSpreadsRow.holds Try.pinned (OpenSpec.ofChange rngSpreadsWrong)

/-- 'confidantlaw11.IdentTells': WHATEVER THE INPUT: true; the input reads as it did. -/
def identTellsSpec : ChangeSpec := { name := "identTells", fn := fun _ => fun
  | [d1, d2, d3, d4, d5] => { results := [.lit (.bool true)], args := [d1, d2, d3, d4, d5] }
  | _ => none }
def identTellsRow : OpenClaim := { program := "ytepokhmomojcmaa", sum := "0ed067eadc1e7479f0d05c43319dac4876dd524ba1dd642eeb74cd2ed3dbc7fb", func := "confidant/confidantlaw11.IdentTells", spec := "identTells", unfollowed := true, recurses := true, apart := false }
def IdentTellsSaid : Prop := identTellsRow.holds Try.pinned (OpenSpec.ofChange identTellsSpec)

/-- ITS FALSE NEIGHBOUR: 'it returns false'. Refute it at one input. -/
def identTellsWrong : ChangeSpec := { name := "identTells", fn := fun _ => fun
  | [d1, d2, d3, d4, d5] => { results := [.lit (.bool false)], args := [d1, d2, d3, d4, d5] }
  | _ => none }
def IdentTellsWrongFalsely : Prop := identTellsRow.holds Try.pinned (OpenSpec.ofChange identTellsWrong)

/-- 'confidantlaw11.IdentOrders': WHATEVER THE INPUT: true; the input reads as it did. -/
def identOrdersSpec : ChangeSpec := { name := "identOrders", fn := fun _ => fun
  | [d1, d2, d3, d4] => { results := [.lit (.bool true)], args := [d1, d2, d3, d4] }
  | _ => none }
def identOrdersRow : OpenClaim := { program := "ytepokhmomojcmaa", sum := "0ed067eadc1e7479f0d05c43319dac4876dd524ba1dd642eeb74cd2ed3dbc7fb", func := "confidant/confidantlaw11.IdentOrders", spec := "identOrders", unfollowed := true, recurses := true, apart := false }
def IdentOrdersSaid : Prop := identOrdersRow.holds Try.pinned (OpenSpec.ofChange identOrdersSpec)

/-- ITS FALSE NEIGHBOUR: 'it returns false'. Refute it at one input. -/
def identOrdersWrong : ChangeSpec := { name := "identOrders", fn := fun _ => fun
  | [d1, d2, d3, d4] => { results := [.lit (.bool false)], args := [d1, d2, d3, d4] }
  | _ => none }
def IdentOrdersWrongFalsely : Prop := identOrdersRow.holds Try.pinned (OpenSpec.ofChange identOrdersWrong)

/-- 'confidantlaw9.WordTells': WHATEVER THE INPUT: true; the input reads as it did. -/
def wordTellsSpec : ChangeSpec := { name := "wordTells", fn := fun _ => fun
  | [d1, d2, d3, d4] => { results := [.lit (.bool true)], args := [d1, d2, d3, d4] }
  | _ => none }
def wordTellsRow : OpenClaim := { program := "ytepokhmomojcmaa", sum := "0ed067eadc1e7479f0d05c43319dac4876dd524ba1dd642eeb74cd2ed3dbc7fb", func := "confidant/confidantlaw9.WordTells", spec := "wordTells", unfollowed := true, recurses := true, apart := false }
def WordTellsSaid : Prop := wordTellsRow.holds Try.pinned (OpenSpec.ofChange wordTellsSpec)

/-- ITS FALSE NEIGHBOUR: 'it returns false'. Refute it at one input. -/
def wordTellsWrong : ChangeSpec := { name := "wordTells", fn := fun _ => fun
  | [d1, d2, d3, d4] => { results := [.lit (.bool false)], args := [d1, d2, d3, d4] }
  | _ => none }
def WordTellsWrongFalsely : Prop := wordTellsRow.holds Try.pinned (OpenSpec.ofChange wordTellsWrong)

/-- 'confidantlaw9.WordDivides': WHATEVER THE INPUT: true; the input reads as it did. -/
def wordDividesSpec : ChangeSpec := { name := "wordDivides", fn := fun _ => fun
  | [d1, d2] => { results := [.lit (.bool true)], args := [d1, d2] }
  | _ => none }
def wordDividesRow : OpenClaim := { program := "ytepokhmomojcmaa", sum := "0ed067eadc1e7479f0d05c43319dac4876dd524ba1dd642eeb74cd2ed3dbc7fb", func := "confidant/confidantlaw9.WordDivides", spec := "wordDivides", unfollowed := true, recurses := true, apart := false }
def WordDividesSaid : Prop := wordDividesRow.holds Try.pinned (OpenSpec.ofChange wordDividesSpec)

/-- ITS FALSE NEIGHBOUR: 'it returns false'. Refute it at one input. -/
def wordDividesWrong : ChangeSpec := { name := "wordDivides", fn := fun _ => fun
  | [d1, d2] => { results := [.lit (.bool false)], args := [d1, d2] }
  | _ => none }
def WordDividesWrongFalsely : Prop := wordDividesRow.holds Try.pinned (OpenSpec.ofChange wordDividesWrong)

/-- 'confidantlaw9.WordOrders': WHATEVER THE INPUT: true; the input reads as it did. -/
def wordOrdersSpec : ChangeSpec := { name := "wordOrders", fn := fun _ => fun
  | [d1, d2, d3] => { results := [.lit (.bool true)], args := [d1, d2, d3] }
  | _ => none }
def wordOrdersRow : OpenClaim := { program := "ytepokhmomojcmaa", sum := "0ed067eadc1e7479f0d05c43319dac4876dd524ba1dd642eeb74cd2ed3dbc7fb", func := "confidant/confidantlaw9.WordOrders", spec := "wordOrders", unfollowed := true, recurses := true, apart := false }
def WordOrdersSaid : Prop := wordOrdersRow.holds Try.pinned (OpenSpec.ofChange wordOrdersSpec)

/-- ITS FALSE NEIGHBOUR: 'it returns false'. Refute it at one input. -/
def wordOrdersWrong : ChangeSpec := { name := "wordOrders", fn := fun _ => fun
  | [d1, d2, d3] => { results := [.lit (.bool false)], args := [d1, d2, d3] }
  | _ => none }
def WordOrdersWrongFalsely : Prop := wordOrdersRow.holds Try.pinned (OpenSpec.ofChange wordOrdersWrong)

/-- 'confidantlaw14.InputTells': WHATEVER THE INPUT: true; the input reads as it did. -/
def inputTellsSpec : ChangeSpec := { name := "inputTells", fn := fun _ => fun
  | [d1, d2, d3, d4] => { results := [.lit (.bool true)], args := [d1, d2, d3, d4] }
  | _ => none }
def inputTellsRow : OpenClaim := { program := "ytepokhmomojcmaa", sum := "0ed067eadc1e7479f0d05c43319dac4876dd524ba1dd642eeb74cd2ed3dbc7fb", func := "confidant/confidantlaw14.InputTells", spec := "inputTells", apart := false }
def InputTellsSaid : Prop := inputTellsRow.holds Try.pinned (OpenSpec.ofChange inputTellsSpec)

/-- ITS FALSE NEIGHBOUR: 'it returns false'. Refute it at one input. -/
def inputTellsWrong : ChangeSpec := { name := "inputTells", fn := fun _ => fun
  | [d1, d2, d3, d4] => { results := [.lit (.bool false)], args := [d1, d2, d3, d4] }
  | _ => none }
def InputTellsWrongFalsely : Prop := inputTellsRow.holds Try.pinned (OpenSpec.ofChange inputTellsWrong)

/-- 'confidantlaw14.InputKeeps': WHATEVER THE INPUT: true; the input reads as it did. -/
def inputKeepsSpec : ChangeSpec := { name := "inputKeeps", fn := fun _ => fun
  | [d1, d2, d3] => { results := [.lit (.bool true)], args := [d1, d2, d3] }
  | _ => none }
def inputKeepsRow : OpenClaim := { program := "ytepokhmomojcmaa", sum := "0ed067eadc1e7479f0d05c43319dac4876dd524ba1dd642eeb74cd2ed3dbc7fb", func := "confidant/confidantlaw14.InputKeeps", spec := "inputKeeps", apart := false }
def InputKeepsSaid : Prop := inputKeepsRow.holds Try.pinned (OpenSpec.ofChange inputKeepsSpec)

/-- ITS FALSE NEIGHBOUR: 'it returns false'. Refute it at one input. -/
def inputKeepsWrong : ChangeSpec := { name := "inputKeeps", fn := fun _ => fun
  | [d1, d2, d3] => { results := [.lit (.bool false)], args := [d1, d2, d3] }
  | _ => none }
def InputKeepsWrongFalsely : Prop := inputKeepsRow.holds Try.pinned (OpenSpec.ofChange inputKeepsWrong)

/- THE SECOND FORM. 'bulk': how many values and letters a reading holds, each counted each time it is reached (what is shared counts as often as it is met; a slice's spare places count too). A statement '..UptoSaid' is the law's where the arguments, and the package variables that the reading takes, are together of bulk at most 1048576: NARROWER than '..Said'. Prove '..Said' where nothing that the law and all that it calls make is longer than what came in: it says more and counts as full. Else prove '..UptoSaid'. A law counts once. -/
mutual
def uptoBulk {H : Type} : DataW H → Nat
  | .lit (.string bytes) => bytes.length + 1
  | .lit _ => 1
  | .nil => 1
  | .ptr d => uptoBulk d + 1
  | .slice elems spare => uptoBulkAll elems + uptoBulkAll spare + 1
  | .agg parts => uptoBulkAll parts + 1
  | .iface _ d => uptoBulk d + 1
  | .map entries => uptoBulkEntries entries + 1
  | .held _ => 1
def uptoBulkAll {H : Type} : List (DataW H) → Nat
  | [] => 0
  | d :: r => uptoBulk d + uptoBulkAll r
def uptoBulkEntries {H : Type} : List (Lit × DataW H) → Nat
  | [] => 0
  | x :: r => uptoBulkEntry x + uptoBulkEntries r
def uptoBulkEntry {H : Type} : Lit × DataW H → Nat
  | (.string bytes, d) => bytes.length + uptoBulk d + 1
  | (_, d) => uptoBulk d + 1
 end
def uptoSmall : (H : Type) → List (DataW H) → Bool := fun _ ds => decide (uptoBulkAll ds ≤ 1048576)
def OpenSpec.upto (s : _root_.Go.ChangeSpec) : _root_.Go.OpenSpec := { _root_.Go.OpenSpec.ofChange s with cond := some uptoSmall }

/-- 'confidantlaw16.RngTells', WHERE WHAT IT READS IS OF BULK AT MOST 1048576: true; the input reads as it did. -/
def rngTellsUptoRow : OpenClaim := { program := "ytepokhmomojcmaa", sum := "0ed067eadc1e7479f0d05c43319dac4876dd524ba1dd642eeb74cd2ed3dbc7fb", func := "confidant/confidantlaw16.RngTells", spec := "rngTells", apart := false, narrowed := true }
def RngTellsUptoSaid : Prop := rngTellsUptoRow.holds Try.pinned (OpenSpec.upto rngTellsSpec)

/-- 'confidantlaw16.RngBack', WHERE WHAT IT READS IS OF BULK AT MOST 1048576: true; the input reads as it did. -/
def rngBackUptoRow : OpenClaim := { program := "ytepokhmomojcmaa", sum := "0ed067eadc1e7479f0d05c43319dac4876dd524ba1dd642eeb74cd2ed3dbc7fb", func := "confidant/confidantlaw16.RngBack", spec := "rngBack", apart := false, narrowed := true }
def RngBackUptoSaid : Prop := rngBackUptoRow.holds Try.pinned (OpenSpec.upto rngBackSpec)

/-- 'confidantlaw16.RngLong', WHERE WHAT IT READS IS OF BULK AT MOST 1048576: true; the input reads as it did. -/
def rngLongUptoRow : OpenClaim := { program := "ytepokhmomojcmaa", sum := "0ed067eadc1e7479f0d05c43319dac4876dd524ba1dd642eeb74cd2ed3dbc7fb", func := "confidant/confidantlaw16.RngLong", spec := "rngLong", apart := false, narrowed := true }
def RngLongUptoSaid : Prop := rngLongUptoRow.holds Try.pinned (OpenSpec.upto rngLongSpec)

/-- 'confidantlaw16.RngSpreads', WHERE WHAT IT READS IS OF BULK AT MOST 1048576: true; the input reads as it did. -/
def rngSpreadsUptoRow : OpenClaim := { program := "ytepokhmomojcmaa", sum := "0ed067eadc1e7479f0d05c43319dac4876dd524ba1dd642eeb74cd2ed3dbc7fb", func := "confidant/confidantlaw16.RngSpreads", spec := "rngSpreads", apart := false, narrowed := true }
def RngSpreadsUptoSaid : Prop := rngSpreadsUptoRow.holds Try.pinned (OpenSpec.upto rngSpreadsSpec)

/-- 'confidantlaw11.IdentTells', WHERE WHAT IT READS IS OF BULK AT MOST 1048576: true; the input reads as it did. -/
def identTellsUptoRow : OpenClaim := { program := "ytepokhmomojcmaa", sum := "0ed067eadc1e7479f0d05c43319dac4876dd524ba1dd642eeb74cd2ed3dbc7fb", func := "confidant/confidantlaw11.IdentTells", spec := "identTells", unfollowed := true, recurses := true, apart := false, narrowed := true }
def IdentTellsUptoSaid : Prop := identTellsUptoRow.holds Try.pinned (OpenSpec.upto identTellsSpec)

/-- 'confidantlaw11.IdentOrders', WHERE WHAT IT READS IS OF BULK AT MOST 1048576: true; the input reads as it did. -/
def identOrdersUptoRow : OpenClaim := { program := "ytepokhmomojcmaa", sum := "0ed067eadc1e7479f0d05c43319dac4876dd524ba1dd642eeb74cd2ed3dbc7fb", func := "confidant/confidantlaw11.IdentOrders", spec := "identOrders", unfollowed := true, recurses := true, apart := false, narrowed := true }
def IdentOrdersUptoSaid : Prop := identOrdersUptoRow.holds Try.pinned (OpenSpec.upto identOrdersSpec)

/-- 'confidantlaw9.WordTells', WHERE WHAT IT READS IS OF BULK AT MOST 1048576: true; the input reads as it did. -/
def wordTellsUptoRow : OpenClaim := { program := "ytepokhmomojcmaa", sum := "0ed067eadc1e7479f0d05c43319dac4876dd524ba1dd642eeb74cd2ed3dbc7fb", func := "confidant/confidantlaw9.WordTells", spec := "wordTells", unfollowed := true, recurses := true, apart := false, narrowed := true }
def WordTellsUptoSaid : Prop := wordTellsUptoRow.holds Try.pinned (OpenSpec.upto wordTellsSpec)

/-- 'confidantlaw9.WordDivides', WHERE WHAT IT READS IS OF BULK AT MOST 1048576: true; the input reads as it did. -/
def wordDividesUptoRow : OpenClaim := { program := "ytepokhmomojcmaa", sum := "0ed067eadc1e7479f0d05c43319dac4876dd524ba1dd642eeb74cd2ed3dbc7fb", func := "confidant/confidantlaw9.WordDivides", spec := "wordDivides", unfollowed := true, recurses := true, apart := false, narrowed := true }
def WordDividesUptoSaid : Prop := wordDividesUptoRow.holds Try.pinned (OpenSpec.upto wordDividesSpec)

/-- 'confidantlaw9.WordOrders', WHERE WHAT IT READS IS OF BULK AT MOST 1048576: true; the input reads as it did. -/
def wordOrdersUptoRow : OpenClaim := { program := "ytepokhmomojcmaa", sum := "0ed067eadc1e7479f0d05c43319dac4876dd524ba1dd642eeb74cd2ed3dbc7fb", func := "confidant/confidantlaw9.WordOrders", spec := "wordOrders", unfollowed := true, recurses := true, apart := false, narrowed := true }
def WordOrdersUptoSaid : Prop := wordOrdersUptoRow.holds Try.pinned (OpenSpec.upto wordOrdersSpec)

/-- 'confidantlaw14.InputTells', WHERE WHAT IT READS IS OF BULK AT MOST 1048576: true; the input reads as it did. -/
def inputTellsUptoRow : OpenClaim := { program := "ytepokhmomojcmaa", sum := "0ed067eadc1e7479f0d05c43319dac4876dd524ba1dd642eeb74cd2ed3dbc7fb", func := "confidant/confidantlaw14.InputTells", spec := "inputTells", apart := false, narrowed := true }
def InputTellsUptoSaid : Prop := inputTellsUptoRow.holds Try.pinned (OpenSpec.upto inputTellsSpec)

/-- 'confidantlaw14.InputKeeps', WHERE WHAT IT READS IS OF BULK AT MOST 1048576: true; the input reads as it did. -/
def inputKeepsUptoRow : OpenClaim := { program := "ytepokhmomojcmaa", sum := "0ed067eadc1e7479f0d05c43319dac4876dd524ba1dd642eeb74cd2ed3dbc7fb", func := "confidant/confidantlaw14.InputKeeps", spec := "inputKeeps", apart := false, narrowed := true }
def InputKeepsUptoSaid : Prop := inputKeepsUptoRow.holds Try.pinned (OpenSpec.upto inputKeepsSpec)

end Rows
end Go.Proofs.Ytepokhmomojcmaa
