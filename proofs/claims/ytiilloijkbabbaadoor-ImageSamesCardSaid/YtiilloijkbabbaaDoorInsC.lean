import Derived.Test.YtiilloijkbabbaaDoorInsB
/- The document's instructions: which may be, their bytes and texts. Conditions: in the lemmas. -/
set_option linter.unusedVariables false
set_option linter.unusedSimpArgs false
namespace Go.Proofs.YtiilloijkbabbaaDoor.Ins
open Go Go.Fw Go.RowKit Go.Proofs.YtiilloijkbabbaaDoor.G Go.Proofs.YtiilloijkbabbaaDoor.Pack Go.Proofs.YtiilloijkbabbaaDoor.Txt

def decB (u : Nat) : ByteArray := ⟨(Lib.decDigits u).toArray⟩
theorem digit : ∀ i : Fin 10, (⟨#[48, 49, 50, 51, 52, 53, 54, 55, 56, 57]⟩ : ByteArray).extract (i : Nat) ((i : Nat) + 1) = decB i := by
  intro i
  unfold decB
  rw [Lib.decDigits_one i.isLt]
  revert i
  decide +kernel
theorem decB_size (u : Nat) (h : u < 18446744073709551616) : (decB u).size ≤ 20 := by
  have := Lib.decDigits_length u
  have := Lib.nDigits_le20 u h
  show (Lib.decDigits u).toArray.size ≤ 20
  rw [List.size_toArray]
  omega
theorem kn_of (op : Int) (h : argT op ≠ 0) : Kn op := Decidable.byContradiction fun n => h (argT_un op n)
end Go.Proofs.YtiilloijkbabbaaDoor.Ins
