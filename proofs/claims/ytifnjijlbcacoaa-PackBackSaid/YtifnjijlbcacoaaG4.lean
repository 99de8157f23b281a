import Derived.Test.YtifnjijlbcacoaaG3
namespace Go.Proofs.Ytifnjijlbcacoaa.G
open Go Go.Fw Go.RowKit Go.Proofs
set_option linter.unusedVariables false
set_option linter.unusedSimpArgs false

def okS48 (s : S48) : Prop := (True) ∧ ((Lit.int .u64 s.f1).wf = true) ∧ True
theorem oS48 : Opens Try.prog 48 kS48 okS48 := Opens.struct (fun s : S48 => (s.f0, s.f1, ())) (fun a => ⟨a.1, a.2.1⟩) (fun _ => rfl) Try.underlying48 (OpensF.cons (Opens.bool Try.underlying4) (OpensF.cons (Opens.int Try.underlying23) OpensF.nil rfl (by kernel_rfl)) rfl (by kernel_rfl)) (by kernel_rfl)
def confidantlaw1_PackReads.Pure : Prop := ∀ (l14 : List Int) (l17 : List Int) (l20 : List (List Int)) (l23 : List S48) (a26 : Int), l14.length * 1 ≤ 140737488351232 → (∀ x ∈ l14, (Lit.int .u8 x).wf = true) → l17.length * 8 ≤ 140737488351232 → (∀ x ∈ l17, (Lit.int .u64 x).wf = true) → l20.length * 24 ≤ 140737488351232 → (∀ x ∈ l20, x.length * 1 ≤ 140737488351232 ∧ (∀ y ∈ x, (Lit.int .u8 y).wf = true)) → l23.length * 16 ≤ 140737488351232 → (∀ x ∈ l23, okS48 x) → (Lit.int .u8 a26).wf = true → ∃ K, confidantlaw1_PackReads.f K l14 l17 l20 l23 a26 = some true

noncomputable def Cd6 : Code := bodyOf Try.f6

end Go.Proofs.Ytifnjijlbcacoaa.G
