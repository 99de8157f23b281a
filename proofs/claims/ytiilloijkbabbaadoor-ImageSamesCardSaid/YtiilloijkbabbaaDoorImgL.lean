import Derived.Test.YtiilloijkbabbaaDoorImgR
/- The document's reading of lines; its bytes. Conditions: in the lemmas. -/
set_option linter.unusedVariables false
set_option linter.unusedSimpArgs false
namespace Go.Proofs.YtiilloijkbabbaaDoor.Img
open Go Go.Fw Go.RowKit Go.Proofs.YtiilloijkbabbaaDoor.G Go.Proofs.YtiilloijkbabbaaDoor.Pack Go.Proofs.YtiilloijkbabbaaDoor.Txt Go.Proofs.YtiilloijkbabbaaDoor.Ins Go.Proofs.YtiilloijkbabbaaDoor.Lns

theorem lns_cases (L : List UInt8) : ∃ a t, lns L = a :: t ∧ (10 : UInt8) ∉ a ∧ ((L = a ∧ t = []) ∨ ∃ r, L = a ++ 10 :: r ∧ t = lns r) := by
  rcases split_nl L with h | ⟨a, r, h, ha⟩
  · exact ⟨L, [], lns_one L h, h, .inl ⟨rfl, rfl⟩⟩
  · exact ⟨a, lns r, by rw [h]; exact lns_cons a r ha, ha, .inr ⟨r, h, rfl⟩⟩
theorem run_wf : ∀ (r : List ByteArray) (m : Im) (i : Nat), Wf m → Wf (run m i r).1
  | [], m, i, h => h
  | x :: r, m, i, h => by
    show Wf (if (stp m x).2 = 0 then run (stp m x).1 (i + 1) r else ([], (i : Int), (stp m x).2)).1
    split
    · exact run_wf r _ _ (stp_wf m x h)
    · exact ⟨by simp, by intro r hr; cases hr⟩
/-! ### bytes -/
end Go.Proofs.YtiilloijkbabbaaDoor.Img
