import Derived.Test.YtepokhmomojcmaaIdent
/- Identities are ordered by label, then by number. No condition. -/
set_option linter.unusedVariables false
set_option linter.unusedSimpArgs false
namespace Go.Proofs.Ytepokhmomojcmaa.Pure
open Go Go.Fw Go.RowKit Go.Proofs.Ytepokhmomojcmaa.G

theorem IdentOrders : confidantlaw11_IdentOrders.Pure := by
  intro a b p q ha hb hp hq
  have ua := is_u8 ha
  have ub := is_u8 hb
  have up := is_u16 hp
  have uq := is_u16 hq
  refine ⟨0, ?_⟩
  unfold confidantlaw11_IdentOrders.f
  simp only [id_known, b1, if_true]
  rw [Int.tmod_eq_emod_of_nonneg (by omega), Int.tmod_eq_emod_of_nonneg (by omega), w64_id (x := a % 16) (by omega) (by omega), w64_id (x := b % 16) (by omega) (by omega), w64_id (x := p) (by omega) (by omega), w64_id (x := q) (by omega) (by omega), w64_id (x := a % 16 + 1) (by omega) (by omega)]
  have hx0 : 0 ≤ a % 16 := by omega
  have hx1 : a % 16 < 16 := by omega
  have hy0 : 0 ≤ b % 16 := by omega
  have hy1 : b % 16 < 16 := by omega
  generalize a % 16 = x at hx0 hx1 ⊢
  generalize b % 16 = y at hy0 hy1 ⊢
  rw [of_in 0 hx0 hx1 (by omega) (by omega), of_in 0 hy0 hy1 (by omega) (by omega)]
  simp only [b2, if_true]
  rw [valid_f 0 (by omega) (by omega), valid_f 0 (by omega) (by omega)]
  have e1 : decide (0 ≤ x * 65536 + p ∧ (x * 65536 + p) / 65536 < mn (x + 1) 16) = true := by
    apply decide_eq_true
    unfold mn
    refine ⟨by omega, ?_⟩
    split <;> omega
  have e2 : decide (0 ≤ x * 65536 + p ∧ (x * 65536 + p) / 65536 < mn x 16) = false := by
    apply decide_eq_false
    unfold mn
    intro h
    split at h <;> omega
  rw [e1, e2]
  have e3 : decide (x * 65536 + p ≥ 0) = true := decide_eq_true (by omega)
  rw [e3]
  simp only [lt, if_true]
  have fin : ∀ c : Bool, c = decide (x * 65536 + p < y * 65536 + q) → (if (decide (x * 65536 + p < y * 65536 + q) == c) = true then (if x = y then (if (decide (x * 65536 + p = y * 65536 + q) == decide (p = q)) = true then (if false = true then some false else some true) else some false) else (if (decide (x * 65536 + p = y * 65536 + q) == false) = true then (if false = true then some false else some true) else some false)) else some false) = some true := by
    intro c hc
    subst hc
    rw [if_pos (by simp)]
    by_cases hxy : x = y
    · rw [if_pos hxy, if_pos]
      · rfl
      · have : (x * 65536 + p = y * 65536 + q) ↔ (p = q) := by omega
        simp [this]
    · rw [if_neg hxy, if_pos]
      · rfl
      · have : ¬ (x * 65536 + p = y * 65536 + q) := by omega
        simp [this]
  by_cases h1 : x < y
  · rw [if_pos h1]
    exact fin true (by symm; apply decide_eq_true; omega)
  · rw [if_neg h1]
    by_cases h2 : x = y
    · rw [if_pos h2]
      exact fin _ (by congr 1; apply propext; omega)
    · rw [if_neg h2]
      exact fin false (by symm; apply decide_eq_false; omega)

end Go.Proofs.Ytepokhmomojcmaa.Pure
