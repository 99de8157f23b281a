import Derived.Test.YtepokhmomojcmaaG1
import Derived.Test.YtepokhmomojcmaaFwLaw
/- The quotient and the remainder. No condition. -/
set_option linter.unusedVariables false
set_option linter.unusedSimpArgs false
namespace Go.Proofs.Ytepokhmomojcmaa.Pure
open Go Go.Fw Go.RowKit Go.Proofs.Ytepokhmomojcmaa.G


theorem known9 (K : Nat) : confidantlaw9_known.f K = some true := by kernel_rfl
theorem sub_f (K : Nat) (a b : Int) : word_Sub.f K a b = some (IntKind.i32.wrap (a - b)) := rfl
theorem mul_f (K : Nat) (a b : Int) : word_Mul.f K a b = some (IntKind.i32.wrap (a * b)) := rfl

theorem WordDivides : confidantlaw9_WordDivides.Pure := by
  intro a b ha hb
  have ua := is_i32 ha
  have ub := is_i32 hb
  refine ⟨0, ?_⟩
  unfold confidantlaw9_WordDivides.f word_Div.f
  simp only [known9, sub_f, mul_f, b1, if_true]
  by_cases hb0 : b = 0
  · subst hb0; rfl
  · rw [if_neg hb0]
    simp only [b2, if_true]
    rw [if_neg hb0]
    have hr : IntKind.i32.wrap (a - IntKind.i32.wrap (IntKind.i32.wrap (Int.tdiv a b) * b)) = Int.tmod a b := by
      rw [w32_sr, show a - IntKind.i32.wrap (Int.tdiv a b) * b = a - b * IntKind.i32.wrap (Int.tdiv a b) from by rw [Int.mul_comm]]
      obtain ⟨q, hq⟩ := w32_ex (Int.tdiv a b)
      have e : a - b * (Int.tdiv a b + 4294967296 * q) = Int.tmod a b + 4294967296 * (-(b * q)) := by
        have := Int.tmod_add_mul_tdiv a b
        have h2 : b * (Int.tdiv a b + 4294967296 * q) = b * Int.tdiv a b + 4294967296 * (b * q) := by
          rw [Int.mul_add, show b * (4294967296 * q) = 4294967296 * (b * q) from by rw [← Int.mul_assoc, Int.mul_comm b, Int.mul_assoc]]
        rw [h2]; omega
      rw [hq, e, w32_add]
      have hlt := Int.tmod_lt_of_pos a (b := (b.natAbs : Int)) (by omega)
      have habs : (Int.tmod a b).natAbs < b.natAbs := by
        rw [Int.natAbs_tmod]; exact Nat.mod_lt _ (by omega)
      exact w32_id (by omega) (by omega)
    rw [hr]
    have habs : (Int.tmod a b).natAbs < b.natAbs := by
      rw [Int.natAbs_tmod]; exact Nat.mod_lt _ (by omega)
    have hsgn : Int.tmod a b = 0 ∨ (Int.tmod a b < 0 ↔ a < 0) := by
      by_cases h0 : Int.tmod a b = 0
      · exact .inl h0
      · right
        by_cases ha0 : 0 ≤ a
        · have := Int.tmod_nonneg b ha0; omega
        · have : 0 ≤ Int.tmod (-a) b := Int.tmod_nonneg b (by omega)
          rw [Int.neg_tmod] at this; omega
    have w1 : IntKind.i64.wrap b = b := w64_id (by omega) (by omega)
    have w2 : IntKind.i64.wrap (0 - b) = -b := by rw [w64_id (by omega) (by omega)]; omega
    have w3 : IntKind.i64.wrap (Int.tmod a b) = Int.tmod a b := w64_id (by omega) (by omega)
    have w4 : IntKind.i64.wrap (0 - Int.tmod a b) = -Int.tmod a b := by rw [w64_id (by omega) (by omega)]; omega
    simp only [lt, w1, w2, w3, w4]
    have fin : ∀ x : Int, x = (b.natAbs : Int) → (if Int.tmod a b < x then if -Int.tmod a b < x then if Int.tmod a b = 0 then some true else some (decide (Int.tmod a b < 0) == decide (a < 0)) else some false else some false) = some true := by
      intro x hx
      rw [if_pos (by omega), if_pos (by omega)]
      rcases hsgn with h | h
      · rw [if_pos h]
      · by_cases h0 : Int.tmod a b = 0
        · rw [if_pos h0]
        · rw [if_neg h0]; simp [h]
    by_cases hneg : b < 0
    · rw [if_pos hneg]; exact fin _ (by omega)
    · rw [if_neg hneg]; exact fin _ (by omega)

end Go.Proofs.Ytepokhmomojcmaa.Pure
