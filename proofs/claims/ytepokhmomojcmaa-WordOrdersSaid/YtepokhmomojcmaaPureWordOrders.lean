import Derived.Test.YtepokhmomojcmaaG1
import Derived.Test.YtepokhmomojcmaaFwLaw
/- Of two numbers exactly one is less or they are equal; the ring laws. No condition. -/
set_option linter.unusedVariables false
set_option linter.unusedSimpArgs false
namespace Go.Proofs.Ytepokhmomojcmaa.Pure
open Go Go.Fw Go.RowKit Go.Proofs.Ytepokhmomojcmaa.G


theorem known9 (K : Nat) : confidantlaw9_known.f K = some true := by kernel_rfl
theorem add_f (K : Nat) (a b : Int) : word_Add.f K a b = some (IntKind.i32.wrap (a + b)) := rfl
theorem sub_f (K : Nat) (a b : Int) : word_Sub.f K a b = some (IntKind.i32.wrap (a - b)) := rfl
theorem mul_f (K : Nat) (a b : Int) : word_Mul.f K a b = some (IntKind.i32.wrap (a * b)) := rfl
theorem less_f (K : Nat) (a b : Int) : word_Less.f K a b = some (if a < b then 1 else 0) := by
  unfold word_Less.f word_num_less.f word_truth.f
  by_cases h : a < b <;> simp [b1, h]
theorem eq_f (K : Nat) (a b : Int) : word_Eq.f K a b = some (if a = b then 1 else 0) := by
  unfold word_Eq.f word_num_eq.f word_truth.f
  by_cases h : a = b <;> simp [b1, h]

theorem WordOrders : confidantlaw9_WordOrders.Pure := by
  intro a b c ha hb hc
  have ua := is_i32 ha
  have ub := is_i32 hb
  have uc := is_i32 hc
  refine ⟨0, ?_⟩
  unfold confidantlaw9_WordOrders.f
  simp only [known9, add_f, sub_f, mul_f, less_f, eq_f, b1, if_true]
  have h1 : IntKind.i32.wrap (IntKind.i32.wrap ((if a < b then 1 else 0) + (if b < a then 1 else 0)) + (if a = b then 1 else 0)) = 1 := by
    by_cases h : a < b
    · rw [if_pos h, if_neg (by omega), if_neg (by omega)]; decide
    · by_cases h2 : b < a
      · rw [if_neg h, if_pos h2, if_neg (by omega)]; decide
      · rw [if_neg h, if_neg h2, if_pos (by omega)]; decide
  have h2 : ¬ a < a := by omega
  have h3 : IntKind.i32.wrap (a + b) = IntKind.i32.wrap (b + a) := by rw [Int.add_comm]
  have h4 : IntKind.i32.wrap (IntKind.i32.wrap (a + b) + c) = IntKind.i32.wrap (a + IntKind.i32.wrap (b + c)) := by rw [w32_l, w32_r, Int.add_assoc]
  have h5 : IntKind.i32.wrap (IntKind.i32.wrap (a + b) - b) = a := by rw [w32_sl, w32_id (by omega) (by omega)]; omega
  have h6 : IntKind.i32.wrap (a * IntKind.i32.wrap (b + c)) = IntKind.i32.wrap (IntKind.i32.wrap (a * b) + IntKind.i32.wrap (a * c)) := by rw [w32_mr, w32_l, w32_r, Int.mul_add]
  rw [if_pos h1]
  simp only [h2, if_false, if_true]
  rw [if_pos h3, if_pos h4, if_pos h5, h6]
  simp

end Go.Proofs.Ytepokhmomojcmaa.Pure
