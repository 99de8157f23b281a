import Derived.Test.YtepokhmomojcmaaG1
import Derived.Test.YtepokhmomojcmaaFwLaw
/- Identities: what the functions tell. No condition. -/
set_option linter.unusedVariables false
set_option linter.unusedSimpArgs false
namespace Go.Proofs.Ytepokhmomojcmaa.Pure
open Go Go.Fw Go.RowKit Go.Proofs.Ytepokhmomojcmaa.G

theorem id_known (K : Nat) : confidantlaw11_known.f K = some true := by kernel_rfl

theorem of_in (K : Nat) {a b : Int} (h0 : 0 ≤ a) (h1 : a < 16) (h2 : 0 ≤ b) (h3 : b < 65536) : ident_Of.f K a b = some (a * 65536 + b, true) := by
  unfold ident_Of.f
  have e1 : IntKind.i64.wrap (a * 65536) = a * 65536 := w64_id (by omega) (by omega)
  have e2 : IntKind.i64.wrap (a * 65536 + b) = a * 65536 + b := w64_id (by omega) (by omega)
  have e3 : IntKind.i32.wrap (a * 65536 + b) = a * 65536 + b := w32_id (by omega) (by omega)
  simp only [lt]
  rw [if_neg (by omega), if_neg (by omega), if_neg (by omega), decide_eq_false (by omega)]
  simp [e1, e2, e3]

theorem of_out (K : Nat) {a b : Int} (h : ¬ (0 ≤ a ∧ a < 16 ∧ 0 ≤ b ∧ b < 65536)) : ident_Of.f K a b = some (0, false) := by
  unfold ident_Of.f
  simp only [lt]
  by_cases h1 : a < 0
  · rw [if_pos h1]; simp
  · rw [if_neg h1]
    by_cases h2 : a ≥ 16
    · rw [if_pos h2]; simp
    · rw [if_neg h2]
      by_cases h3 : b < 0
      · rw [if_pos h3]; simp
      · rw [if_neg h3, decide_eq_true (by omega)]; simp

theorem of_ref (K : Nat) (a b : Int) : confidantref9_Of.f K a b = ident_Of.f K a b := rfl

theorem label_f (K : Nat) {x : Int} (h1 : -2147483648 ≤ x) (h2 : x ≤ 2147483647) : ident_Label.f K x = some (if x < 0 then -1 else x / 65536) := by
  unfold ident_Label.f ident_Label_1.f
  simp only [lt, b1]
  by_cases h : x < 0
  · rw [if_pos h, if_pos h]
  · rw [if_neg h, if_neg h, w64_id (x := x) (by omega) (by omega), Int.tdiv_eq_ediv_of_nonneg (by omega), w64_id (by omega) (by omega)]

theorem number_f (K : Nat) {x : Int} (h1 : -2147483648 ≤ x) (h2 : x ≤ 2147483647) : ident_Number.f K x = some (if x < 0 then -1 else x % 65536) := by
  unfold ident_Number.f ident_Number_1.f
  simp only [lt, b1]
  by_cases h : x < 0
  · rw [if_pos h, if_pos h]
  · rw [if_neg h, if_neg h, w64_id (x := x) (by omega) (by omega), Int.tmod_eq_emod_of_nonneg (by omega)]

theorem valid_f (K : Nat) {x : Int} (h1 : -2147483648 ≤ x) (h2 : x ≤ 2147483647) (m : Int) : ident_Valid.f K x m = some (decide (0 ≤ x ∧ x / 65536 < mn m 16)) := by
  unfold ident_Valid.f
  rw [label_f K h1 h2]
  by_cases h : x ≥ 0
  · rw [if_pos h, if_neg (by omega)]
    simp [b1, h]
  · rw [if_neg h]; simp [h]

theorem rlabel_f (K : Nat) {x : Int} (h1 : -2147483648 ≤ x) (h2 : x ≤ 2147483647) : confidantref9_Label.f K x = ident_Label.f K x := by
  rw [label_f K h1 h2]
  unfold confidantref9_Label.f
  by_cases h : x < 0
  · rw [if_pos h, if_pos h]
  · rw [if_neg h, if_neg h, Int.tdiv_eq_ediv_of_nonneg (by omega), w32_id (by omega) (by omega), w64_id (by omega) (by omega)]

theorem rnumber_f (K : Nat) {x : Int} (h1 : -2147483648 ≤ x) (h2 : x ≤ 2147483647) : confidantref9_Number.f K x = ident_Number.f K x := by
  rw [number_f K h1 h2]
  unfold confidantref9_Number.f
  by_cases h : x < 0
  · rw [if_pos h, if_pos h]
  · rw [if_neg h, if_neg h, Int.tmod_eq_emod_of_nonneg (by omega), w64_id (by omega) (by omega)]

theorem rvalid_f (K : Nat) {x : Int} (h1 : -2147483648 ≤ x) (h2 : x ≤ 2147483647) (m : Int) : confidantref9_Valid.f K x m = ident_Valid.f K x m := by
  unfold confidantref9_Valid.f ident_Valid.f
  rw [rlabel_f K h1 h2]

theorem w32_in (x : Int) : -2147483648 ≤ IntKind.i32.wrap x ∧ IntKind.i32.wrap x ≤ 2147483647 := by rw [w32]; omega
end Go.Proofs.Ytepokhmomojcmaa.Pure
