import Derived.Test.YtepokhmomojcmaaG0
import Derived.Test.YtepokhmomojcmaaFwLaw
/- Inputs of labels: what New, Len and Get tell. Conditions: in the lemmas. -/
set_option linter.unusedVariables false
set_option linter.unusedSimpArgs false
namespace Go.Proofs.Ytepokhmomojcmaa.Pure
open Go Go.Fw Go.RowKit Go.Proofs.Ytepokhmomojcmaa.G

theorem clone_f (K : Nat) (l : List Int) (h : l.length ≤ 1000) : slices_Clone_int32_int32.f K l = some l := by
  unfold slices_Clone_int32_int32.f
  simp only [lt, List.length_nil, Nat.zero_add, List.nil_append]
  rw [if_pos (by omega)]

theorem new_l (K : Nat) (l : List (List Int)) (hl : l.length ≤ 1000) (hr : ∀ r ∈ l, r.length ≤ 1000) : ∀ (d n i : Nat), i + d = l.length → d < n → input_New.l0 K l n (l.take i) (i : Int) = some l
  | 0, n, i, hd, hn => by
    obtain ⟨n, rfl⟩ : ∃ k, n = k + 1 := ⟨n - 1, by omega⟩
    rw [input_New.l0.eq_2, if_neg (by omega), List.take_of_length_le (by omega)]
  | d + 1, n, i, hd, hn => by
    obtain ⟨n, rfl⟩ : ∃ k, n = k + 1 := ⟨n - 1, by omega⟩
    have hi : i < l.length := by omega
    have e : l.getD i [] = l[i] := by simp [List.getD, hi]
    have e2 : l.take i ++ [l[i]] = l.take (i + 1) := by rw [List.take_add_one]; simp [hi]
    rw [input_New.l0.eq_2, if_pos (by omega), if_pos (by omega), Int.toNat_natCast, e, clone_f K _ (hr _ (List.getElem_mem hi))]
    simp only [b1, lt, List.length_take, List.length_cons, List.length_nil]
    rw [if_pos (by omega), w64_id (by omega) (by omega), e2, show ((i : Int) + 1) = ((i + 1 : Nat) : Int) by omega]
    exact new_l K l hl hr d n (i + 1) (by omega) (by omega)

theorem new_f (K : Nat) (l : List (List Int)) (hl : l.length ≤ 1000) (hr : ∀ r ∈ l, r.length ≤ 1000) (hK : l.length < K) : input_New.f K l = some l :=
  new_l K l hl hr l.length K 0 (by omega) hK

def inLen (l : List (List Int)) (p : Int) : Int := if 0 ≤ p ∧ p < (l.length : Int) then ((l.getD p.toNat []).length : Int) else 0
theorem len_f (K : Nat) (l : List (List Int)) (p : Int) : input_Inputs_Len.f K l p = some (inLen l p) := by
  unfold input_Inputs_Len.f inLen
  simp only [lt]
  by_cases h1 : p < 0
  · rw [if_pos h1, if_pos trivial, if_neg (by omega)]
  · rw [if_neg h1]
    by_cases h2 : p ≥ (l.length : Int)
    · rw [if_pos (decide_eq_true h2), if_neg (by omega)]
    · rw [if_neg (by simpa using h2), if_pos (by omega), if_pos (by omega), if_pos (by omega)]
def inGet (l : List (List Int)) (p q : Int) : Int × Bool := if 0 ≤ q ∧ q < inLen l p then ((l.getD p.toNat []).getD q.toNat 0, true) else (0, false)
theorem inLen_pos {l : List (List Int)} {p : Int} (h : 0 < inLen l p) : 0 ≤ p ∧ p < (l.length : Int) ∧ inLen l p = ((l.getD p.toNat []).length : Int) := by
  unfold inLen at h ⊢
  split at h
  · rename_i h0; rw [if_pos h0]; exact ⟨h0.1, h0.2, rfl⟩
  · omega
theorem get_f (K : Nat) (l : List (List Int)) (p q : Int) (hq : -2147483648 ≤ q ∧ q < 2147483648) : input_Inputs_Get.f K l p q = some (inGet l p q) := by
  unfold input_Inputs_Get.f inGet
  simp only [lt, len_f, b1]
  rw [w64_id (by omega) (by omega)]
  by_cases h1 : q < 0
  · rw [if_pos h1, if_pos trivial, if_neg (by omega)]
  · rw [if_neg h1]
    by_cases h2 : q ≥ inLen l p
    · rw [if_pos (decide_eq_true h2), if_neg (by omega)]
    · obtain ⟨a, b, c⟩ := inLen_pos (l := l) (p := p) (by omega)
      rw [if_neg (by simpa using h2), if_pos a, if_pos b, if_pos (by omega), if_pos (by omega), if_pos (by omega)]
theorem ref_f (K : Nat) (l : List (List Int)) (p q : Int) (hq : -2147483648 ≤ q ∧ q < 2147483648) : confidantref12_Input.f K l p q = some (inGet l p q) := by
  unfold confidantref12_Input.f inGet inLen
  simp only [lt]
  rw [w64_id (by omega) (by omega)]
  by_cases h1 : p < 0
  · rw [if_pos h1, if_pos trivial, if_neg (by rw [if_neg (by omega)]; omega)]
  rw [if_neg h1]
  by_cases h2 : p ≥ (l.length : Int)
  · rw [if_pos h2, if_pos trivial, if_neg (by rw [if_neg (by omega)]; omega)]
  rw [if_neg h2, if_pos (c := 0 ≤ p ∧ p < (l.length : Int)) (by omega)]
  by_cases h3 : q < 0
  · rw [if_pos h3, if_pos trivial, if_neg (by omega)]
  rw [if_neg h3, if_pos (by omega), if_pos (by omega)]
  by_cases h4 : q ≥ ((l.getD p.toNat []).length : Int)
  · rw [if_pos (decide_eq_true h4), if_neg (by omega)]
  · rw [if_neg (by simpa using h4), if_pos (by omega), if_pos (by omega), if_pos (by omega), if_pos (by omega), if_pos (by omega)]
end Go.Proofs.Ytepokhmomojcmaa.Pure
