import Derived.Test.YtlcnkngpankkpaaG8
import Derived.Test.YtlcnkngpankkpaaRefStep
/- Tasks that are alike. Conditions: in the lemmas. -/
set_option linter.unusedVariables false
set_option linter.unusedSimpArgs false
namespace Go.Proofs.Ytlcnkngpankkpaa.Pure
open Go Go.Fw Go.RowKit Go.Proofs.Ytlcnkngpankkpaa.G Go.Proofs.Ytlcnkngpankkpaa.Task

/-! ### lists held against one another -/
theorem eq_l0 (K : Nat) (a b : List Int) (hl : a.length = b.length) (ha : a.length ≤ 1000000) : ∀ (d n i : Nat), i + d = a.length → d < n →
    slices_Equal_int32_int32.l0 K a b n (i : Int) = some (decide (a.drop i = b.drop i)) ∧ confidantref9_SameInts_56.l0 K a b n (i : Int) = some (decide (a.drop i = b.drop i)) := by
  intro d
  induction d with
  | zero =>
    intro n i hi hn
    obtain ⟨n, rfl⟩ : ∃ m, n = m + 1 := ⟨n - 1, by omega⟩
    rw [slices_Equal_int32_int32.l0.eq_2, confidantref9_SameInts_56.l0.eq_2, if_neg (by omega), if_neg (by omega), List.drop_of_length_le (by omega), List.drop_of_length_le (by omega)]
    simp
  | succ d ih =>
    intro n i hi hn
    obtain ⟨n, rfl⟩ : ∃ m, n = m + 1 := ⟨n - 1, by omega⟩
    have e := ih n (i + 1) (by omega) (by omega)
    rw [Int.natCast_add] at e
    have ga : a.drop i = a.getD i 0 :: a.drop (i + 1) := by
      rw [List.drop_eq_getElem_cons (by omega), List.getD_eq_getElem?_getD, List.getElem?_eq_getElem (by omega)]; rfl
    have gb : b.drop i = b.getD i 0 :: b.drop (i + 1) := by
      rw [List.drop_eq_getElem_cons (by omega), List.getD_eq_getElem?_getD, List.getElem?_eq_getElem (by omega)]; rfl
    have w1 : IntKind.i64.wrap ((i : Int) + 1) = (i : Int) + 1 := w64_id (by omega) (by omega)
    have hd : (a.drop i = b.drop i) ↔ (a.getD i 0 = b.getD i 0 ∧ a.drop (i + 1) = b.drop (i + 1)) := by rw [ga, gb]; exact List.cons_eq_cons
    constructor
    · rw [slices_Equal_int32_int32.l0.eq_2, if_pos (by omega), if_pos (by omega), if_pos (by omega), w1, Int.toNat_natCast]
      by_cases q : a.getD i 0 = b.getD i 0
      · rw [if_pos q]; refine e.1.trans ?_; congr 1; rw [decide_eq_decide, hd]; exact ⟨fun h => ⟨q, h⟩, fun h => h.2⟩
      · rw [if_neg q, decide_eq_false (fun h => q (hd.1 h).1)]
    · rw [confidantref9_SameInts_56.l0.eq_2, if_pos (by omega), if_pos (by omega), if_pos (by omega), w1, Int.toNat_natCast]
      by_cases q : a.getD i 0 = b.getD i 0
      · rw [if_pos q]; refine e.2.trans ?_; congr 1; rw [decide_eq_decide, hd]; exact ⟨fun h => ⟨q, h⟩, fun h => h.2⟩
      · rw [if_neg q, decide_eq_false (fun h => q (hd.1 h).1)]
theorem equal_eq (K : Nat) (a b : List Int) (ha : a.length ≤ 1000000) (hK : a.length < K) : slices_Equal_int32_int32.f K a b = some (decide (a = b)) ∧ confidantref9_SameInts_56.f K a b = some (decide (a = b)) := by
  unfold slices_Equal_int32_int32.f confidantref9_SameInts_56.f
  by_cases h : a.length = b.length
  · rw [if_pos (by omega), if_pos (by omega)]
    have := eq_l0 K a b h ha a.length K 0 (by omega) hK
    simpa using this
  · rw [if_neg (by omega), if_neg (by omega)]
    have : ¬ a = b := fun e => h (by rw [e])
    rw [decide_eq_false this]; exact ⟨rfl, rfl⟩

def sameP (a b : S58) : Bool := decide (a.f0 = b.f0 ∧ a.f1 = b.f1 ∧ a.f2 = b.f2 ∧ a.f3 = b.f3 ∧ ((a.f4.f0 == b.f4.f0) && ((a.f4.f1 == b.f4.f1) && ((a.f4.f2 == b.f4.f2) && ((a.f4.f3 == b.f4.f3) && true)))) = true ∧ a.f5 = b.f5 ∧ a.f6 = b.f6 ∧ a.f7 = b.f7 ∧ a.f8 = b.f8)
theorem rsame_eq (K : Nat) (a b : S58) (ha : a.f3.length ≤ 1000000) (hK : a.f3.length < K) : confidantref9_Same.f K a b = some (sameP a b) := by
  unfold confidantref9_Same.f sameP
  rw [(equal_eq K a.f3 b.f3 ha hK).2]
  simp only [b1]
  by_cases h0 : a.f0 = b.f0
  · rw [if_pos h0]
    by_cases h1 : a.f1 = b.f1
    · rw [if_pos h1]
      by_cases h2 : a.f2 = b.f2
      · rw [if_pos h2]
        by_cases h3 : a.f3 = b.f3
        · rw [if_pos (decide_eq_true h3)]
          by_cases h4 : ((a.f4.f0 == b.f4.f0) && ((a.f4.f1 == b.f4.f1) && ((a.f4.f2 == b.f4.f2) && ((a.f4.f3 == b.f4.f3) && true)))) = true
          · rw [if_pos h4]
            by_cases h5 : a.f5 = b.f5
            · rw [if_pos h5]
              by_cases h6 : a.f6 = b.f6
              · rw [if_pos h6]
                by_cases h7 : a.f7 = b.f7
                · rw [if_pos h7]; congr 1; rw [decide_eq_decide]; exact ⟨fun h => ⟨h0, h1, h2, h3, h4, h5, h6, h7, h⟩, fun h => h.2.2.2.2.2.2.2.2⟩
                · rw [if_neg h7, decide_eq_false (fun h => h7 h.2.2.2.2.2.2.2.1)]
              · rw [if_neg h6, decide_eq_false (fun h => h6 h.2.2.2.2.2.2.1)]
            · rw [if_neg h5, decide_eq_false (fun h => h5 h.2.2.2.2.2.1)]
          · rw [if_neg h4, decide_eq_false (fun h => h4 h.2.2.2.2.1)]
        · rw [if_neg (by simpa using h3), decide_eq_false (fun h => h3 h.2.2.2.1)]
      · rw [if_neg h2, decide_eq_false (fun h => h2 h.2.2.1)]
    · rw [if_neg h1, decide_eq_false (fun h => h1 h.2.1)]
  · rw [if_neg h0, decide_eq_false (fun h => h0 h.1)]
theorem tsame_eq (K : Nat) (a b : S58) (ha : a.f3.length ≤ 1000000) (hK : a.f3.length < K) : task_Same.f K a b = some (sameP a b) := by
  unfold task_Same.f sameP
  rw [(equal_eq K a.f3 b.f3 ha hK).1]
  simp only [b1]
  by_cases h3 : a.f3 = b.f3
  · rw [if_pos (decide_eq_true h3)]
    by_cases h0 : a.f0 = b.f0
    · rw [if_pos h0]
      by_cases h1 : a.f1 = b.f1
      · rw [if_pos h1]
        by_cases h2 : a.f2 = b.f2
        · rw [if_pos h2]
          by_cases h4 : ((a.f4.f0 == b.f4.f0) && ((a.f4.f1 == b.f4.f1) && ((a.f4.f2 == b.f4.f2) && ((a.f4.f3 == b.f4.f3) && true)))) = true
          · rw [if_pos h4]
            by_cases h5 : a.f5 = b.f5
            · rw [if_pos h5]
              by_cases h6 : a.f6 = b.f6
              · rw [if_pos h6]
                by_cases h7 : a.f7 = b.f7
                · rw [if_pos h7]; congr 1; rw [decide_eq_decide]; exact ⟨fun h => ⟨h0, h1, h2, h3, h4, h5, h6, h7, h⟩, fun h => h.2.2.2.2.2.2.2.2⟩
                · rw [if_neg h7, decide_eq_false (fun h => h7 h.2.2.2.2.2.2.2.1)]
              · rw [if_neg h6, decide_eq_false (fun h => h6 h.2.2.2.2.2.2.1)]
            · rw [if_neg h5, decide_eq_false (fun h => h5 h.2.2.2.2.2.1)]
          · rw [if_neg h4, decide_eq_false (fun h => h4 h.2.2.2.2.1)]
        · rw [if_neg h2, decide_eq_false (fun h => h2 h.2.2.1)]
      · rw [if_neg h1, decide_eq_false (fun h => h1 h.2.1)]
    · rw [if_neg h0, decide_eq_false (fun h => h0 h.1)]
  · rw [if_neg (by simpa using h3), decide_eq_false (fun h => h3 h.2.2.2.1)]
theorem sameP_self (a : S58) : sameP a a = true := by unfold sameP; simp
theorem same_self (K : Nat) (a : S58) (ha : a.f3.length ≤ 1000000) (hK : a.f3.length < K) : confidantref9_Same.f K a a = some true := by rw [rsame_eq K a a ha hK, sameP_self]

end Go.Proofs.Ytlcnkngpankkpaa.Pure
