import Derived.Test.YtepokhmomojcmaaInput
/- What a label has from outside stays what was told. No condition. -/
set_option linter.unusedVariables false
set_option linter.unusedSimpArgs false
namespace Go.Proofs.Ytepokhmomojcmaa.Pure
open Go Go.Fw Go.RowKit Go.Proofs.Ytepokhmomojcmaa.G

theorem ik_0 (K : Nat) (j : List Int → Option Bool) (hj : ∀ l, j l = some true) : ∀ (d n : Nat) (l : List Int) (i : Nat), l.length ≤ 100 → i + d = l.length → d < n → confidantlaw14_InputKeeps.l0 K j n l (i : Int) = some true
  | 0, n, l, i, hl, hd, hm => by
    obtain ⟨n, rfl⟩ : ∃ k, n = k + 1 := ⟨n - 1, by omega⟩
    rw [confidantlaw14_InputKeeps.l0.eq_2, if_neg (by omega)]
    exact hj l
  | d + 1, n, l, i, hl, hd, hm => by
    obtain ⟨n, rfl⟩ : ∃ k, n = k + 1 := ⟨n - 1, by omega⟩
    rw [confidantlaw14_InputKeeps.l0.eq_2, if_pos (by omega), if_pos (by omega)]
    simp only [lt]
    rw [w64_id (by omega) (by omega), show ((i : Int) + 1) = ((i + 1 : Nat) : Int) by omega]
    exact ik_0 K j hj d n _ (i + 1) (by simpa using hl) (by simp; omega) (by omega)

theorem ik_1 (K : Nat) (a b : List Int) (j : Option Bool) (ha : a.length ≤ 100) : ∀ (d n i : Nat), i + d = a.length → d < n → confidantlaw14_InputKeeps.l1 K a [a, b] j n (i : Int) = j
  | 0, n, i, hd, hm => by
    obtain ⟨n, rfl⟩ : ∃ k, n = k + 1 := ⟨n - 1, by omega⟩
    rw [confidantlaw14_InputKeeps.l1.eq_2, if_neg (by omega)]
  | d + 1, n, i, hd, hm => by
    obtain ⟨n, rfl⟩ : ∃ k, n = k + 1 := ⟨n - 1, by omega⟩
    have e : inGet [a, b] 0 (i : Int) = (a.getD i 0, true) := by
      unfold inGet inLen
      simp [List.getD]
      omega
    rw [confidantlaw14_InputKeeps.l1.eq_2, if_pos (by omega), w32_id (x := (i : Int)) (by omega) (by omega), get_f K _ _ _ (by omega), e]
    simp only [b2, lt, if_true, Int.toNat_natCast, decide_true, Bool.not_true, Bool.false_eq_true, if_false]
    rw [if_pos (by omega), w64_id (by omega) (by omega), show ((i : Int) + 1) = ((i + 1 : Nat) : Int) by omega]
    exact ik_1 K a b j ha d n (i + 1) (by omega) (by omega)

theorem InputKeeps : confidantlaw14_InputKeeps.Pure := by
  intro a b k _ ha _ hb hk
  have uk := is_u8 hk
  obtain ⟨K, hK, hkn⟩ : ∃ K, 200 ≤ K ∧ confidantlaw14_known.f K = some true := ⟨200, Nat.le_refl _, by kernel_rfl⟩
  refine ⟨K, ?_⟩
  unfold confidantlaw14_InputKeeps.f
  simp only [hkn, b1, if_true, lt]
  by_cases h1 : (a.length : Int) > 30
  · rw [if_pos h1]
  rw [if_neg h1]
  by_cases h2 : (b.length : Int) > 30
  · rw [if_pos (decide_eq_true h2)]
  rw [if_neg (by simpa using h2)]
  simp only [List.length_nil, List.nil_append, Nat.zero_add]
  rw [if_pos (by omega), if_pos (by omega), new_f K [a, b] (by simp) (by simp; omega) (by simp; omega)]
  simp only
  refine ik_0 K _ (fun l => ?_) a.length K a 0 (by omega) (by omega) (by omega)
  refine Eq.trans (ik_1 K a b _ (by omega) a.length K 0 (by omega) (by omega)) ?_
  have h3 : Int.tmod k 2 = 0 ∨ Int.tmod k 2 = 1 := by rw [Int.tmod_eq_emod_of_nonneg (by omega)]; omega
  rcases h3 with h3 | h3
  · rw [h3]
    simp only [List.length_cons, List.length_nil]
    rw [if_pos (by omega), if_pos (by omega), w64_id (by omega) (by omega)]
    have e : ([(a.length : Int), (b.length : Int)] : List Int).getD (0 : Int).toNat 0 = (a.length : Int) := rfl
    rw [e, w32_id (by omega) (by omega), get_f K _ _ _ (by omega)]
    have e2 : inGet [a, b] 0 (a.length : Int) = (0, false) := by unfold inGet inLen; simp [List.getD]
    rw [e2, len_f, len_f]
    simp [b2, inLen, List.getD]
  · rw [h3]
    simp only [List.length_cons, List.length_nil]
    rw [if_pos (by omega), if_pos (by omega), w64_id (by omega) (by omega)]
    have e : ([(a.length : Int), (b.length : Int)] : List Int).getD (1 : Int).toNat 0 = (b.length : Int) := rfl
    rw [e, w32_id (by omega) (by omega), get_f K _ _ _ (by omega)]
    have e2 : inGet [a, b] 1 (b.length : Int) = (0, false) := by unfold inGet inLen; simp [List.getD]
    rw [e2, len_f, len_f]
    simp [b2, inLen, List.getD]
end Go.Proofs.Ytepokhmomojcmaa.Pure
