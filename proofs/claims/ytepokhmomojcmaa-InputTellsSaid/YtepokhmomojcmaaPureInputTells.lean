import Derived.Test.YtepokhmomojcmaaInput
/- What each label has from outside. No condition. -/
set_option linter.unusedVariables false
set_option linter.unusedSimpArgs false
namespace Go.Proofs.Ytepokhmomojcmaa.Pure
open Go Go.Fw Go.RowKit Go.Proofs.Ytepokhmomojcmaa.G

theorem it_2 (K : Nat) (ns : List Int) (l ps : List (List Int)) (qs : List Int) (x : Int) (j : List Int → Option Bool) (hl : ns.length ≤ 100) (hn : ∀ q ∈ ns, -2147483648 ≤ q ∧ q < 2147483648) : ∀ (d n i : Nat), i + d = ns.length → d < n →
    confidantlaw14_InputTells.l2 K ns l qs x l j n (i : Int) = j ns
  | 0, n, i, hd, hm => by
    obtain ⟨n, rfl⟩ : ∃ k, n = k + 1 := ⟨n - 1, by omega⟩
    rw [confidantlaw14_InputTells.l2.eq_2, if_neg (by omega)]
  | d + 1, n, i, hd, hm => by
    obtain ⟨n, rfl⟩ : ∃ k, n = k + 1 := ⟨n - 1, by omega⟩
    have hi : i < ns.length := by omega
    have e : ns.getD (i : Int).toNat 0 = ns[i] := by simp [List.getD, hi]
    rw [confidantlaw14_InputTells.l2.eq_2, if_pos (by omega), if_pos (by omega), e, get_f K _ _ _ (hn _ (List.getElem_mem hi)), ref_f K _ _ _ (hn _ (List.getElem_mem hi))]
    simp only [b2, lt, if_true, beq_self_eq_true, Bool.not_true, Bool.false_eq_true, if_false]
    rw [w64_id (by omega) (by omega), show ((i : Int) + 1) = ((i + 1 : Nat) : Int) by omega]
    exact it_2 K ns l ps qs x j hl hn d n (i + 1) (by omega) (by omega)

theorem it_1 (K : Nat) (qs : List Int) (l : List (List Int)) (a b : Int) (hq : qs.length ≤ 100) (hll : l.length ≤ 100) (ha : -2147483648 ≤ a ∧ a < 2147483648) (hK : 3 ≤ K) : ∀ (d n i : Nat), i + d = qs.length → d < n →
    confidantlaw14_InputTells.l1 K qs l l a b n (i : Int) = some true
  | 0, n, i, hd, hm => by
    obtain ⟨n, rfl⟩ : ∃ k, n = k + 1 := ⟨n - 1, by omega⟩
    rw [confidantlaw14_InputTells.l1.eq_2, if_neg (by omega)]
  | d + 1, n, i, hd, hm => by
    obtain ⟨n, rfl⟩ : ∃ k, n = k + 1 := ⟨n - 1, by omega⟩
    have ih := it_1 K qs l a b hq hll ha hK d n (i + 1) (by omega) (by omega)
    rw [confidantlaw14_InputTells.l1.eq_2, if_pos (by omega)]
    simp only [lt, len_f, b1]
    rw [if_pos (by omega), w64_id (x := (i : Int) + 1) (by omega) (by omega), show ((i : Int) + 1) = ((i + 1 : Nat) : Int) by omega, ih]
    refine Eq.trans (it_2 K _ l l qs i _ (by simp) (fun q h => ?_) 2 K 0 (by simp) (by omega)) ?_
    · rcases List.mem_cons.1 h with rfl | h
      · exact ha
      · rw [List.mem_singleton.1 h, w32]; omega
    · generalize qs.getD (i : Int).toNat 0 = p
      unfold inLen
      by_cases h1 : 0 ≤ p
      · by_cases h2 : p < (l.length : Int)
        · simp [h1, h2]
        · simp [h1, h2]
      · simp [h1]

theorem it_0 (K : Nat) (l : List (List Int)) (j : Option Bool) (hll : l.length ≤ 100) (hj : (∀ r ∈ l, r.length ≤ 70) → j = some true) : ∀ (d n i : Nat), i + d = l.length → d < n → (∀ r ∈ l.take i, r.length ≤ 70) →
    confidantlaw14_InputTells.l0 K l j n (i : Int) = some true
  | 0, n, i, hd, hm, hr => by
    obtain ⟨n, rfl⟩ : ∃ k, n = k + 1 := ⟨n - 1, by omega⟩
    rw [confidantlaw14_InputTells.l0.eq_2, if_neg (by omega)]
    rw [List.take_of_length_le (by omega)] at hr
    exact hj hr
  | d + 1, n, i, hd, hm, hr => by
    obtain ⟨n, rfl⟩ : ∃ k, n = k + 1 := ⟨n - 1, by omega⟩
    have hi : i < l.length := by omega
    have e : l.getD (i : Int).toNat [] = l[i] := by simp [List.getD, hi]
    rw [confidantlaw14_InputTells.l0.eq_2, if_pos (by omega), if_pos (by omega), e]
    by_cases h : (l[i].length : Int) > 70
    · rw [if_pos h]
    · rw [if_neg h, w64_id (by omega) (by omega), show ((i : Int) + 1) = ((i + 1 : Nat) : Int) by omega]
      refine it_0 K l j hll hj d n (i + 1) (by omega) (by omega) fun r h' => ?_
      rw [List.take_add_one] at h'
      simp only [List.getElem?_eq_getElem hi, Option.toList_some, List.mem_append, List.mem_singleton] at h'
      rcases h' with h' | rfl
      · exact hr r h'
      · omega

theorem InputTells : confidantlaw14_InputTells.Pure := by
  intro l p q k hl hr hp hq hk
  have uq := is_i32 hq
  have uk := is_u8 hk
  obtain ⟨K, hK, hkn⟩ : ∃ K, 200 ≤ K ∧ confidantlaw14_known.f K = some true := ⟨200, Nat.le_refl _, by kernel_rfl⟩
  refine ⟨K, ?_⟩
  unfold confidantlaw14_InputTells.f
  simp only [hkn, b1, if_true, lt]
  by_cases h : (l.length : Int) > 20
  · rw [if_pos h]
  rw [if_neg h]
  refine it_0 K l _ (by omega) (fun hrow => ?_) l.length K 0 (by omega) (by omega) (by simp)
  have hn := new_f K l (by omega) (fun r h => by have := hrow r h; omega) (by omega)
  rw [hn]
  simp only
  exact it_1 K _ l q k (by simp) (by omega) (by omega) (by omega) 2 K 0 (by simp) (by omega)
end Go.Proofs.Ytepokhmomojcmaa.Pure
