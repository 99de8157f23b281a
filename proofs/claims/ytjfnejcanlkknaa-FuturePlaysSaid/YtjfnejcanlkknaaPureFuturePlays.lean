import Derived.Test.YtjfnejcanlkknaaG0
import Derived.Test.YtjfnejcanlkknaaG3
import Derived.Test.YtjfnejcanlkknaaG4
import Derived.Test.YtjfnejcanlkknaaG5
import Derived.Test.YtjfnejcanlkknaaG6
import Derived.Test.YtjfnejcanlkknaaFuture
/- Any story of what is made, kept, broken comes to just what the document tells. No condition. -/
set_option linter.unusedVariables false
set_option linter.unusedSimpArgs false
namespace Go.Proofs.Ytjfnejcanlkknaa.Pure
open Go Go.Fw Go.RowKit Go.Proofs.Ytjfnejcanlkknaa.G Go.Proofs.Ytjfnejcanlkknaa.Future

/-! ### the reference -/
theorem rlabel_f (K : Nat) (id : Int) (h : -2147483648 ≤ id ∧ id < 2147483648) : confidantref9_Label.f K id = some (if id < 0 then -1 else id / 65536) := by
  unfold confidantref9_Label.f
  by_cases h0 : id < 0
  · rw [if_pos h0, if_pos h0]
  · rw [if_neg h0, if_neg h0, Int.tdiv_eq_ediv_of_nonneg (by omega), w32_id (by omega) (by omega), w64_id (by omega) (by omega)]
theorem rnumber_f (K : Nat) (id : Int) (h : -2147483648 ≤ id ∧ id < 2147483648) : confidantref9_Number.f K id = some (if id < 0 then -1 else id % 65536) := by
  unfold confidantref9_Number.f
  by_cases h0 : id < 0
  · rw [if_pos h0, if_pos h0]
  · rw [if_neg h0, if_neg h0, Int.tmod_eq_emod_of_nonneg (by omega), w64_id (by omega) (by omega)]
theorem rof_f (K : Nat) (a n : Int) (ha : 0 ≤ a ∧ a < 16) (hn : 0 ≤ n ∧ n < 65536) : confidantref9_Of.f K a n = some (a * 65536 + n, true) := by
  unfold confidantref9_Of.f
  simp only [lt]
  rw [if_neg (by omega), if_neg (by omega), if_neg (by omega), if_neg (by simp; omega), w64_id (x := a * 65536) (by omega) (by omega), w64_id (by omega) (by omega), w32_id (by omega) (by omega)]
theorem rmake_f (K : Nat) (L : List (List S75)) (q : List Int) (b lab : Int) (h : Qs L q) : confidantref12_Futures_Make.f K q L b lab = some (made L q b lab) := by
  unfold confidantref12_Futures_Make.f made
  have hr := h.row b
  have hle := h.le
  have hlen := h.len
  have hrow : L.getD b.toNat [] = row L b := rfl
  simp only [lt, hrow]
  by_cases h1 : b < 0
  · rw [if_pos h1, if_pos trivial, if_neg (fun h => by have := h.1; omega)]
  rw [if_neg h1]
  by_cases h2 : b ≥ (L.length : Int)
  · rw [if_pos h2, if_pos trivial, if_neg (fun h => by have := h.2.1; omega)]
  rw [if_neg h2, if_pos (by omega), if_pos (by omega), if_pos (by omega)]
  have hq := h.quota b (by omega) (by omega)
  by_cases h3 : ((row L b).length : Int) ≥ q.getD b.toNat 0
  · rw [if_pos (decide_eq_true h3), if_neg (fun h => by have := h.2.2; omega)]
  · rw [if_neg (by simpa using h3), if_pos (by omega), if_pos (by omega), rof_f K _ _ (by omega) (by omega), if_pos ⟨by omega, by omega, by omega⟩]
    simp only [b2, List.length_cons, List.length_nil]
    rw [if_pos (by omega)]
theorem rget_f (K : Nat) (L : List (List S75)) (q : List Int) (id : Int) (hid : -2147483648 ≤ id ∧ id < 2147483648) (hL : L.length ≤ 16) : confidantref12_Futures_Get.f K q L id = some (if There L id then (at_ L id, true) else (zS75, false)) := by
  unfold confidantref12_Futures_Get.f confidantref9_Valid.f
  rw [rlabel_f K id hid, rnumber_f K id hid]
  have hm : mn (L.length : Int) 16 = (L.length : Int) := by unfold mn; split <;> omega
  have hrow : L.getD (id / 65536).toNat [] = row L (id / 65536) := rfl
  simp only [lt]
  by_cases h0 : id < 0
  · rw [if_neg (show ¬ id ≥ 0 by omega), if_neg (fun h : There L id => by have := h.1; omega)]; rfl
  · rw [if_pos (show id ≥ 0 by omega), if_neg h0, if_neg h0, hm]
    simp only [b1, hrow]
    by_cases h1 : id / 65536 < (L.length : Int)
    · rw [if_pos (decide_eq_true h1), if_pos (by omega), if_pos h1]
      by_cases h2 : id % 65536 ≥ ((row L (id / 65536)).length : Int)
      · rw [if_pos (decide_eq_true h2), if_neg (fun h : There L id => by have := h.2.2; omega)]; rfl
      · rw [if_neg (by simpa using h2), if_pos (by omega), if_pos (by omega), if_pos (by omega), if_pos (by omega), if_pos (show There L id from ⟨by omega, h1, by omega⟩)]; rfl
    · rw [if_neg (by simpa using h1), if_pos trivial, if_neg (fun h : There L id => h1 h.2.1)]; rfl
theorem rend_f (K : Nat) (L : List (List S75)) (q : List Int) (id s v c : Int) (hid : -2147483648 ≤ id ∧ id < 2147483648) (hL : L.length ≤ 16) : confidantref12_Futures_end.f K q L id s v c = some (ended L id s v c) := by
  unfold confidantref12_Futures_end.f ended
  rw [rget_f K L q id hid hL, rlabel_f K id hid, rnumber_f K id hid]
  by_cases ht : There L id
  · have hrow : L.getD (id / 65536).toNat [] = row L (id / 65536) := rfl
    have h1 := ht.1
    have h2 := ht.2.1
    have h3 := ht.2.2
    rw [if_pos ht]
    simp only [b2, b1, lt, if_true, hrow]
    by_cases h4 : (at_ L id).f1 = 0
    · rw [if_neg (by simp [h4]), if_neg (show ¬ id < 0 by omega), if_neg (show ¬ id < 0 by omega), if_pos (by omega), if_pos (by omega), if_pos (by omega), if_pos (show id % 65536 < ((L.getD (id / 65536).toNat []).length : Int) from h3), if_pos ⟨ht, h4⟩]
      rfl
    · rw [if_pos (by simp [h4]), if_neg (fun h => h4 h.2)]
  · rw [if_neg ht, if_neg (show ¬ (There L id ∧ (at_ L id).f1 = 0) from fun h => ht h.1)]
    simp only [b2, lt, if_true, Bool.false_eq_true, if_false]
theorem rkeep_f (K : Nat) (L : List (List S75)) (q : List Int) (id v : Int) (hid : -2147483648 ≤ id ∧ id < 2147483648) (hL : L.length ≤ 16) : confidantref12_Futures_Keep.f K q L id v = some (ended L id 1 v 0) := by
  unfold confidantref12_Futures_Keep.f
  rw [rend_f K L q id 1 v 0 hid hL]; rfl
theorem rbreak_f (K : Nat) (L : List (List S75)) (q : List Int) (id c : Int) (hid : -2147483648 ≤ id ∧ id < 2147483648) (hL : L.length ≤ 16) : confidantref12_Futures_Break.f K q L id c = some (ended L id 2 0 c) := by
  unfold confidantref12_Futures_Break.f
  rw [rend_f K L q id 2 0 c hid hL]; rfl
theorem rcount_f (K : Nat) (L : List (List S75)) (q : List Int) (b : Int) : confidantref12_Futures_Count.f K q L b = some (count L b) := by
  unfold confidantref12_Futures_Count.f count
  have hrow : L.getD b.toNat [] = row L b := rfl
  simp only [lt, hrow]
  by_cases h1 : b < 0
  · rw [if_pos h1, if_pos trivial, if_neg (by omega)]
  rw [if_neg h1]
  by_cases h2 : b ≥ (L.length : Int)
  · rw [if_pos (decide_eq_true h2), if_neg (by omega)]
  · rw [if_neg (by simpa using h2), if_pos (by omega), if_pos (by omega), if_pos (by omega)]

theorem quotas_l (K : Nat) (l : List Int) (hl : l.length ≤ 1000) : ∀ (d n i : Nat), i + d = (l.take 16).length → d < n → confidantref12_quotas.l0 K l n ((l.take i).map clamp) (i : Int) = some ((l.take 16).map clamp)
  | 0, n, i, hd, hn => by
    obtain ⟨n, rfl⟩ : ∃ k, n = k + 1 := ⟨n - 1, by omega⟩
    rw [List.length_take] at hd
    have ht : l.take i = l.take 16 := by
      by_cases h : l.length ≤ 16
      · rw [List.take_of_length_le (by omega), List.take_of_length_le h]
      · rw [show i = 16 by omega]
    rw [confidantref12_quotas.l0.eq_2]
    simp only [lt]
    by_cases h1 : (i : Int) < (l.length : Int)
    · rw [if_pos h1, if_neg (by simp; omega), ht]
    · rw [if_neg h1, if_neg (by decide), ht]
  | d + 1, n, i, hd, hn => by
    obtain ⟨n, rfl⟩ : ∃ k, n = k + 1 := ⟨n - 1, by omega⟩
    have hd' := hd
    rw [List.length_take] at hd'
    have hi : i < l.length := by omega
    have e1 : l.getD (i : Int).toNat 0 = l[i] := by simp [List.getD, hi]
    have e2 : (l.take i).map clamp ++ [clamp l[i]] = (l.take (i + 1)).map clamp := by rw [List.take_add_one]; simp only [List.getElem?_eq_getElem hi, Option.toList_some, List.map_append, List.map_cons, List.map_nil]
    have e4 : mn (mx l[i] 0) 4096 = clamp l[i] := rfl
    rw [confidantref12_quotas.l0.eq_2]
    simp only [lt, e1, e4, e2, List.length_map, List.length_take, List.length_cons, List.length_nil]
    rw [if_pos (by omega), if_pos (by simp; omega), if_pos (by omega), if_pos (by omega), if_pos (by omega), w64_id (by omega) (by omega), show ((i : Int) + 1) = ((i + 1 : Nat) : Int) by omega]
    exact quotas_l K l hl d n (i + 1) (by omega) (by omega)
theorem rnew_f (K : Nat) (l : List Int) (hl : l.length ≤ 1000) (hK : 20 ≤ K) : confidantref12_NewFutures.f K l = some ((l.take 16).map clamp, List.replicate (l.take 16).length []) := by
  unfold confidantref12_NewFutures.f confidantref12_quotas.f
  have h := quotas_l K l hl (l.take 16).length K 0 (by omega) (by rw [List.length_take]; omega)
  simp only [List.take_zero, List.map_nil] at h
  rw [show (0 : Int) = ((0 : Nat) : Int) from rfl, h]
  have hle : (l.take 16).length ≤ 16 := by rw [List.length_take]; omega
  simp only [b1, lt, List.length_map, Int.toNat_natCast]
  rw [if_pos (by omega), if_pos (by omega)]

/-! ### the same -/
theorem sf_1 (K : Nat) (L : List (List S75)) (k : Nat) (j : Option Bool) (hr : (row L (k : Int)).length ≤ 4096) : ∀ (d n i : Nat), i + d = (row L (k : Int)).length → d < n → confidantref12_SameFutures.l1 K L (k : Int) L j n (i : Int) = j
  | 0, n, i, hd, hn => by
    obtain ⟨n, rfl⟩ : ∃ k, n = k + 1 := ⟨n - 1, by omega⟩
    have hrow : L.getD (k : Int).toNat [] = row L (k : Int) := rfl
    rw [confidantref12_SameFutures.l1.eq_2, hrow, if_neg (by omega)]
  | d + 1, n, i, hd, hn => by
    obtain ⟨n, rfl⟩ : ∃ k, n = k + 1 := ⟨n - 1, by omega⟩
    have hrow : L.getD (k : Int).toNat [] = row L (k : Int) := rfl
    rw [confidantref12_SameFutures.l1.eq_2, hrow, if_pos (by omega), if_pos (by omega), if_pos (by omega), if_pos (by simp), w64_id (by omega) (by omega), show ((i : Int) + 1) = ((i + 1 : Nat) : Int) by omega]
    exact sf_1 K L k j hr d n (i + 1) (by omega) (by omega)
theorem sf_0 (K : Nat) (L : List (List S75)) (q : List Int) (hq : Qs L q) (hK : 5000 ≤ K) : ∀ (d n k : Nat), k + d = L.length → d < n → confidantref12_SameFutures.l0 K L L n (k : Int) = some true
  | 0, n, k, hd, hn => by
    obtain ⟨n, rfl⟩ : ∃ k, n = k + 1 := ⟨n - 1, by omega⟩
    rw [confidantref12_SameFutures.l0.eq_2, if_neg (by omega)]
  | d + 1, n, k, hd, hn => by
    obtain ⟨n, rfl⟩ : ∃ k, n = k + 1 := ⟨n - 1, by omega⟩
    have hle := hq.le
    have hr := hq.row (k : Int)
    rw [confidantref12_SameFutures.l0.eq_2, if_pos (by omega)]
    simp only [lt]
    rw [if_pos (by omega), if_pos (by omega), if_pos trivial]
    refine Eq.trans (sf_1 K L k _ hr (row L (k : Int)).length K 0 (by omega) (by omega)) ?_
    rw [w64_id (by omega) (by omega), show ((k : Int) + 1) = ((k + 1 : Nat) : Int) by omega]
    exact sf_0 K L q hq hK d n (k + 1) (by omega) (by omega)
theorem same_f (K : Nat) (L : List (List S75)) (q : List Int) (hq : Qs L q) (hK : 5000 ≤ K) : confidantref12_SameFutures.f K L L = some true := by
  have hle := hq.le
  unfold confidantref12_SameFutures.f
  rw [if_pos rfl]
  exact sf_0 K L q hq hK L.length K 0 (by omega) (by omega)

/-! ### the law -/
theorem fp_1 (K : Nat) (hK : 5000 ≤ K) (l : List S68) (hl : l.length ≤ 60) (ho : ∀ x ∈ l, okS68 x) (q : List Int) : ∀ (d n i : Nat) (L : List (List S75)), i + d = l.length → d < n → Qs L q →
    confidantlaw13_FuturePlays.l1 K l q q n L L (i : Int) = some true
  | 0, n, i, L, hd, hn, hq => by
    obtain ⟨n, rfl⟩ : ∃ k, n = k + 1 := ⟨n - 1, by omega⟩
    rw [confidantlaw13_FuturePlays.l1.eq_2, if_neg (by omega)]
  | d + 1, n, i, L, hd, hn, hq => by
    obtain ⟨n, rfl⟩ : ∃ k, n = k + 1 := ⟨n - 1, by omega⟩
    have hi : i < l.length := by omega
    have e : l.getD (i : Int).toNat zS68 = l[i] := by simp [List.getD, hi]
    have hok := ho _ (List.getElem_mem hi)
    obtain ⟨o0, o1, o2, o3, o4, o5, _⟩ := hok
    have u0 := is_u8 o0
    have u1 := is_u8 o1
    have u3 := is_u8 o3
    have u5 := is_i32 o5
    have hle := hq.le
    rw [confidantlaw13_FuturePlays.l1.eq_2, if_pos (by omega), if_pos (by omega), e]
    refine lt_all (P := fun _ => True) trivial (fun by_ _ => ?_)
    refine lt_all (P := fun y => -2147483648 ≤ y ∧ y < 2147483648) (by rw [w32]; omega) (fun y hy => ?_)
    refine lt_all (P := fun J => ∀ id : Int, -2147483648 ≤ id ∧ id < 2147483648 → J id = some true) (fun id hid => ?_) (fun J hJ => ?_)
    · refine lt_all (P := fun J => ∀ L', Qs L' q → J L' L' = some true) (fun L' hq' => ?_) (fun J hJ => ?_)
      · rw [get_f K L' q id hid, rget_f K L' q id hid hq'.le]
        generalize (if There L' id then (at_ L' id, true) else (zS75, false)) = r
        obtain ⟨x, y⟩ := r
        simp only [b2, lt, beq_self_eq_true, Bool.and_true, if_true]
        rw [count_f, rcount_f]
        simp only [b1, if_true]
        rw [all_f K hq' (by omega)]
        simp only
        rw [same_f K L' q hq' hK]
        simp only [Bool.not_true, Bool.false_eq_true, if_false]
        rw [w64_id (by omega) (by omega), show ((i : Int) + 1) = ((i + 1 : Nat) : Int) by omega]
        exact fp_1 K hK l hl ho q d n (i + 1) L' (by omega) (by omega) hq'
      · refine lt_all (P := fun J2 => J2 true = some true ∧ J2 false = some true) ⟨?_, ?_⟩ (fun J2 hJ2 => ?_)
        · simp only [if_true]
          rw [make_f K L q _ _ hq, rmake_f K L q _ _ hq]
          have hq' := made_qs hq by_ (IntKind.i64.wrap (Int.tmod (l[i]).f2 16))
          generalize made L q by_ (IntKind.i64.wrap (Int.tmod (l[i]).f2 16)) = r at hq'
          obtain ⟨L', x, y⟩ := r
          simp only [b3, lt, if_true, beq_self_eq_true, Bool.not_true, Bool.false_eq_true, if_false]
          exact hJ L' hq'
        · simp only [Bool.false_eq_true, if_false]
          by_cases h3 : Int.tmod (l[i]).f0 6 = 3
          · rw [if_pos h3, keep_f K L q id _ hid, rkeep_f K L q id _ hid hle]
            have hq' := ended_qs hq id 1 (l[i]).f4 0
            generalize ended L id 1 (l[i]).f4 0 = r at hq'
            obtain ⟨L', x⟩ := r
            simp only [b2, beq_self_eq_true, if_true]
            exact hJ L' hq'
          · rw [if_neg h3]
            by_cases h4 : Int.tmod (l[i]).f0 6 = 4
            · rw [if_pos h4, break_f K L q id _ hid, rbreak_f K L q id _ hid hle]
              have hq' := ended_qs hq id 2 0 (IntKind.i64.wrap (l[i]).f2)
              generalize ended L id 2 0 (IntKind.i64.wrap (l[i]).f2) = r at hq'
              obtain ⟨L', x⟩ := r
              simp only [b2, beq_self_eq_true, if_true]
              exact hJ L' hq'
            · rw [if_neg h4]
              exact hJ L hq
        · by_cases h0 : Int.tmod (l[i]).f0 6 = 0
          · rw [if_pos h0]; exact hJ2.1
          rw [if_neg h0]
          by_cases h1 : Int.tmod (l[i]).f0 6 = 1
          · rw [if_pos h1]; exact hJ2.1
          rw [if_neg h1]
          cases decide (Int.tmod (l[i]).f0 6 = 2)
          · exact hJ2.2
          · exact hJ2.1
    · by_cases h : (l[i]).f3 > 230
      · rw [if_pos h]; exact hJ _ (by omega)
      · rw [if_neg h]; exact hJ _ hy

theorem fp_0 (K : Nat) (l : List Int) (hl : l.length ≤ 20) (j : List Int → Option Bool) (hj : ∀ q, q.length ≤ 20 → j q = some true) : ∀ (d n i : Nat) (q : List Int), i + d = l.length → d < n → q.length = i → confidantlaw13_FuturePlays.l0 K l j n q (i : Int) = some true
  | 0, n, i, q, hd, hn, hq => by
    obtain ⟨n, rfl⟩ : ∃ k, n = k + 1 := ⟨n - 1, by omega⟩
    rw [confidantlaw13_FuturePlays.l0.eq_2, if_neg (by omega)]
    exact hj q (by omega)
  | d + 1, n, i, q, hd, hn, hq => by
    obtain ⟨n, rfl⟩ : ∃ k, n = k + 1 := ⟨n - 1, by omega⟩
    have hp : ∀ x, ∃ y, confidanthelp_Place.f K x 6 = some y := by
      intro x
      unfold confidanthelp_Place.f
      rw [if_neg (by decide)]
      split
      · exact ⟨_, rfl⟩
      · exact ⟨_, rfl⟩
    obtain ⟨y, hy⟩ := hp (l.getD (i : Int).toNat 0)
    rw [confidantlaw13_FuturePlays.l0.eq_2, if_pos (by omega), if_pos (by omega), hy]
    simp only [b1, lt, List.length_cons, List.length_nil]
    rw [if_pos (by omega), w64_id (x := (i : Int) + 1) (by omega) (by omega), show ((i : Int) + 1) = ((i + 1 : Nat) : Int) by omega]
    exact fp_0 K l hl j hj d n (i + 1) _ (by omega) (by omega) (by simp [hq])

theorem FuturePlays : confidantlaw13_FuturePlays.Pure := by
  intro qs l _ hw _ ho
  obtain ⟨K, hK, hkn⟩ := known_f
  refine ⟨K, ?_⟩
  unfold confidantlaw13_FuturePlays.f
  simp only [hkn, b1, if_true, lt]
  by_cases h1 : (qs.length : Int) > 20
  · rw [if_pos h1]
  rw [if_neg h1]
  by_cases h2 : (l.length : Int) > 60
  · rw [if_pos (decide_eq_true h2)]
  rw [if_neg (by simpa using h2)]
  refine fp_0 K qs (by omega) _ (fun q hq => ?_) qs.length K 0 [] (by omega) (by omega) rfl
  have hQ := new_qs q
  rw [new_f K q (by omega) (by omega), rnew_f K q (by omega) (by omega)]
  simp only [b2]
  have hle := hQ.le
  exact fp_1 K hK l (by omega) ho _ l.length K 0 _ (by omega) (by omega) hQ
end Go.Proofs.Ytjfnejcanlkknaa.Pure
