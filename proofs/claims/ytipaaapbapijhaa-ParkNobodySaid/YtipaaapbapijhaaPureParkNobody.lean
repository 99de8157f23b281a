import Derived.Test.YtipaaapbapijhaaG0
import Derived.Test.YtipaaapbapijhaaG2
import Derived.Test.YtipaaapbapijhaaG3
import Derived.Test.YtipaaapbapijhaaG4
import Derived.Test.YtipaaapbapijhaaPark
/- None is lost: who waits is woken, starved, or waits still. No condition. -/
set_option linter.unusedVariables false
set_option linter.unusedSimpArgs false
namespace Go.Proofs.Ytipaaapbapijhaa.Pure
open Go Go.Fw Go.RowKit Go.Proofs.Ytipaaapbapijhaa.G Go.Proofs.Ytipaaapbapijhaa.Future Go.Proofs.Ytipaaapbapijhaa.Park

/-- a park of i, who may wait for anything -/
structure Some (l : List S60) (i : Nat) : Prop where
  len : l.length = i
  id : ∀ x ∈ l, -2147483648 ≤ x.f1 ∧ x.f1 < 2147483648
theorem Some.add {l : List S60} {i : Nat} (h : Some l i) (t : S36) (id : Int) (hid : -2147483648 ≤ id ∧ id < 2147483648) : Some (l ++ [⟨t, id⟩]) (i + 1) := by
  refine ⟨by simp [h.len], fun x hx => ?_⟩
  rcases List.mem_append.1 hx with hx | hx
  · exact h.id x hx
  · rw [List.mem_singleton.1 hx]; exact hid

theorem one_len {L : List (List S96)} (h : Qs L [16]) : L.length = 1 := by simpa using h.len
theorem pn_0 (K : Nat) (hK : 5000 ≤ K) (a4 : Int) (a6 : Int) (k : Nat) (hk : IntKind.i64.wrap (Int.tmod a4 17) = (k : Int)) (hk2 : k ≤ 16) (j : List S60 → List (List S96) → Option Bool) (hj : ∀ l L, Some l k → j l L = some true) : ∀ (d n i : Nat) (l : List S60) (L : List (List S96)), i + d = k → d < n → Some l i → Qs L [16] → (row L 0).length = i →
    confidantlaw20_ParkNobody.l0 K a4 [16] a6 j n l L (i : Int) = some true
  | 0, n, i, l, L, hd, hn, hl, hq, hr => by
    obtain ⟨n, rfl⟩ : ∃ k, n = k + 1 := ⟨n - 1, by omega⟩
    rw [confidantlaw20_ParkNobody.l0.eq_2, hk, if_neg (by omega)]
    exact hj _ _ (by rw [← hd]; exact hl)
  | d + 1, n, i, l, L, hd, hn, hl, hq, hr => by
    obtain ⟨n, rfl⟩ : ∃ k, n = k + 1 := ⟨n - 1, by omega⟩
    have h1 := one_len hq
    have hlen := hl.len
    have hroom : Room L [16] 0 := ⟨by omega, by omega, by rw [hr]; show (i : Int) < 16; omega⟩
    have hq1 := made_qs hq 0 0
    have hmr : (row (made L [16] 0 0).1 0).length = i + 1 := by
      rw [made_room hroom]
      simp only
      rw [row_set _ _ _ _ (by omega) (by omega) (by omega), if_pos rfl]
      simp [hr]
    rw [confidantlaw20_ParkNobody.l0.eq_2, hk, if_pos (by omega), make_f K _ _ _ _ hq]
    have hid : (made L [16] 0 0).2.1 = (i : Int) := by rw [made_room hroom]; simp [hr]
    have hok : (made L [16] 0 0).2.2 = true := by rw [made_room hroom]
    generalize made L [16] 0 0 = r at hq1 hmr hid hok
    obtain ⟨L1, id, ok⟩ := r
    simp only at hid hok hq1 hmr
    subst hid; subst hok
    simp only [b3, lt, if_true, Bool.false_eq_true, if_false]
    have next : ∀ L' : List (List S96), Qs L' [16] → (row L' 0).length = i + 1 → (b1 (park_Park_Add.f K l (IntKind.i32.wrap (i : Int)) 0 0 ([] : List Int) 0 0 0 0 0 0 0 0 (i : Int)) fun t => confidantlaw20_ParkNobody.l0 K a4 [16] a6 j n t L' (IntKind.i64.wrap ((i : Int) + 1))) = some true := by
      intro L' hq' hr'
      rw [add_f K l (by omega) _ _ _ _ _ _ _ _ _ _ _ _ _ (by simp), w64_id (by omega) (by omega), show ((i : Int) + 1) = ((i + 1 : Nat) : Int) by omega]
      simp only [b1]
      exact pn_0 K hK a4 a6 k hk hk2 j hj d n (i + 1) _ L' (by omega) (by omega) (hl.add _ _ (by omega)) hq' hr'
    rw [if_neg (by rw [Int.tmod_eq_emod_of_nonneg (by omega)]; omega), keep_f K _ _ _ _ (by omega)]
    have hq2 := ended_qs hq1 (i : Int) 1 3 0
    have hr2 := ended_row L1 (i : Int) 1 3 0 0 (by omega)
    rw [hmr] at hr2
    generalize ended L1 (i : Int) 1 3 0 = r at hq2 hr2
    obtain ⟨L2, x⟩ := r
    split
    · exact next L2 hq2 hr2
    · exact next L1 hq1 hmr

theorem ParkNobody : confidantlaw20_ParkNobody.Pure := by
  intro a4 a5 a6 h4 h5 h6
  have u4 := is_u8 h4
  have u5 := is_u8 h5
  obtain ⟨K, hK, hkn⟩ := known_f
  refine ⟨K, ?_⟩
  obtain ⟨k, hk, hk2⟩ : ∃ k : Nat, IntKind.i64.wrap (Int.tmod a4 17) = (k : Int) ∧ k ≤ 16 := by
    refine ⟨(a4 % 17).toNat, ?_, by omega⟩
    rw [Int.tmod_eq_emod_of_nonneg (by omega), w64_id (by omega) (by omega)]; omega
  obtain ⟨m, hm, hm2⟩ : ∃ k : Nat, IntKind.i64.wrap (Int.tmod a5 20) = (k : Int) ∧ k ≤ 19 := by
    refine ⟨(a5 % 20).toNat, ?_, by omega⟩
    rw [Int.tmod_eq_emod_of_nonneg (by omega), w64_id (by omega) (by omega)]; omega
  unfold confidantlaw20_ParkNobody.f park_New.f
  simp only [hkn, b1, if_true, lt]
  have e1 : (List.replicate (([16] : List Int).take 16).length ([] : List S96)) = [[]] := rfl
  have e2 : (([16] : List Int).take 16).map clamp = [16] := by decide
  have hq := new_qs [16]
  rw [e1, e2] at hq
  rw [new_f K _ (by simp) (by omega), e1, e2]
  simp only [b2]
  refine pn_0 K hK a4 a6 k hk hk2 _ (fun l L hl => ?_) k K 0 [] [[]] (by omega) (by omega) ⟨rfl, by simp⟩ hq rfl
  have hlen := hl.len
  have hmx : mx (m : Int) 0 = (m : Int) := by unfold mx; split <;> omega
  obtain ⟨g1, g2⟩ := look_left L l m
  have g3 := look_len L l m
  rw [hm, hk, look_f K l (by omega) hl.id L _ m _ hmx (by omega) (by omega)]
  simp only [b4, len_f, g1, g2]
  have hmn : mn (k : Int) (m : Int) = ((min k m : Nat) : Int) := by unfold mn; split <;> omega
  rw [if_pos (by rw [w64_id (x := ((Park.look L l m).2.1.length : Int) + _) (by omega) (by omega), w64_id (by omega) (by omega)]; omega), hmn, if_pos (by rw [w64_id (by omega) (by omega)]; omega)]
  congr 1
  rw [w64_id (by omega) (by omega)]
  unfold mx
  split <;> simp <;> omega
end Go.Proofs.Ytipaaapbapijhaa.Pure
