import Derived.Test.YtipaaapbapijhaaG0
import Derived.Test.YtipaaapbapijhaaG2
import Derived.Test.YtipaaapbapijhaaG6
import Derived.Test.YtipaaapbapijhaaPureParkNobody
/- Each look at one who waits burns one. No condition. -/
set_option linter.unusedVariables false
set_option linter.unusedSimpArgs false
namespace Go.Proofs.Ytipaaapbapijhaa.Pure
open Go Go.Fw Go.RowKit Go.Proofs.Ytipaaapbapijhaa.G Go.Proofs.Ytipaaapbapijhaa.Future Go.Proofs.Ytipaaapbapijhaa.Park

theorem pf_0 (K : Nat) (hK : 5000 ≤ K) (a5 : Int) (a6 : Int) (k : Nat) (hk : IntKind.i64.wrap (Int.tmod a5 12) = (k : Int)) (hk2 : k ≤ 16) (j : List S60 → List (List S96) → Option Bool) (hj : ∀ l L, Some l k → j l L = some true) : ∀ (d n i : Nat) (l : List S60) (L : List (List S96)), i + d = k → d < n → Some l i → Qs L [16] → (row L 0).length = i →
    confidantlaw20_ParkFuel.l0 K a5 [16] a6 j n l L (i : Int) = some true
  | 0, n, i, l, L, hd, hn, hl, hq, hr => by
    obtain ⟨n, rfl⟩ : ∃ k, n = k + 1 := ⟨n - 1, by omega⟩
    rw [confidantlaw20_ParkFuel.l0.eq_2, hk, if_neg (by omega)]
    exact hj _ _ (by rw [← hd]; exact hl)
  | d + 1, n, i, l, L, hd, hn, hl, hq, hr => by
    obtain ⟨n, rfl⟩ : ∃ k, n = k + 1 := ⟨n - 1, by omega⟩
    have h1 := one_len hq
    have hlen := hl.len
    have hroom : Room L [16] 0 := ⟨by omega, by omega, by rw [hr]; show (i : Int) < 16; omega⟩
    have hq1 := made_qs hq 0 0
    have hmr : (row (made L [16] 0 0).1 0).length = i + 1 := by
      rw [made_room hroom]
      simp only
      rw [row_set _ _ _ _ (by omega) (by omega) (by omega), if_pos rfl]
      simp [hr]
    rw [confidantlaw20_ParkFuel.l0.eq_2, hk, if_pos (by omega), make_f K _ _ _ _ hq]
    have hid : (made L [16] 0 0).2.1 = (i : Int) := by rw [made_room hroom]; simp [hr]
    generalize made L [16] 0 0 = r at hq1 hmr hid
    obtain ⟨L1, id, ok⟩ := r
    simp only at hid hq1 hmr
    subst hid
    simp only [b3, lt]
    rw [add_f K l (by omega) _ _ _ _ _ _ _ _ _ _ _ _ _ (by simp)]
    simp only [b1]
    have next : ∀ L' : List (List S96), Qs L' [16] → (row L' 0).length = i + 1 → confidantlaw20_ParkFuel.l0 K a5 [16] a6 j n (l ++ [⟨⟨IntKind.i32.wrap (i : Int), 0, 0, [], ⟨0, 0, 0, 0⟩, 0, 0, 0, 0⟩, (i : Int)⟩]) L' (IntKind.i64.wrap ((i : Int) + 1)) = some true := by
      intro L' hq' hr'
      rw [w64_id (by omega) (by omega), show ((i : Int) + 1) = ((i + 1 : Nat) : Int) by omega]
      exact pf_0 K hK a5 a6 k hk hk2 j hj d n (i + 1) _ L' (by omega) (by omega) (hl.add _ _ (by omega)) hq' hr'
    rw [if_neg (by omega), keep_f K _ _ _ _ (by omega)]
    have hq2 := ended_qs hq1 (i : Int) 1 1 0
    have hr2 := ended_row L1 (i : Int) 1 1 0 0 (by omega)
    rw [hmr] at hr2
    generalize ended L1 (i : Int) 1 1 0 = r at hq2 hr2
    obtain ⟨L2, x⟩ := r
    split
    · exact next L2 hq2 hr2
    · exact next L1 hq1 hmr

theorem pf_1 (K : Nat) (hK : 5000 ≤ K) (a8 : Int) (k : Nat) (hk : IntKind.i64.wrap (Int.tmod a8 6) = (k : Int)) (hk2 : k ≤ 6) (L : List (List S96)) (q : List Int) : ∀ (d n i m : Nat) (l : List S60), i + d = k → d < n → m ≤ 60 → l.length ≤ 20 → (∀ x ∈ l, -2147483648 ≤ x.f1 ∧ x.f1 < 2147483648) → (0 < i → ∀ x ∈ l, ¬ Done L x.f1) →
    confidantlaw20_ParkFuel.l1 K a8 L q n l (m : Int) (i : Int) = some true
  | 0, n, i, m, l, hd, hn, hm, hl, hid, hno => by
    obtain ⟨n, rfl⟩ : ∃ k, n = k + 1 := ⟨n - 1, by omega⟩
    rw [confidantlaw20_ParkFuel.l1.eq_2, hk, if_neg (by omega)]
  | d + 1, n, i, m, l, hd, hn, hm, hl, hid, hno => by
    obtain ⟨n, rfl⟩ : ∃ k, n = k + 1 := ⟨n - 1, by omega⟩
    have hmx : mx (m : Int) 0 = (m : Int) := by unfold mx; split <;> omega
    obtain ⟨g1, g2⟩ := look_left L l m
    have g3 := look_len L l m
    have g4 := look_stay L l m
    have hmn : mn (l.length : Int) (m : Int) = ((min l.length m : Nat) : Int) := by unfold mn; split <;> omega
    have hmm : mx (IntKind.i64.wrap ((l.length : Int) - (m : Int))) 0 = ((l.length - m : Nat) : Int) := by rw [w64_id (by omega) (by omega)]; unfold mx; split <;> omega
    rw [confidantlaw20_ParkFuel.l1.eq_2, hk, if_pos (by omega), len_f, look_f K l (by omega) hid L _ m _ hmx (by omega) (by omega)]
    simp only [b1, b4, len_f, lt, g1, g2, hmn, hmm]
    have e1 : IntKind.i64.wrap (IntKind.i64.wrap (((Park.look L l m).2.1.length : Int) + ((l.length - m : Nat) : Int)) + ((Park.look L l m).1.length : Int)) = (l.length : Int) := by
      rw [w64_id (x := ((Park.look L l m).2.1.length : Int) + _) (by omega) (by omega), w64_id (by omega) (by omega)]; omega
    rw [if_pos (by rw [w64_id (by omega) (by omega)]; omega), if_pos trivial, if_pos e1.symm]
    have next : confidantlaw20_ParkFuel.l1 K a8 L q n (Park.look L l m).1 ((m - l.length : Nat) : Int) (IntKind.i64.wrap ((i : Int) + 1)) = some true := by
      rw [w64_id (by omega) (by omega), show ((i : Int) + 1) = ((i + 1 : Nat) : Int) by omega]
      exact pf_1 K hK a8 k hk hk2 L q d n (i + 1) (m - l.length) _ (by omega) (by omega) (by omega) (by omega) (fun x hx => hid x (g4 x hx).1) (fun _ x hx => (g4 x hx).2)
    by_cases h0 : (i : Int) > 0
    · have g5 := look_none L l m (hno (by omega))
      rw [if_pos h0, g5, if_neg (by simp)]
      exact next
    · rw [if_neg h0, if_neg (by simp)]
      exact next

theorem ParkFuel : confidantlaw20_ParkFuel.Pure := by
  intro a5 a6 a7 a8 h5 h6 h7 h8
  have u5 := is_u8 h5
  have u7 := is_u8 h7
  have u8 := is_u8 h8
  obtain ⟨K, hK, hkn⟩ := known_f
  refine ⟨K, ?_⟩
  obtain ⟨k, hk, hk2⟩ : ∃ k : Nat, IntKind.i64.wrap (Int.tmod a5 12) = (k : Int) ∧ k ≤ 12 := by
    refine ⟨(a5 % 12).toNat, ?_, by omega⟩
    rw [Int.tmod_eq_emod_of_nonneg (by omega), w64_id (by omega) (by omega)]; omega
  obtain ⟨m, hm, hm2⟩ : ∃ k : Nat, IntKind.i64.wrap (Int.tmod a7 60) = (k : Int) ∧ k ≤ 60 := by
    refine ⟨(a7 % 60).toNat, ?_, by omega⟩
    rw [Int.tmod_eq_emod_of_nonneg (by omega), w64_id (by omega) (by omega)]; omega
  obtain ⟨s, hs, hs2⟩ : ∃ k : Nat, IntKind.i64.wrap (Int.tmod a8 6) = (k : Int) ∧ k ≤ 6 := by
    refine ⟨(a8 % 6).toNat, ?_, by omega⟩
    rw [Int.tmod_eq_emod_of_nonneg (by omega), w64_id (by omega) (by omega)]; omega
  unfold confidantlaw20_ParkFuel.f park_New.f
  simp only [hkn, b1, if_true, lt]
  have e1 : (List.replicate (([16] : List Int).take 16).length ([] : List S96)) = [[]] := rfl
  have e2 : (([16] : List Int).take 16).map clamp = [16] := by decide
  have hq := new_qs [16]
  rw [e1, e2] at hq
  rw [new_f K _ (by simp) (by omega), e1, e2]
  simp only [b2]
  refine pf_0 K hK a5 a6 k hk (by omega) _ (fun l L hl => ?_) k K 0 [] [[]] (by omega) (by omega) ⟨rfl, by simp⟩ hq rfl
  have hlen := hl.len
  rw [hm]
  exact pf_1 K hK a8 s hs hs2 L _ s K 0 m l (by omega) (by omega) (by omega) (by omega) hl.id (fun h => by omega)
end Go.Proofs.Ytipaaapbapijhaa.Pure
