import Derived.Test.YtifnjijlbcacoaaG0
import Derived.Test.YtifnjijlbcacoaaG5
import Derived.Test.YtifnjijlbcacoaaArena
/- What is made at one label takes nothing from another one's quota, nor of its numbers. No condition. -/
set_option linter.unusedVariables false
set_option linter.unusedSimpArgs false
namespace Go.Proofs.Ytifnjijlbcacoaa.Pure
open Go Go.Fw Go.RowKit Go.Proofs.Ytifnjijlbcacoaa.G Go.Proofs.Ytifnjijlbcacoaa.Arena

theorem bit1 : ∀ c : Nat, c < 256 → bA .i64 (c : Int) 1 = ((c % 2 : Nat) : Int) := by decide +kernel
theorem by01 (a : Int) (i : Nat) (ha : 0 ≤ a ∧ a ≤ 255) : bA .i64 (IntKind.i64.wrap (sR .u8 a (Int.tmod (i : Int) 8))) 1 = 0 ∨ bA .i64 (IntKind.i64.wrap (sR .u8 a (Int.tmod (i : Int) 8))) 1 = 1 := by
  obtain ⟨c, hc, hc2⟩ : ∃ c : Nat, sR .u8 a (Int.tmod (i : Int) 8) = (c : Int) ∧ c < 256 := by
    unfold sR
    have hp : (0 : Int) < 2 ^ (min (Int.tmod (i : Int) 8).toNat IntKind.u8.bits) := Int.pow_pos (by decide)
    rw [Int.fdiv_eq_ediv_of_nonneg _ (by omega)]
    generalize (2 : Int) ^ (min (Int.tmod (i : Int) 8).toNat IntKind.u8.bits) = p at hp
    have h1 : 0 ≤ a / p := Int.ediv_nonneg ha.1 (by omega)
    have h2 : a / p ≤ a := Int.ediv_le_self p ha.1
    exact ⟨(a / p).toNat, by omega, by omega⟩
  rw [hc, w64_id (by omega) (by omega), bit1 c hc2]
  omega

theorem aa_0 (K : Nat) (a6 a7 a8 a5 : Int) (m Q : Nat) (hm : IntKind.i64.wrap (Int.tmod a6 20) = (m : Int)) (hm2 : m < 20) (hQ : IntKind.i64.wrap (Int.tmod a5 9) = (Q : Int)) (hQ2 : Q < 9) (h7 : 0 ≤ a7 ∧ a7 ≤ 255) (j : Int → Int → List (List S69) → Option Bool)
    (hj : ∀ L, L.length = 2 → j ((row L 1).length : Int) ((row L 0).length : Int) L = some true) : ∀ (d n i : Nat) (L : List (List S69)), i + d = m → d < n → Qs L [(Q : Int), (Q : Int)] → (row L 0).length ≤ i → (row L 1).length ≤ i →
    confidantlaw12_ArenaApart.l0 K a6 [(Q : Int), (Q : Int)] a7 a8 a5 j n ((row L 1).length : Int) ((row L 0).length : Int) L (i : Int) = some true
  | 0, n, i, L, hd, hn, hq, h0, h1 => by
    obtain ⟨n, rfl⟩ : ∃ k, n = k + 1 := ⟨n - 1, by omega⟩
    rw [confidantlaw12_ArenaApart.l0.eq_2, hm, if_neg (by omega)]
    exact hj L hq.len
  | d + 1, n, i, L, hd, hn, hq, h0, h1 => by
    obtain ⟨n, rfl⟩ : ∃ k, n = k + 1 := ⟨n - 1, by omega⟩
    have hL : L.length = 2 := hq.len
    have next : ∀ L', Qs L' [(Q : Int), (Q : Int)] → (row L' 0).length ≤ i + 1 → (row L' 1).length ≤ i + 1 → confidantlaw12_ArenaApart.l0 K a6 [(Q : Int), (Q : Int)] a7 a8 a5 j n ((row L' 1).length : Int) ((row L' 0).length : Int) L' (IntKind.i64.wrap ((i : Int) + 1)) = some true := by
      intro L' g1 g2 g3
      rw [w64_id (by omega) (by omega), show ((i : Int) + 1) = ((i + 1 : Nat) : Int) by omega]
      exact aa_0 K a6 a7 a8 a5 m Q hm hm2 hQ hQ2 h7 j hj d n (i + 1) L' (by omega) (by omega) g1 g2 g3
    rw [confidantlaw12_ArenaApart.l0.eq_2, hm, if_pos (by omega)]
    simp only [lt]
    have h8 : ¬ Int.tmod (i : Int) 8 < 0 := by rw [Int.tmod_eq_emod_of_nonneg (by omega)]; omega
    rw [if_neg h8]
    have hb := by01 a7 i h7
    generalize bA .i64 (IntKind.i64.wrap (sR .u8 a7 (Int.tmod (i : Int) 8))) 1 = b at hb
    rw [make_f K L _ _ _ _ hq, hQ]
    by_cases hR : Room L [(Q : Int), (Q : Int)] b
    · have hq' := made_qs hq b (IntKind.i64.wrap (Int.tmod a8 16)) (IntKind.i32.wrap (i : Int))
      rw [made_room hR] at hq' ⊢
      simp only [b3]
      simp only at hq'
      rcases hb with rfl | rfl
      · have hlt : ((row L 0).length : Int) < (Q : Int) := hR.2.2
        have e0 : row (L.set (0 : Int).toNat (row L 0 ++ [⟨IntKind.i64.wrap (Int.tmod a8 16), IntKind.i32.wrap (i : Int)⟩])) 0 = row L 0 ++ [⟨IntKind.i64.wrap (Int.tmod a8 16), IntKind.i32.wrap (i : Int)⟩] := by rw [row_set L 0 0 _ (by omega) (by omega) (by omega), if_pos rfl]
        have e1 : row (L.set (0 : Int).toNat (row L 0 ++ [⟨IntKind.i64.wrap (Int.tmod a8 16), IntKind.i32.wrap (i : Int)⟩])) 1 = row L 1 := by rw [row_set L 0 1 _ (by omega) (by omega) (by omega), if_neg (by decide)]
        have nx := next _ hq' (by rw [e0]; simp; omega) (by rw [e1]; omega)
        rw [e0, e1] at nx
        rw [if_neg (by decide), decide_eq_true hlt]
        simp only [beq_self_eq_true, if_true]
        have e2 : IntKind.i64.wrap (0 * 65536 + ((row L 0).length : Int)) = ((row L 0).length : Int) := by rw [w64_id (by omega) (by omega)]; omega
        have e3 : IntKind.i64.wrap (IntKind.i64.wrap (0 * 65536) + ((row L 0).length : Int)) = ((row L 0).length : Int) := by rw [w64_id (x := 0 * 65536) (by omega) (by omega), w64_id (by omega) (by omega)]; omega
        have e4 : IntKind.i64.wrap (((row L 0).length : Int) + 1) = ((row L 0 ++ [(⟨IntKind.i64.wrap (Int.tmod a8 16), IntKind.i32.wrap (i : Int)⟩ : S69)]).length : Int) := by rw [w64_id (by omega) (by omega)]; simp
        rw [e2, e3, decide_eq_true rfl, e4]
        simp only [Bool.not_true, Bool.false_eq_true, if_false]
        exact nx
      · have hlt : ((row L 1).length : Int) < (Q : Int) := hR.2.2
        have e0 : row (L.set (1 : Int).toNat (row L 1 ++ [⟨IntKind.i64.wrap (Int.tmod a8 16), IntKind.i32.wrap (i : Int)⟩])) 1 = row L 1 ++ [⟨IntKind.i64.wrap (Int.tmod a8 16), IntKind.i32.wrap (i : Int)⟩] := by rw [row_set L 1 1 _ (by omega) (by omega) (by omega), if_pos rfl]
        have e1 : row (L.set (1 : Int).toNat (row L 1 ++ [⟨IntKind.i64.wrap (Int.tmod a8 16), IntKind.i32.wrap (i : Int)⟩])) 0 = row L 0 := by rw [row_set L 1 0 _ (by omega) (by omega) (by omega), if_neg (by decide)]
        have nx := next _ hq' (by rw [e1]; omega) (by rw [e0]; simp; omega)
        rw [e0, e1] at nx
        rw [if_pos rfl, decide_eq_true hlt]
        simp only [beq_self_eq_true, if_true]
        have e2 : IntKind.i64.wrap (1 * 65536 + ((row L 1).length : Int)) = 65536 + ((row L 1).length : Int) := by rw [w64_id (by omega) (by omega)]; omega
        have e3 : IntKind.i64.wrap (IntKind.i64.wrap (1 * 65536) + ((row L 1).length : Int)) = 65536 + ((row L 1).length : Int) := by rw [w64_id (x := 1 * 65536) (by omega) (by omega), w64_id (by omega) (by omega)]; omega
        have e4 : IntKind.i64.wrap (((row L 1).length : Int) + 1) = ((row L 1 ++ [(⟨IntKind.i64.wrap (Int.tmod a8 16), IntKind.i32.wrap (i : Int)⟩ : S69)]).length : Int) := by rw [w64_id (by omega) (by omega)]; simp
        rw [e2, e3, decide_eq_true rfl, e4]
        simp only [Bool.not_true, Bool.false_eq_true, if_false]
        exact nx
    · rw [made_full hR]
      simp only [b3]
      have nx := next L hq (by omega) (by omega)
      rcases hb with rfl | rfl
      · have hlt : ¬ ((row L 0).length : Int) < (Q : Int) := fun h => hR ⟨by omega, by omega, h⟩
        rw [if_neg (by decide), decide_eq_false hlt]
        simp only [beq_self_eq_true, if_true, Bool.false_eq_true, if_false]
        exact nx
      · have hlt : ¬ ((row L 1).length : Int) < (Q : Int) := fun h => hR ⟨by omega, by omega, h⟩
        rw [if_pos rfl, decide_eq_false hlt]
        simp only [beq_self_eq_true, if_true, Bool.false_eq_true, if_false]
        exact nx

theorem ArenaApart : confidantlaw12_ArenaApart.Pure := by
  intro a5 a6 a7 a8 h5 h6 h7 h8
  have u5 := is_u8 h5
  have u6 := is_u8 h6
  have u7 := is_u8 h7
  obtain ⟨K, hK, hkn⟩ := known_f
  refine ⟨K, ?_⟩
  obtain ⟨m, hm, hm2⟩ : ∃ m : Nat, IntKind.i64.wrap (Int.tmod a6 20) = (m : Int) ∧ m < 20 := by
    rw [Int.tmod_eq_emod_of_nonneg (by omega), w64_id (by omega) (by omega)]
    exact ⟨(a6 % 20).toNat, by omega, by omega⟩
  obtain ⟨Q, hQ, hQ2⟩ : ∃ m : Nat, IntKind.i64.wrap (Int.tmod a5 9) = (m : Int) ∧ m < 9 := by
    rw [Int.tmod_eq_emod_of_nonneg (by omega), w64_id (by omega) (by omega)]
    exact ⟨(a5 % 9).toNat, by omega, by omega⟩
  unfold confidantlaw12_ArenaApart.f
  simp only [hkn, b1, if_true, lt]
  have hq := new_qs [(Q : Int), (Q : Int)]
  have e1 : (List.replicate (([(Q : Int), (Q : Int)] : List Int).take 16).length ([] : List S69)) = [[], []] := rfl
  have e2 : (([(Q : Int), (Q : Int)] : List Int).take 16).map clamp = [(Q : Int), (Q : Int)] := by
    show [clamp Q, clamp Q] = _
    rw [clamp_id (by omega) (by omega)]
  rw [e1, e2] at hq
  rw [hQ, new_f K _ (by simp) (by omega), e1, e2]
  simp only [b2]
  refine aa_0 K a6 a7 a8 a5 m Q hm hm2 hQ hQ2 u7 _ (fun L hL => ?_) m K 0 [[], []] (by omega) (by omega) hq (by simp [row]) (by simp [row])
  rw [count_f, count_f]
  unfold count
  rw [if_pos (by omega), if_pos (by omega)]
  simp
end Go.Proofs.Ytifnjijlbcacoaa.Pure
