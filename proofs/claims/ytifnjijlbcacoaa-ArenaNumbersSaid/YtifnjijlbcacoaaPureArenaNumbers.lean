import Derived.Test.YtifnjijlbcacoaaG0
import Derived.Test.YtifnjijlbcacoaaG6
import Derived.Test.YtifnjijlbcacoaaG7
import Derived.Test.YtifnjijlbcacoaaArena
/- Identities are numbered from 0 on, by who made them, whatever their labels. No condition. -/
set_option linter.unusedVariables false
set_option linter.unusedSimpArgs false
namespace Go.Proofs.Ytifnjijlbcacoaa.Pure
open Go Go.Fw Go.RowKit Go.Proofs.Ytifnjijlbcacoaa.G Go.Proofs.Ytifnjijlbcacoaa.Arena

theorem an_0 (K : Nat) (l : List S84) (hl : l.length ≤ 40) (ho : ∀ x ∈ l, okS84 x) (j : Int → Int → Int → List (List S69) → Option Bool)
    (hj : ∀ L, L.length = 3 → Qs L [50, 50, 50] → j ((row L 0).length : Int) ((row L 1).length : Int) ((row L 2).length : Int) L = some true) : ∀ (d n i : Nat) (L : List (List S69)), i + d = l.length → d < n → Qs L [50, 50, 50] → (row L 0).length ≤ i → (row L 1).length ≤ i → (row L 2).length ≤ i →
    confidantlaw12_ArenaNumbers.l0 K l [50, 50, 50] j n ((row L 0).length : Int) ((row L 1).length : Int) ((row L 2).length : Int) L (i : Int) = some true
  | 0, n, i, L, hd, hn, hq, h0, h1, h2 => by
    obtain ⟨n, rfl⟩ : ∃ k, n = k + 1 := ⟨n - 1, by omega⟩
    rw [confidantlaw12_ArenaNumbers.l0.eq_2, if_neg (by omega)]
    exact hj L hq.len hq
  | d + 1, n, i, L, hd, hn, hq, h0, h1, h2 => by
    obtain ⟨n, rfl⟩ : ∃ k, n = k + 1 := ⟨n - 1, by omega⟩
    have hL : L.length = 3 := hq.len
    have hi : i < l.length := by omega
    have e : l.getD (i : Int).toNat zS84 = l[i] := by simp [List.getD, hi]
    have hok := ho _ (List.getElem_mem hi)
    have u0 := is_u8 hok.1
    have u1 := is_u8 hok.2.1
    rw [confidantlaw12_ArenaNumbers.l0.eq_2, if_pos (by omega), e]
    refine lt_all (P := fun J => ∀ (x y : Int) L', Qs L' [50, 50, 50] → (row L' 0).length ≤ i + 1 → (row L' 1).length ≤ i + 1 → (row L' 2).length ≤ i + 1 → J x y L' ((row L' 0).length : Int) ((row L' 1).length : Int) ((row L' 2).length : Int) = some true) (fun x y L' g1 g2 g3 g4 => ?_) (fun J hJ => ?_)
    · rw [w64_id (by omega) (by omega), show ((i : Int) + 1) = ((i + 1 : Nat) : Int) by omega]
      exact an_0 K l hl ho j hj d n (i + 1) L' (by omega) (by omega) g1 g2 g3 g4
    · rw [if_pos (by omega)]
      have hb : IntKind.i64.wrap (Int.tmod (l[i]).f0 3) = 0 ∨ IntKind.i64.wrap (Int.tmod (l[i]).f0 3) = 1 ∨ IntKind.i64.wrap (Int.tmod (l[i]).f0 3) = 2 := by
        rw [Int.tmod_eq_emod_of_nonneg (by omega), w64_id (by omega) (by omega)]; omega
      generalize IntKind.i64.wrap (Int.tmod (l[i]).f0 3) = b at hb
      generalize IntKind.i64.wrap (Int.tmod (l[i]).f1 16) = lab
      have hR : Room L [50, 50, 50] b := by
        rcases hb with rfl | rfl | rfl
        · exact ⟨by omega, by omega, by show ((row L 0).length : Int) < 50; omega⟩
        · exact ⟨by omega, by omega, by show ((row L 1).length : Int) < 50; omega⟩
        · exact ⟨by omega, by omega, by show ((row L 2).length : Int) < 50; omega⟩
      have hq' := made_qs hq b lab (IntKind.i32.wrap (i : Int))
      rw [make_f K L _ _ _ _ hq]
      rw [made_room hR] at hq' ⊢
      simp only [b3]
      simp only at hq'
      rw [get_made K hq hR]
      have rs := fun c (hc : 0 ≤ c) => row_set L b c (row L b ++ [⟨lab, IntKind.i32.wrap (i : Int)⟩]) hR.1 hR.2.1 hc
      have r0 := rs 0 (by omega)
      have r1 := rs 1 (by omega)
      have r2 := rs 2 (by omega)
      have ed : decide (IntKind.i32.wrap (i : Int) = IntKind.i32.wrap (i : Int)) = true := decide_eq_true rfl
      have fin := hJ lab (IntKind.i32.wrap (i : Int)) _ hq'
      have w1 : ∀ x : Nat, x ≤ 40 → IntKind.i64.wrap ((x : Int) + 1) = ((x + 1 : Nat) : Int) := fun x hx => by rw [w64_id (by omega) (by omega)]; omega
      rcases hb with rfl | rfl | rfl
      · rw [if_pos rfl] at r0
        rw [if_neg (by decide)] at r1 r2
        rw [r0, r1, r2] at fin
        have f2 := fin (by simp; omega) (by omega) (by omega)
        have e2 : IntKind.i64.wrap (0 * 65536 + ((row L 0).length : Int)) = IntKind.i64.wrap (0 + ((row L 0).length : Int)) := by rw [Int.zero_mul]
        simp only [lt, Int.reduceEq, if_true, e2, ed, Bool.not_true, Bool.false_eq_true, if_false]
        rw [w1 _ (by omega)]
        simpa using f2
      · rw [if_pos rfl] at r1
        rw [if_neg (by decide)] at r0 r2
        rw [r0, r1, r2] at fin
        have f2 := fin (by omega) (by simp; omega) (by omega)
        have e2 : IntKind.i64.wrap (1 * 65536 + ((row L 1).length : Int)) = IntKind.i64.wrap (65536 + ((row L 1).length : Int)) := by rw [Int.one_mul]
        simp only [lt, Int.reduceEq, if_true, e2, ed, Bool.not_true, Bool.false_eq_true, if_false]
        rw [w1 _ (by omega)]
        simpa using f2
      · rw [if_pos rfl] at r2
        rw [if_neg (by decide)] at r0 r1
        rw [r0, r1, r2] at fin
        have f2 := fin (by omega) (by omega) (by simp; omega)
        have e2 : IntKind.i64.wrap (2 * 65536 + ((row L 2).length : Int)) = IntKind.i64.wrap (131072 + ((row L 2).length : Int)) := by rw [show (2 : Int) * 65536 = 131072 from rfl]
        simp only [lt, Int.reduceEq, if_true, e2, ed, Bool.not_true, Bool.false_eq_true, if_false]
        rw [w1 _ (by omega)]
        simpa using f2

theorem ArenaNumbers : confidantlaw12_ArenaNumbers.Pure := by
  intro l _ ho
  obtain ⟨K, hK, hkn⟩ := known_f
  refine ⟨K, ?_⟩
  unfold confidantlaw12_ArenaNumbers.f
  simp only [hkn, b1, if_true, lt]
  by_cases h1 : (l.length : Int) > 40
  · rw [if_pos h1]
  have hq := new_qs [50, 50, 50]
  have e1 : (List.replicate (([50, 50, 50] : List Int).take 16).length ([] : List S69)) = [[], [], []] := rfl
  have e2 : (([50, 50, 50] : List Int).take 16).map clamp = [50, 50, 50] := by decide
  rw [e1, e2] at hq
  rw [if_neg h1, new_f K _ (by simp) (by omega), e1, e2]
  simp only [b2]
  refine an_0 K l (by omega) ho _ (fun L hL hq' => ?_) l.length K 0 [[], [], []] (by omega) (by omega) hq (by simp [row]) (by simp [row]) (by simp [row])
  have h0 := hq'.row 0
  rw [w32_id (x := ((row L 0).length : Int)) (by omega) (by omega), get_f K L _ _ (by omega)]
  have hno : ¬ There L ((row L 0).length : Int) := by
    rintro ⟨_, _, h⟩
    have e1 : ((row L 0).length : Int) / 65536 = 0 := by omega
    have e2 : ((row L 0).length : Int) % 65536 = ((row L 0).length : Int) := by omega
    rw [e1, e2] at h
    omega
  rw [if_neg hno]
  simp only [b3, Bool.false_eq_true, if_false]
  rw [count_f, count_f, count_f, count_f]
  unfold count
  rw [if_pos (by omega), if_pos (by omega), if_pos (by omega), if_neg (c := (0 : Int) ≤ 3 ∧ (3 : Int) < (L.length : Int)) (by omega)]
  simp
end Go.Proofs.Ytifnjijlbcacoaa.Pure
