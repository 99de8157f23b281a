import Derived.Test.YtjfnejcanlkknaaRing
import Derived.Test.YtjfnejcanlkknaaG3
/- The owner takes the newest, thieves take the oldest tasks. No condition. -/
set_option linter.unusedVariables false
set_option linter.unusedSimpArgs false
namespace Go.Proofs.Ytjfnejcanlkknaa.Pure
open Go Go.Fw Go.RowKit Go.Proofs.Ytjfnejcanlkknaa.G Go.Proofs.Ytjfnejcanlkknaa.Ring

theorem re_0 (K : Nat) (a : Int) (m : Nat) (ha : IntKind.i64.wrap (Int.tmod a 20) = (m : Int)) (hm : m < 20) (j : List S37 → Int → Int → Option Bool) (hj : ∀ l t, Holds l t (upto 0 m) → j l (t : Int) (m : Int) = some true) : ∀ (d n i : Nat) (l : List S37) (t : Nat), i + d = m → d < n → Holds l t (upto 0 i) → l.length = 20 →
    confidantlaw15_RingEnds.l0 K a j n l (t : Int) (i : Int) (i : Int) = some true
  | 0, n, i, l, t, hd, hn, h, hl => by
    obtain ⟨n, rfl⟩ : ∃ k, n = k + 1 := ⟨n - 1, by omega⟩
    rw [confidantlaw15_RingEnds.l0.eq_2, ha, if_neg (by omega)]
    have : i = m := by omega
    subst this
    exact hj l t h
  | d + 1, n, i, l, t, hd, hn, h, hl => by
    obtain ⟨n, rfl⟩ : ∃ k, n = k + 1 := ⟨n - 1, by omega⟩
    have e1 : IntKind.i32.wrap (i : Int) = (i : Int) := w32_id (by omega) (by omega)
    obtain ⟨l', g1, g2, g3⟩ := push_f K h (i : Int) 0 0 [] 0 0 0 0 0 0 0 0 (by simp)
    rw [upto_len] at g1
    have e2 : pushed l.length (upto 0 i) ⟨(i : Int), 0, 0, [], ⟨0, 0, 0, 0⟩, 0, 0, 0, 0⟩ = upto 0 (i + 1) := by
      unfold pushed
      rw [upto_len, if_pos (by omega), ← upto_snoc]
      simp [mk]
    rw [e2, upto_len, decide_eq_true (by omega)] at g1
    rw [e2] at g2
    rw [confidantlaw15_RingEnds.l0.eq_2, ha, if_pos (by omega), e1, g1]
    simp only [b4, if_true]
    rw [w64_id (by omega) (by omega), show ((i : Int) + 1) = ((i + 1 : Nat) : Int) by omega]
    exact re_0 K a m ha hm j hj d n (i + 1) l' t (by omega) (by omega) g2 (by omega)

theorem re_1 (K : Nat) (a : Int) (m : Nat) (ha : IntKind.i64.wrap (Int.tmod a 20) = (m : Int)) (hm : m < 20) (s : List Bool) (hs : m ≤ s.length) (l : List S37) (j : Int → Int → Option Bool) (hj : ∀ t, Holds l t [] → j (t : Int) 0 = some true) : ∀ (d n i lo : Nat) (t : Nat), i + d = m → d < n → lo ≤ i → Holds l t (upto lo d) →
    confidantlaw15_RingEnds.l1 K a s l j n (t : Int) (d : Int) (lo : Int) ((lo : Int) + (d : Int) - 1) (i : Int) = some true
  | 0, n, i, lo, t, hd, hn, hlo, h => by
    obtain ⟨n, rfl⟩ : ∃ k, n = k + 1 := ⟨n - 1, by omega⟩
    rw [confidantlaw15_RingEnds.l1.eq_2, ha, if_neg (by omega)]
    exact hj t h
  | d + 1, n, i, lo, t, hd, hn, hlo, h => by
    obtain ⟨n, rfl⟩ : ∃ k, n = k + 1 := ⟨n - 1, by omega⟩
    rw [confidantlaw15_RingEnds.l1.eq_2, ha, if_pos (by omega)]
    simp only [lt]
    rw [if_pos (by omega), if_pos (by omega)]
    have hne : upto lo (d + 1) ≠ [] := by rw [upto_cons]; simp
    have hie : (upto lo (d + 1)).isEmpty = false := by rw [upto_cons]; rfl
    have ei : IntKind.i64.wrap ((i : Int) + 1) = ((i + 1 : Nat) : Int) := by rw [w64_id (by omega) (by omega)]; omega
    by_cases hb : s.getD (i : Int).toNat false = true
    · obtain ⟨t', g1, g2⟩ := steal_f K h
      have e1 : (upto lo (d + 1)).tail = upto (lo + 1) d := by rw [upto_cons]; rfl
      rw [e1, upto_len, upto_len, if_neg hne, upto_get _ _ _ (by omega), hie] at g1
      rw [e1] at g2
      rw [if_pos hb, g1]
      simp only [b4, Bool.not_false, if_true]
      have e2 : (mk ((lo + 0 : Nat) : Int)).f0 = (lo : Int) := rfl
      have e3 : IntKind.i64.wrap ((lo : Int) + 1) = ((lo + 1 : Nat) : Int) := by rw [w64_id (by omega) (by omega)]; omega
      rw [e2, w64_id (x := (lo : Int)) (by omega) (by omega), decide_eq_true rfl, e3, ei]
      have ih := re_1 K a m ha hm s hs l j hj d n (i + 1) (lo + 1) t' (by omega) (by omega) (by omega) g2
      have e4 : ((lo + 1 : Nat) : Int) + (d : Int) - 1 = (lo : Int) + ((d + 1 : Nat) : Int) - 1 := by omega
      rw [e4] at ih
      simp only [Bool.not_true, Bool.false_eq_true, if_false]
      exact ih
    · obtain ⟨g1, g2⟩ := pop_f K h
      have e1 : (upto lo (d + 1)).dropLast = upto lo d := by rw [← upto_snoc, List.dropLast_concat]
      rw [e1, upto_len, upto_len, if_neg hne, upto_get _ _ _ (by omega), hie] at g1
      rw [e1] at g2
      rw [if_neg hb, g1]
      simp only [b4, Bool.not_false, if_true]
      have e2 : (mk ((lo + (d + 1 - 1) : Nat) : Int)).f0 = (lo : Int) + ((d + 1 : Nat) : Int) - 1 := by show ((lo + (d + 1 - 1) : Nat) : Int) = _; omega
      have e3 : IntKind.i64.wrap ((lo : Int) + ((d + 1 : Nat) : Int) - 1 - 1) = (lo : Int) + (d : Int) - 1 := by rw [w64_id (by omega) (by omega)]; omega
      rw [e2, w64_id (x := (lo : Int) + ((d + 1 : Nat) : Int) - 1) (by omega) (by omega), decide_eq_true rfl, e3, ei]
      have ih := re_1 K a m ha hm s hs l j hj d n (i + 1) lo t (by omega) (by omega) (by omega) g2
      simp only [Bool.not_true, Bool.false_eq_true, if_false]
      exact ih

theorem RingEnds : confidantlaw15_RingEnds.Pure := by
  intro a s ha _ _
  have ua := is_u8 ha
  obtain ⟨K, hK, hkn⟩ := known_f
  refine ⟨K, ?_⟩
  obtain ⟨m, hm, hm2⟩ : ∃ m : Nat, IntKind.i64.wrap (Int.tmod a 20) = (m : Int) ∧ m < 20 := by
    rw [Int.tmod_eq_emod_of_nonneg (by omega), w64_id (by omega) (by omega)]
    exact ⟨(a % 20).toNat, by omega, by omega⟩
  unfold confidantlaw15_RingEnds.f
  simp only [hkn, b1, if_true, lt]
  by_cases h : (s.length : Int) < IntKind.i64.wrap (Int.tmod a 20)
  · rw [if_pos h]
  rw [if_neg h, new_f]
  rw [hm] at h
  simp only [b3]
  have h20 : room 20 = 20 := by decide
  have hh := new_holds 20
  refine re_0 K a m hm hm2 _ (fun l t hl => ?_) m K 0 _ 0 (by omega) (by omega) hh (by simp [h20])
  have e : IntKind.i64.wrap (IntKind.i64.wrap (Int.tmod a 20) - 1) = ((0 : Nat) : Int) + (m : Int) - 1 := by rw [hm, w64_id (by omega) (by omega)]; omega
  rw [e]
  refine re_1 K a m hm hm2 s (by omega) l _ (fun t' ht => ?_) m K 0 0 t (by omega) (by omega) (by omega) hl
  obtain ⟨g1, g2⟩ := pop_f K ht
  obtain ⟨t2, g3, g4⟩ := steal_f K ht
  simp only [List.length_nil, List.dropLast_nil, List.tail_nil, List.isEmpty_nil, Bool.not_true] at g1 g3
  rw [show (0 : Int) = ((0 : Nat) : Int) from rfl, g1]
  simp only [b4, Bool.false_eq_true, if_false]
  rw [g3]
  rfl
end Go.Proofs.Ytjfnejcanlkknaa.Pure
