import Derived.Test.YtjfnejcanlkknaaRing
import Derived.Test.YtjfnejcanlkknaaG3
/- Repeated halves give all tasks, the top first. No condition. -/
set_option linter.unusedVariables false
set_option linter.unusedSimpArgs false
namespace Go.Proofs.Ytjfnejcanlkknaa.Pure
open Go Go.Fw Go.RowKit Go.Proofs.Ytjfnejcanlkknaa.G Go.Proofs.Ytjfnejcanlkknaa.Ring

theorem upto_drop (lo k h : Nat) (hk : h ≤ k) : (upto lo k).drop h = upto (lo + h) (k - h) := by
  unfold upto
  rw [← List.map_drop, List.drop_range']
  simp
theorem upto_take (lo k h : Nat) (hk : h ≤ k) : (upto lo k).take h = upto lo h := by
  unfold upto
  have e := List.range'_append_1 (s := lo) (m := h) (n := k - h)
  rw [show h + (k - h) = k by omega] at e
  rw [← e, List.map_append]
  exact List.take_left' (by simp)

theorem rh_0 (K : Nat) (a : Int) (m : Nat) (ha : IntKind.i64.wrap (Int.tmod a 64) = (m : Int)) (hm : m < 64) (j : List S37 → Int → Int → Option Bool) (hj : ∀ l t, Holds l t (upto 0 m) → j l (t : Int) (m : Int) = some true) : ∀ (d n i : Nat) (l : List S37) (t : Nat), i + d = m → d < n → Holds l t (upto 0 i) → l.length = 64 →
    confidantlaw15_RingHalves.l0 K a j n l (t : Int) (i : Int) (i : Int) = some true
  | 0, n, i, l, t, hd, hn, h, hl => by
    obtain ⟨n, rfl⟩ : ∃ k, n = k + 1 := ⟨n - 1, by omega⟩
    rw [confidantlaw15_RingHalves.l0.eq_2, ha, if_neg (by omega)]
    have : i = m := by omega
    subst this
    exact hj l t h
  | d + 1, n, i, l, t, hd, hn, h, hl => by
    obtain ⟨n, rfl⟩ : ∃ k, n = k + 1 := ⟨n - 1, by omega⟩
    have e1 : IntKind.i32.wrap (i : Int) = (i : Int) := w32_id (by omega) (by omega)
    obtain ⟨l', g1, g2, g3⟩ := push_f K h (i : Int) 0 0 [] 0 0 0 0 0 0 0 0 (by simp)
    rw [upto_len] at g1
    have e2 : pushed l.length (upto 0 i) ⟨(i : Int), 0, 0, [], ⟨0, 0, 0, 0⟩, 0, 0, 0, 0⟩ = upto 0 (i + 1) := by
      unfold pushed
      rw [upto_len, if_pos (by omega), ← upto_snoc]
      simp [mk]
    rw [e2, upto_len] at g1
    rw [e2] at g2
    rw [confidantlaw15_RingHalves.l0.eq_2, ha, if_pos (by omega), e1, g1]
    simp only [b4]
    rw [w64_id (by omega) (by omega), show ((i : Int) + 1) = ((i + 1 : Nat) : Int) by omega]
    exact rh_0 K a m ha hm j hj d n (i + 1) l' t (by omega) (by omega) g2 (by omega)

theorem rh_2 (K : Nat) (lo k : Nat) (hlo : lo + k ≤ 1000) (x y : Int) (j : Int → Int → List S37 → Int → Option Bool) : ∀ (d n i : Nat), i + d = k → d < n →
    confidantlaw15_RingHalves.l2 K (upto lo k) j x y n ((lo + i : Nat) : Int) (i : Int) = j x y (upto lo k) ((lo + k : Nat) : Int)
  | 0, n, i, hd, hn => by
    obtain ⟨n, rfl⟩ : ∃ k, n = k + 1 := ⟨n - 1, by omega⟩
    rw [confidantlaw15_RingHalves.l2.eq_2, upto_len, if_neg (by omega), show i = k by omega]
  | d + 1, n, i, hd, hn => by
    obtain ⟨n, rfl⟩ : ∃ k, n = k + 1 := ⟨n - 1, by omega⟩
    have e1 : IntKind.i64.wrap ((upto lo k).getD (i : Int).toNat zS37).f0 = ((lo + i : Nat) : Int) := by
      rw [Int.toNat_natCast, upto_get _ _ _ (by omega)]
      show IntKind.i64.wrap ((lo + i : Nat) : Int) = _
      exact w64_id (by omega) (by omega)
    rw [confidantlaw15_RingHalves.l2.eq_2, upto_len, if_pos (by omega), if_pos (by omega), e1, if_pos rfl, w64_id (by omega) (by omega), w64_id (by omega) (by omega), show (((lo + i : Nat) : Int) + 1) = ((lo + (i + 1) : Nat) : Int) by omega, show ((i : Int) + 1) = ((i + 1 : Nat) : Int) by omega]
    exact rh_2 K lo k hlo x y j d n (i + 1) (by omega) (by omega)

theorem rh_1 (K : Nat) (hK : 100 ≤ K) (a : Int) (m : Nat) (ha : IntKind.i64.wrap (Int.tmod a 64) = (m : Int)) (hm : m < 64) (l : List S37) (j : Int → Int → Int → Option Bool) (hj : ∀ t, Holds l t [] → j (t : Int) 0 (m : Int) = some true) : ∀ (d n i r : Nat) (t : Nat), i + d = 10 → d < n → r ≤ m → r < 2 ^ d → Holds l t (upto (m - r) r) →
    confidantlaw15_RingHalves.l1 K l a j n (t : Int) (r : Int) ((m - r : Nat) : Int) (i : Int) = some true
  | 0, n, i, r, t, hd, hn, hr, hr2, h => by
    obtain ⟨n, rfl⟩ : ∃ k, n = k + 1 := ⟨n - 1, by omega⟩
    have : r = 0 := by simpa using hr2
    subst this
    rw [confidantlaw15_RingHalves.l1.eq_2, if_neg (by omega)]
    exact hj t h
  | d + 1, n, i, r, t, hd, hn, hr, hr2, h => by
    obtain ⟨n, rfl⟩ : ∃ k, n = k + 1 := ⟨n - 1, by omega⟩
    obtain ⟨t', g1, g2⟩ := half_f K h (by omega)
    rw [upto_len, upto_drop _ _ _ (by omega), upto_take _ _ _ (by omega), upto_len] at g2
    rw [upto_len, upto_drop _ _ _ (by omega)] at g1
    have e1 : IntKind.i64.wrap (Int.tdiv (IntKind.i64.wrap (IntKind.i64.wrap ((m : Int) - ((m - r : Nat) : Int)) + 1)) 2) = (((r + 1) / 2 : Nat) : Int) := by
      rw [w64_id (x := (m : Int) - ((m - r : Nat) : Int)) (by omega) (by omega), w64_id (x := _ + 1) (by omega) (by omega), Int.tdiv_eq_ediv_of_nonneg (by omega), w64_id (by omega) (by omega)]; omega
    rw [confidantlaw15_RingHalves.l1.eq_2, if_pos (by omega)]
    simp only [lt]
    rw [g2]
    simp only [b3, upto_len, ha]
    rw [e1, if_pos rfl]
    refine Eq.trans (rh_2 K (m - r) ((r + 1) / 2) (by omega) _ _ _ ((r + 1) / 2) K 0 (by omega) (by omega)) ?_
    rw [w64_id (by omega) (by omega), show ((i : Int) + 1) = ((i + 1 : Nat) : Int) by omega]
    have e2 : m - r + (r + 1) / 2 = m - (r - (r + 1) / 2) := by omega
    rw [e2] at g1 ⊢
    exact rh_1 K hK a m ha hm l j hj d n (i + 1) (r - (r + 1) / 2) t' (by omega) (by omega) (by omega) (by rw [Nat.pow_succ] at hr2; omega) g1

theorem RingHalves : confidantlaw15_RingHalves.Pure := by
  intro a ha
  have ua := is_u8 ha
  obtain ⟨K, hK, hkn⟩ := known_f
  refine ⟨K, ?_⟩
  obtain ⟨m, hm, hm2⟩ : ∃ m : Nat, IntKind.i64.wrap (Int.tmod a 64) = (m : Int) ∧ m < 64 := by
    rw [Int.tmod_eq_emod_of_nonneg (by omega), w64_id (by omega) (by omega)]
    exact ⟨(a % 64).toNat, by omega, by omega⟩
  unfold confidantlaw15_RingHalves.f
  simp only [hkn, b1, if_true, lt]
  rw [new_f]
  simp only [b3]
  have h64 : room 64 = 64 := by decide
  refine rh_0 K a m hm hm2 _ (fun l t hl => ?_) m K 0 _ 0 (by omega) (by omega) (new_holds 64) (by simp [h64])
  have e : ((m - m : Nat) : Int) = 0 := by omega
  have key := rh_1 K (by omega) a m hm hm2 l (fun x5561 x5562 x5563 => if x5563 = IntKind.i64.wrap (Int.tmod a 64) then (match ring_Ring_Len.f K l x5561 x5562 with | some (a, b, c) => some (decide (c = 0)) | none => none) else some false) (fun t' ht => by
    simp only [hm]
    rw [if_pos trivial]
    rfl) 10 K 0 m t (by omega) (by omega) (by omega) (by omega) (by rw [Nat.sub_self]; exact hl)
  rw [e] at key
  exact key
end Go.Proofs.Ytjfnejcanlkknaa.Pure
