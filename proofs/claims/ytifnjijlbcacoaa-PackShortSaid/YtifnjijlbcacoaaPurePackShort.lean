import Derived.Test.YtifnjijlbcacoaaPack2
/- A number takes a byte for each seven bits, and each beginning of it is short. No condition. -/
set_option linter.unusedVariables false
set_option linter.unusedSimpArgs false
namespace Go.Proofs.Ytifnjijlbcacoaa.Pure
open Go Go.Fw Go.RowKit Go.Proofs.Ytifnjijlbcacoaa.G Go.Proofs.Ytifnjijlbcacoaa.Pack

theorem fuelP : ∃ K, 200 ≤ K ∧ confidantlaw1_known.f K = some true := ⟨200, Nat.le_refl _, by kernel_rfl⟩

theorem ps_l0 (K : Nat) (j : Int → Option Bool) : ∀ (d m w y : Nat), y < 128 ^ d → d ≤ 9 → d < m → w + d ≤ 1000 → confidantlaw1_PackShort.l0 K j m (w : Int) (y : Int) = j ((w + (hi y).length : Nat) : Int)
  | 0, m, w, y, hy, hd, hm, hw => by
    obtain ⟨m, rfl⟩ : ∃ k, m = k + 1 := ⟨m - 1, by omega⟩
    have : y = 0 := by simpa using hy
    subst this
    rw [confidantlaw1_PackShort.l0.eq_2, if_neg (by omega)]; rfl
  | d + 1, m, w, y, hy, hd, hm, hw => by
    obtain ⟨m, rfl⟩ : ∃ k, m = k + 1 := ⟨m - 1, by omega⟩
    have hlt : y < 18446744073709551616 := Nat.lt_of_lt_of_le hy (Nat.le_trans (Nat.pow_le_pow_right (by decide) hd) (by decide))
    rw [confidantlaw1_PackShort.l0.eq_2]
    by_cases h0 : y = 0
    · subst h0; rw [if_neg (by omega)]; rfl
    · have e1 : sR .u64 (y : Int) 7 = ((y / 128 : Nat) : Int) := sR_nat y 7 hlt
      rw [if_pos (by omega), w64_id (by omega) (by omega), e1, show ((w : Int) + 1) = ((w + 1 : Nat) : Int) by omega]
      rw [ps_l0 K j d m (w + 1) (y / 128) (Nat.div_lt_of_lt_mul (by rw [Nat.pow_succ, Nat.mul_comm] at hy; exact hy)) (by omega) (by omega) (by omega), hi_eq hlt h0]
      congr 2
      simp; omega

theorem PackShort : confidantlaw1_PackShort.Pure := by
  intro n k c hn hk hc
  have uc := is_u8 hc
  obtain ⟨K, hK, hkn⟩ := fuelP
  obtain ⟨x, hx, hxe⟩ := edge_f n k hn hk
  refine ⟨K, ?_⟩
  unfold confidantlaw1_PackShort.f
  simp only [hkn, b1, if_true, lt, hxe]
  have e0 : ([(x : Int)] : List Int) = ints [x] := rfl
  have e1 : encs [x] = enc x := by simp [encs]
  rw [e0, put_f K [x] (fun n hn => by rw [List.mem_singleton.1 hn]; exact hx) (by simp) (by omega) (by simp; omega), e1]
  simp only
  have e2 : sR .u64 (x : Int) 7 = ((x / 128 : Nat) : Int) := sR_nat x 7 hx
  have hd : x / 128 < 128 ^ 9 := Nat.lt_of_lt_of_le (show x / 128 < 144115188075855872 + 1 by omega) (by decide)
  rw [e2]
  refine Eq.trans (ps_l0 K _ 9 K 1 (x / 128) hd (by omega) (by omega) (by omega)) ?_
  have el : (enc x).length = 1 + (hi (x / 128)).length := by simp [enc]; omega
  have ep := enc_pos x
  have ele := enc_len x
  have em : mx ((enc x).length : Int) 1 = ((enc x).length : Int) := by unfold mx; rw [if_neg (by omega)]
  simp only [em]
  rw [w64_id (by omega) (by omega)]
  obtain ⟨c', hc', hc2⟩ : ∃ c' : Nat, Int.tmod c ((enc x).length : Int) = (c' : Int) ∧ c' < (enc x).length := by
    rw [Int.tmod_eq_emod_of_nonneg (by omega)]
    have h1 := Int.emod_nonneg c (show ((enc x).length : Int) ≠ 0 by omega)
    have h2 := Int.emod_lt_of_pos c (show 0 < ((enc x).length : Int) by omega)
    exact ⟨(c % ((enc x).length : Int)).toNat, by omega, by omega⟩
  rw [hc', if_neg (by omega), if_pos (by omega), if_pos (by omega), Int.toNat_natCast]
  have hn' : pack_New.f K ((enc x).take c') = some ((enc x).take c', 0) := rfl
  rw [hn']
  simp only [b2]
  rw [if_pos (by omega), num_f K _ _ (by rw [List.length_take]; omega) ((enc_B x).take _) (by rw [List.length_take]; omega), rd_short _ x c' hx hc2]
  rfl
end Go.Proofs.Ytifnjijlbcacoaa.Pure
