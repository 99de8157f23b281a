import Derived.Test.YtifnjijlbcacoaaPack2
/- Numbers of one length are in order as their bytes, and none is the beginning of another one. No condition. -/
set_option linter.unusedVariables false
set_option linter.unusedSimpArgs false
namespace Go.Proofs.Ytifnjijlbcacoaa.Pure
open Go Go.Fw Go.RowKit Go.Proofs.Ytifnjijlbcacoaa.G Go.Proofs.Ytifnjijlbcacoaa.Pack

theorem less_snoc : ∀ (a b : List UInt8) (c d : UInt8), a.length = b.length → Op.bytesLess (a ++ [c]) (b ++ [d]) = (Op.bytesLess a b || (a == b && decide (c < d)))
  | [], [], c, d, _ => by simp [Op.bytesLess]
  | [], _ :: _, c, d, h => by simp at h
  | _ :: _, [], c, d, h => by simp at h
  | x :: a, y :: b, c, d, h => by
    have ih := less_snoc a b c d (by simpa using h)
    show (decide (x < y) || (x == y && Op.bytesLess (a ++ [c]) (b ++ [d]))) = ((decide (x < y) || (x == y && Op.bytesLess a b)) || ((x :: a) == (y :: b) && decide (c < d)))
    rw [ih]
    have e : ((x :: a) == (y :: b)) = ((x == y) && (a == b)) := rfl
    rw [e]
    cases decide (x < y) <;> cases x == y <;> cases Op.bytesLess a b <;> cases a == b <;> rfl

theorem bs_snoc (a : List Int) (c : Int) : bs (a ++ [c]) = bs a ++ [UInt8.ofNat c.toNat] := by simp [bs]
theorem u8_lt {c d : Nat} (hc : c < 256) (hd : d < 256) : (UInt8.ofNat c < UInt8.ofNat d) ↔ c < d := by
  rw [UInt8.lt_iff_toNat_lt]
  simp
  omega

theorem hi_len0 {m : Nat} (hm : m < 18446744073709551616) : (hi m).length = 0 ↔ m = 0 := by
  constructor
  · intro h
    by_cases h0 : m = 0
    · exact h0
    · rw [hi_eq hm h0] at h; simp at h
  · rintro rfl; rfl

theorem hi_less : ∀ (f x y : Nat), x ≤ f → x < 18446744073709551616 → y < 18446744073709551616 → (hi x).length = (hi y).length → Op.bytesLess (bs (hi x)) (bs (hi y)) = decide (x < y) ∧ (bs (hi x) = bs (hi y) ↔ x = y)
  | f, 0, y, _, _, hy, hl => by
    have : y = 0 := (hi_len0 hy).1 (by rw [← hl]; rfl)
    subst this
    exact ⟨rfl, by simp⟩
  | 0, x + 1, y, h, _, _, _ => by omega
  | f + 1, x + 1, y, hf, hx, hy, hl => by
    have hy0 : y ≠ 0 := fun h => by
      subst h
      have := (hi_len0 hx).1 (by rw [hl]; rfl)
      omega
    rw [hi_eq hx (by omega), hi_eq hy hy0] at hl ⊢
    have hl' : (hi ((x + 1) / 128)).length = (hi (y / 128)).length := by simpa using hl
    obtain ⟨i1, i2⟩ := hi_less f ((x + 1) / 128) (y / 128) (by omega) (by omega) (by omega) hl'
    have hbl : (bs (hi ((x + 1) / 128))).length = (bs (hi (y / 128))).length := by simpa [bs] using hl'
    rw [bs_snoc, bs_snoc, less_snoc _ _ _ _ hbl, i1, Int.toNat_natCast, Int.toNat_natCast]
    have hlt := u8_lt (c := (x + 1) % 128 + 128) (d := y % 128 + 128) (by omega) (by omega)
    constructor
    · rw [Bool.eq_iff_iff]
      simp only [Bool.or_eq_true, Bool.and_eq_true, decide_eq_true_eq, beq_iff_eq, i2, hlt]
      omega
    · constructor
      · intro h
        have h1 := List.append_inj' h rfl
        have h2 := i2.1 h1.1
        have h3 : UInt8.ofNat ((x + 1) % 128 + 128) = UInt8.ofNat (y % 128 + 128) := by simpa using h1.2
        have h4 := congrArg UInt8.toNat h3
        simp at h4
        omega
      · intro h; rw [h]

theorem hi_mono : ∀ (f x y : Nat), y ≤ f → x ≤ y → y < 18446744073709551616 → (hi x).length ≤ (hi y).length
  | f, 0, y, _, _, _ => by rw [hi_zero]; simp
  | 0, x + 1, y, h, h2, _ => by omega
  | f + 1, x + 1, y, hf, hxy, hy => by
    rw [hi_eq (by omega) (by omega), hi_eq hy (by omega)]
    have := hi_mono f ((x + 1) / 128) (y / 128) (by omega) (by omega) (by omega)
    simp; omega

theorem hi_128 : ∀ (f m : Nat), m ≤ f → m < 18446744073709551616 → ∀ x ∈ hi m, 128 ≤ x
  | f, 0, _, _, x, hx => by rw [hi_zero] at hx; simp at hx
  | 0, m + 1, h, _, _, _ => by omega
  | f + 1, m + 1, hf, hm, x, hx => by
    rw [hi_eq hm (by omega)] at hx
    rcases List.mem_append.1 hx with h | h
    · exact hi_128 f ((m + 1) / 128) (by omega) (by omega) x h
    · rw [List.mem_singleton.1 h]; omega

theorem enc_less {x y : Nat} (hx : x < 18446744073709551616) (hy : y < 18446744073709551616) (hl : (enc x).length = (enc y).length) : Op.bytesLess (bs (enc x)) (bs (enc y)) = decide (x < y) := by
  unfold enc at hl ⊢
  have hl' : (hi (x / 128)).length = (hi (y / 128)).length := by simpa using hl
  obtain ⟨i1, i2⟩ := hi_less _ (x / 128) (y / 128) (Nat.le_refl _) (by omega) (by omega) hl'
  have hbl : (bs (hi (x / 128))).length = (bs (hi (y / 128))).length := by simpa [bs] using hl'
  rw [bs_snoc, bs_snoc, less_snoc _ _ _ _ hbl, i1, Int.toNat_natCast, Int.toNat_natCast]
  have hlt := u8_lt (c := x % 128) (d := y % 128) (by omega) (by omega)
  rw [Bool.eq_iff_iff]
  simp only [Bool.or_eq_true, Bool.and_eq_true, decide_eq_true_eq, beq_iff_eq, i2, hlt]
  omega

theorem enc_apart {x y : Nat} (hx : x < 18446744073709551616) (hy : y < 18446744073709551616) (hl : (enc x).length < (enc y).length) : x < y ∧ bs ((enc y).take (enc x).length) ≠ bs (enc x) := by
  constructor
  · rcases Nat.lt_or_ge x y with h | h
    · exact h
    · have := hi_mono _ (y / 128) (x / 128) (Nat.le_refl _) (Nat.div_le_div_right h) (by omega)
      unfold enc at hl
      simp at hl; omega
  · intro h
    have h1 := bs_inj ((enc_B y).take _) (enc_B x) h
    have hle : (enc x).length ≤ (hi (y / 128)).length := by
      have : (enc y).length = (hi (y / 128)).length + 1 := by simp [enc]
      omega
    have h2 : ((x % 128 : Nat) : Int) ∈ (enc y).take (enc x).length := by rw [h1]; simp [enc]
    have h3 : (enc y).take (enc x).length = (hi (y / 128)).take (enc x).length := by
      show (hi (y / 128) ++ _).take _ = _
      rw [List.take_append_of_le_length hle]
    rw [h3] at h2
    have := hi_128 _ (y / 128) (Nat.le_refl _) (by omega) _ (List.mem_of_mem_take h2)
    omega

theorem ext_toList (l : List Int) (n : Nat) : ((bStr l).extract 0 n).toList = bs (l.take n) := by
  rw [ByteArray.toList_eq, ByteArray.data_extract, Array.toList_extract, bStr_data]
  simp [bs, List.map_take]

theorem PackOrders : confidantlaw1_PackOrders.Pure := by
  intro n m k j hn hm hk hj
  obtain ⟨K, hK, hkn⟩ : ∃ K, 200 ≤ K ∧ confidantlaw1_known.f K = some true := ⟨200, Nat.le_refl _, by kernel_rfl⟩
  obtain ⟨x, hx, hxe⟩ := edge_f n k hn hk
  obtain ⟨y, hy, hye⟩ := edge_f m j hm hj
  refine ⟨K, ?_⟩
  unfold confidantlaw1_PackOrders.f
  simp only [hkn, b1, if_true, lt, hxe, hye]
  have e1 : ∀ x : Nat, encs [x] = enc x := fun x => by simp [encs]
  have pf : ∀ x : Nat, x < 18446744073709551616 → pack_Put.f K [(x : Int)] = some (enc x) := fun x hx => by
    have := put_f K [x] (fun n hn => by rw [List.mem_singleton.1 hn]; exact hx) (by simp) (by omega) (by simp; omega)
    rw [e1] at this
    exact this
  rw [pf x hx, pf y hy]
  simp only [bStr_size]
  by_cases h : ((enc x).length : Int) = ((enc y).length : Int)
  · rw [if_pos h, bStr_toList, bStr_toList, enc_less hx hy (by omega)]
    have : (decide (x < y)) = (decide ((x : Int) < (y : Int))) := by simp
    rw [this]; simp
  · rw [if_neg h]
    have go : ∀ (x y : Nat), x < 18446744073709551616 → y < 18446744073709551616 → (enc x).length < (enc y).length →
        (if (x : Int) < (y : Int) then if ((enc x).length : Int) > 0 then if 0 ≤ ((enc x).length : Int) then if ((enc x).length : Int) ≤ ((enc y).length : Int) then some (!(((bStr (enc y)).extract 0 (((enc x).length : Int).toNat)).toList == (bStr (enc x)).toList)) else none else none else some false else some false) = some true := by
      intro x y hx hy hl
      obtain ⟨h1, h2⟩ := enc_apart hx hy hl
      have := enc_pos x
      rw [if_pos (by omega), if_pos (by omega), if_pos (by omega), if_pos (by omega), Int.toNat_natCast, ext_toList, bStr_toList]
      simp [h2]
    by_cases h2 : ((enc x).length : Int) > ((enc y).length : Int)
    · rw [if_pos h2]
      exact go y x hy hx (by omega)
    · rw [if_neg h2]
      exact go x y hx hy (by omega)
end Go.Proofs.Ytifnjijlbcacoaa.Pure
