import Derived.Test.YtocdpimpkifdmaaDoorPack2
import Derived.Test.YtocdpimpkifdmaaDoorG1
/- The document's numbers. Conditions: in the lemmas. -/
set_option linter.unusedVariables false
set_option linter.unusedSimpArgs false
namespace Go.Proofs.YtocdpimpkifdmaaDoor.Pack
open Go Go.Fw Go.RowKit Go.Proofs.YtocdpimpkifdmaaDoor.G

theorem and_nat {x y : Nat} (hx : x < 18446744073709551616) (hy : y < 18446744073709551616) : bA .u64 (x : Int) (y : Int) = ((x &&& y : Nat) : Int) := by
  have h3 : ((BitVec.ofInt 64 (x : Int)) &&& (BitVec.ofInt 64 (y : Int))).toNat = x &&& y := by
    rw [BitVec.toNat_and, BitVec.toNat_ofInt, BitVec.toNat_ofInt]
    have e1 : ((x : Int) % ((2 ^ 64 : Nat) : Int)).toNat = x := by omega
    have e2 : ((y : Int) % ((2 ^ 64 : Nat) : Int)).toNat = y := by omega
    rw [e1, e2]
  have h4 : x &&& y ≤ x := Nat.and_le_left
  show IntKind.u64.wrap ((((BitVec.ofInt 64 (x : Int)) &&& (BitVec.ofInt 64 (y : Int))).toNat : Nat) : Int) = _
  rw [h3, wu64_id (by omega) (by omega)]
theorem and7 {x : Nat} (hx : x < 18446744073709551616) : bA .u64 (x : Int) 127 = ((x % 128 : Nat) : Int) := by
  have := and_nat hx (y := 127) (by omega)
  rw [show ((127 : Nat) : Int) = 127 from rfl] at this
  rw [this]
  have h := Nat.and_two_pow_sub_one_eq_mod x 7
  rw [show (2 : Nat) ^ 7 - 1 = 127 from rfl] at h
  rw [h]
theorem rp_1 (K : Nat) (j : List Int → Option (List Int)) : ∀ (d m y : Nat) (acc : List Int), y < 128 ^ d → d ≤ 9 → d < m → acc.length + d ≤ 1000 → confidantref1_Put.l1 K j m acc (y : Int) = j (hi y ++ acc)
  | 0, m, y, acc, hy, hd, hm, hw => by
    obtain ⟨m, rfl⟩ : ∃ k, m = k + 1 := ⟨m - 1, by omega⟩
    have : y = 0 := by simpa using hy
    subst this
    rw [confidantref1_Put.l1.eq_2, if_neg (by omega)]; rfl
  | d + 1, m, y, acc, hy, hd, hm, hw => by
    obtain ⟨m, rfl⟩ : ∃ k, m = k + 1 := ⟨m - 1, by omega⟩
    have hlt : y < 18446744073709551616 := Nat.lt_of_lt_of_le hy (Nat.le_trans (Nat.pow_le_pow_right (by decide) hd) (by decide))
    rw [confidantref1_Put.l1.eq_2]
    by_cases h0 : y = 0
    · subst h0; rw [if_neg (by omega)]; rfl
    · have e1 : sR .u64 (y : Int) 7 = ((y / 128 : Nat) : Int) := sR_nat y 7 hlt
      have e2 : IntKind.u8.wrap ((y % 128 : Nat) : Int) = ((y % 128 : Nat) : Int) := wu8_id (by omega) (by omega)
      have e3 : y % 128 % 128 = y % 128 := by omega
      rw [if_pos (by omega), and7 hlt, e2, b_or _ (by omega), e1, e3]
      simp only [lt, List.length_cons, List.length_nil]
      rw [if_pos (by omega), rp_1 K j d m (y / 128) _ (Nat.div_lt_of_lt_mul (by rw [Nat.pow_succ, Nat.mul_comm] at hy; exact hy)) (by omega) (by omega) (by simp; omega), hi_eq hlt h0, List.append_assoc]
theorem rp_0 (K : Nat) (ns : List Nat) (hU : U64 ns) (hl : ns.length ≤ 10000) (hK : 12 ≤ K) : ∀ (d m i : Nat), i + d = ns.length → d < m → confidantref1_Put.l0 K (ints ns) m (encs (ns.take i)) (i : Int) = some (encs ns)
  | 0, m, i, hd, hm => by
    obtain ⟨m, rfl⟩ : ∃ k, m = k + 1 := ⟨m - 1, by omega⟩
    have hlen : (ints ns).length = ns.length := by simp [ints]
    rw [confidantref1_Put.l0.eq_2, if_neg (by omega), List.take_of_length_le (by omega)]
  | d + 1, m, i, hd, hm => by
    obtain ⟨m, rfl⟩ : ∃ k, m = k + 1 := ⟨m - 1, by omega⟩
    have hlen : (ints ns).length = ns.length := by simp [ints]
    have hi : i < ns.length := by omega
    have hx : (ints ns).getD (i : Int).toNat 0 = ((ns[i] : Nat) : Int) := by simp [ints, List.getD, hi]
    have hn := hU _ (List.getElem_mem hi)
    have hle := encs_len (ns.take i)
    rw [List.length_take] at hle
    have e1 : sR .u64 ((ns[i] : Nat) : Int) 7 = ((ns[i] / 128 : Nat) : Int) := sR_nat ns[i] 7 hn
    have e2 : IntKind.u8.wrap ((ns[i] % 128 : Nat) : Int) = ((ns[i] % 128 : Nat) : Int) := wu8_id (by omega) (by omega)
    have hd9 : ns[i] / 128 < 128 ^ 9 := Nat.lt_of_lt_of_le (show ns[i] / 128 < 144115188075855872 + 1 by omega) (by decide)
    rw [confidantref1_Put.l0.eq_2, if_pos (by omega)]
    simp only [lt]
    rw [if_pos (by omega), hx, and7 hn, e1, e2, rp_1 K _ 9 K (ns[i] / 128) _ hd9 (by omega) (by omega) (by simp)]
    have he := enc_len ns[i]
    have e3 : Pack.hi (ns[i] / 128) ++ [((ns[i] % 128 : Nat) : Int)] = enc ns[i] := rfl
    rw [e3, if_pos (by omega), w64_id (by omega) (by omega), show ((i : Int) + 1) = ((i + 1 : Nat) : Int) by omega]
    have e7 : encs (ns.take i) ++ enc ns[i] = encs (ns.take (i + 1)) := by
      rw [List.take_add_one, encs_app]
      simp [hi, encs]
    rw [e7]
    exact rp_0 K ns hU hl hK d m (i + 1) (by omega) (by omega)
theorem rput_f (K : Nat) (ns : List Nat) (hU : U64 ns) (hl : ns.length ≤ 10000) (hK : 12 ≤ K) (hK2 : ns.length < K) : confidantref1_Put.f K (ints ns) = some (encs ns) := rp_0 K ns hU hl hK ns.length K 0 (by omega) hK2

end Go.Proofs.YtocdpimpkifdmaaDoor.Pack
