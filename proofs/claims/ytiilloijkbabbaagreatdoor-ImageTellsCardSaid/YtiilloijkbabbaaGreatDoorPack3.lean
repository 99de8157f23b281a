import Derived.Test.YtiilloijkbabbaaGreatDoorG2
import Derived.Test.YtiilloijkbabbaaGreatDoorPack2
/- The document's numbers. Conditions: in the lemmas. -/
set_option linter.unusedVariables false
set_option linter.unusedSimpArgs false
namespace Go.Proofs.YtiilloijkbabbaaGreatDoor.Pack
open Go Go.Fw Go.RowKit Go.Proofs.YtiilloijkbabbaaGreatDoor.G

theorem and_nat {x y : Nat} (hx : x < 18446744073709551616) (hy : y < 18446744073709551616) : bA .u64 (x : Int) (y : Int) = ((x &&& y : Nat) : Int) := by
  have h3 : ((BitVec.ofInt 64 (x : Int)) &&& (BitVec.ofInt 64 (y : Int))).toNat = x &&& y := by
    rw [BitVec.toNat_and, BitVec.toNat_ofInt, BitVec.toNat_ofInt]
    have e1 : ((x : Int) % ((2 ^ 64 : Nat) : Int)).toNat = x := by omega
    have e2 : ((y : Int) % ((2 ^ 64 : Nat) : Int)).toNat = y := by omega
    rw [e1, e2]
  have h4 : x &&& y ≤ x := Nat.and_le_left
  show IntKind.u64.wrap ((((BitVec.ofInt 64 (x : Int)) &&& (BitVec.ofInt 64 (y : Int))).toNat : Nat) : Int) = _
  rw [h3, wu64_id (by omega) (by omega)]
theorem and7 {x : Nat} (hx : x < 18446744073709551616) : bA .u64 (x : Int) 127 = ((x % 128 : Nat) : Int) := by
  have := and_nat hx (y := 127) (by omega)
  rw [show ((127 : Nat) : Int) = 127 from rfl] at this
  rw [this]
  have h := Nat.and_two_pow_sub_one_eq_mod x 7
  rw [show (2 : Nat) ^ 7 - 1 = 127 from rfl] at h
  rw [h]
theorem rp_1 (K : Nat) (j : List Int → Option (List Int)) : ∀ (d m y : Nat) (acc : List Int), y < 128 ^ d → d ≤ 9 → d < m → acc.length + d ≤ 1000 → confidantref1_Put.l1 K j m acc (y : Int) = j (hi y ++ acc)
  | 0, m, y, acc, hy, hd, hm, hw => by
    obtain ⟨m, rfl⟩ : ∃ k, m = k + 1 := ⟨m - 1, by omega⟩
    have : y = 0 := by simpa using hy
    subst this
    rw [confidantref1_Put.l1.eq_2, if_neg (by omega)]; rfl
  | d + 1, m, y, acc, hy, hd, hm, hw => by
    obtain ⟨m, rfl⟩ : ∃ k, m = k + 1 := ⟨m - 1, by omega⟩
    have hlt : y < 18446744073709551616 := Nat.lt_of_lt_of_le hy (Nat.le_trans (Nat.pow_le_pow_right (by decide) hd) (by decide))
    rw [confidantref1_Put.l1.eq_2]
    by_cases h0 : y = 0
    · subst h0; rw [if_neg (by omega)]; rfl
    · have e1 : sR .u64 (y : Int) 7 = ((y / 128 : Nat) : Int) := sR_nat y 7 hlt
      have e2 : IntKind.u8.wrap ((y % 128 : Nat) : Int) = ((y % 128 : Nat) : Int) := wu8_id (by omega) (by omega)
      have e3 : y % 128 % 128 = y % 128 := by omega
      rw [if_pos (by omega), and7 hlt, e2, b_or _ (by omega), e1, e3]
      simp only [lt, List.length_cons, List.length_nil]
      rw [if_pos (by omega), rp_1 K j d m (y / 128) _ (Nat.div_lt_of_lt_mul (by rw [Nat.pow_succ, Nat.mul_comm] at hy; exact hy)) (by omega) (by omega) (by simp; omega), hi_eq hlt h0, List.append_assoc]
theorem rp_0 (K : Nat) (ns : List Nat) (hU : U64 ns) (hl : ns.length ≤ 10000) (hK : 12 ≤ K) : ∀ (d m i : Nat), i + d = ns.length → d < m → confidantref1_Put.l0 K (ints ns) m (encs (ns.take i)) (i : Int) = some (encs ns)
  | 0, m, i, hd, hm => by
    obtain ⟨m, rfl⟩ : ∃ k, m = k + 1 := ⟨m - 1, by omega⟩
    have hlen : (ints ns).length = ns.length := by simp [ints]
    rw [confidantref1_Put.l0.eq_2, if_neg (by omega), List.take_of_length_le (by omega)]
  | d + 1, m, i, hd, hm => by
    obtain ⟨m, rfl⟩ : ∃ k, m = k + 1 := ⟨m - 1, by omega⟩
    have hlen : (ints ns).length = ns.length := by simp [ints]
    have hi : i < ns.length := by omega
    have hx : (ints ns).getD (i : Int).toNat 0 = ((ns[i] : Nat) : Int) := by simp [ints, List.getD, hi]
    have hn := hU _ (List.getElem_mem hi)
    have hle := encs_len (ns.take i)
    rw [List.length_take] at hle
    have e1 : sR .u64 ((ns[i] : Nat) : Int) 7 = ((ns[i] / 128 : Nat) : Int) := sR_nat ns[i] 7 hn
    have e2 : IntKind.u8.wrap ((ns[i] % 128 : Nat) : Int) = ((ns[i] % 128 : Nat) : Int) := wu8_id (by omega) (by omega)
    have hd9 : ns[i] / 128 < 128 ^ 9 := Nat.lt_of_lt_of_le (show ns[i] / 128 < 144115188075855872 + 1 by omega) (by decide)
    rw [confidantref1_Put.l0.eq_2, if_pos (by omega)]
    simp only [lt]
    rw [if_pos (by omega), hx, and7 hn, e1, e2, rp_1 K _ 9 K (ns[i] / 128) _ hd9 (by omega) (by omega) (by simp)]
    have he := enc_len ns[i]
    have e3 : Pack.hi (ns[i] / 128) ++ [((ns[i] % 128 : Nat) : Int)] = enc ns[i] := rfl
    rw [e3, if_pos (by omega), w64_id (by omega) (by omega), show ((i : Int) + 1) = ((i + 1 : Nat) : Int) by omega]
    have e7 : encs (ns.take i) ++ enc ns[i] = encs (ns.take (i + 1)) := by
      rw [List.take_add_one, encs_app]
      simp [hi, encs]
    rw [e7]
    exact rp_0 K ns hU hl hK d m (i + 1) (by omega) (by omega)
theorem rput_f (K : Nat) (ns : List Nat) (hU : U64 ns) (hl : ns.length ≤ 10000) (hK : 12 ≤ K) (hK2 : ns.length < K) : confidantref1_Put.f K (ints ns) = some (encs ns) := rp_0 K ns hU hl hK ns.length K 0 (by omega) hK2
theorem b_127 : ∀ c : Nat, c < 256 → bA .u8 (c : Int) 127 = ((c % 128 : Nat) : Int) := by decide +kernel
theorem rn_0 (K : Nat) (l : List Int) (most : Int) (hl : l.length ≤ 1000000) (hB : IsB l) : ∀ (d m i a : Nat), i + d = l.length → d < m → a < 18446744073709551616 →
    confidantref1_Reader_Num.l0 K l 0 most (some ([], 21, 0)) m (a : Int) (i : Int) = some (rdN most (l.drop i) a (decide (i = 0)))
  | 0, m, i, a, hd, hm, ha => by
    obtain ⟨m, rfl⟩ : ∃ k, m = k + 1 := ⟨m - 1, by omega⟩
    rw [confidantref1_Reader_Num.l0.eq_2, if_neg (by omega), List.drop_of_length_le (by omega)]
    rfl
  | d + 1, m, i, a, hd, hm, ha => by
    obtain ⟨m, rfl⟩ : ∃ k, m = k + 1 := ⟨m - 1, by omega⟩
    have hi : i < l.length := by omega
    have e1 : l.getD (i : Int).toNat 0 = l[i] := by simp [List.getD, hi]
    obtain ⟨c, hc, hc2⟩ := hB _ (List.getElem_mem hi)
    have e2 : l.drop i = (c : Int) :: l.drop (i + 1) := by rw [List.drop_eq_getElem_cons hi, hc]
    have e4 : IntKind.i64.wrap ((i : Int) + 1) = ((i + 1 : Nat) : Int) := by rw [w64_id (by omega) (by omega)]; omega
    have e5 : (i : Int) = 0 ↔ i = 0 := by omega
    have e7 : IntKind.u64.wrap ((c % 128 : Nat) : Int) = ((c % 128 : Nat) : Int) := wu64_id (by omega) (by omega)
    rw [confidantref1_Reader_Num.l0.eq_2, if_pos (by omega), e2]
    simp only [lt, e1, hc, e4]
    rw [if_pos (by omega)]
    have hbad : confidantref1_Reader_fail.f K l 0 20 = some ([], 20) := rfl
    have hlong : confidantref1_Reader_fail.f K l 0 22 = some ([], 22) := rfl
    have step : ∀ (f : Bool), ¬ (f = true ∧ (c : Int) = 128) → (i = 0 → f = true) → (i ≠ 0 → f = false) → ¬ 144115188075855872 ≤ a →
        (if (c : Int) < 128 then if bO .u64 (sL .u64 (a : Int) 7) (IntKind.u64.wrap (bA .u8 (c : Int) 127)) > most then b2 (confidantref1_Reader_fail.f K l 0 22) fun t9629 t9630 => some (t9629, t9630, 0) else if 0 ≤ ((i + 1 : Nat) : Int) then if ((i + 1 : Nat) : Int) ≤ (l.length : Int) then some (l.drop ((i + 1 : Nat) : Int).toNat, 0, bO .u64 (sL .u64 (a : Int) 7) (IntKind.u64.wrap (bA .u8 (c : Int) 127))) else none else none else confidantref1_Reader_Num.l0 K l 0 most (some ([], 21, 0)) m (bO .u64 (sL .u64 (a : Int) 7) (IntKind.u64.wrap (bA .u8 (c : Int) 127))) ((i + 1 : Nat) : Int)) = some (rdN most ((c : Int) :: l.drop (i + 1)) a f) := by
      intro f h1 h2 h3 h4
      rw [sL7 (by omega), b_127 c hc2, e7, or7 (by omega) (by omega)]
      unfold rdN
      rw [if_neg (c := (f = true ∧ (c : Int) = 128) ∨ 144115188075855872 ≤ a) (fun h => h.elim h1 h4)]
      simp only [Int.toNat_natCast]
      by_cases h5 : (c : Int) < 128
      · rw [if_pos h5, if_pos h5]
        by_cases h6 : ((128 * a + c % 128 : Nat) : Int) > most
        · rw [if_pos h6, if_pos h6, hlong]; rfl
        · rw [if_neg h6, if_neg h6, if_pos (by omega), if_pos (by omega)]
      · rw [if_neg h5, if_neg h5, rn_0 K l most hl hB d m (i + 1) _ (by omega) (by omega) (by omega)]
        congr 2
    have hz : ((a : Nat) : Int) > 144115188075855871 ↔ 144115188075855872 ≤ a := by omega
    have bad : ∀ f : Bool, ((f = true ∧ (c : Int) = 128) ∨ 144115188075855872 ≤ a) → rdN most ((c : Int) :: l.drop (i + 1)) a f = ([], 20, 0) := by
      intro f h
      unfold rdN
      rw [if_pos h]
    by_cases h0 : i = 0
    · rw [if_pos (e5.2 h0), decide_eq_true h0]
      by_cases h1 : (c : Int) = 128
      · rw [if_pos h1, if_pos trivial, hbad, bad true (.inl ⟨rfl, h1⟩)]; rfl
      · rw [if_neg h1]
        by_cases h2 : 144115188075855872 ≤ a
        · rw [if_pos (decide_eq_true (hz.2 h2)), hbad, bad true (.inr h2)]; rfl
        · rw [if_neg (by rw [decide_eq_false (by rw [hz]; exact h2)]; decide)]
          exact step true (by simp [h1]) (by simp) (by simp [h0]) h2
    · rw [if_neg (by omega), decide_eq_false h0]
      by_cases h2 : 144115188075855872 ≤ a
      · rw [if_pos (decide_eq_true (hz.2 h2)), hbad, bad false (.inr h2)]; rfl
      · rw [if_neg (by rw [decide_eq_false (by rw [hz]; exact h2)]; decide)]
        exact step false (by simp) (by simp [h0]) (by simp) h2
theorem rnum_look (K : Nat) (l : List Int) (e most : Int) (hl : l.length ≤ 1000000) (hB : IsB l) (hK : l.length < K) : confidantref1_Reader_Num.f K l e most = some (lookN l e most) := by
  unfold lookN confidantref1_Reader_Num.f
  by_cases h : e = 0
  · subst h
    rw [if_pos rfl, if_pos rfl]
    exact rn_0 K l most hl hB l.length K 0 0 (by omega) hK (by omega)
  · rw [if_neg h, if_neg h]
/-- what is read is what stands there -/
theorem rd_back (most : Int) : ∀ (l : List Int) (a : Nat) (f : Bool) (rest : List Int) (v : Int), IsB l → a < 18446744073709551616 → (f = true → a = 0) → (f = false → a ≠ 0) → rdN most l a f = (rest, 0, v) →
    ∃ n : Nat, v = (n : Int) ∧ n < 18446744073709551616 ∧ hi a ++ l = enc n ++ rest ∧ v ≤ most
  | [], a, f, rest, v, _, _, _, _, h => by simp [rdN] at h
  | c :: l, a, f, rest, v, hB, ha, hf, hf2, h => by
    have hBl : IsB l := fun x hx => hB x (by simp [hx])
    obtain ⟨cn, rfl, hc⟩ := hB c (by simp)
    unfold rdN at h
    split at h
    · simp at h
    · rename_i h0
      have ha2 : a < 144115188075855872 := by
        rcases Nat.lt_or_ge a 144115188075855872 with h2 | h2
        · exact h2
        · exact absurd (.inr h2) h0
      split at h
      · rename_i h1
        split at h
        · simp at h
        · rename_i h2
          simp only [Prod.mk.injEq] at h
          obtain ⟨rfl, _, rfl⟩ := h
          have hcn : cn < 128 := by omega
          refine ⟨_, rfl, by simp only [Int.toNat_natCast]; omega, ?_, by omega⟩
          unfold enc
          simp only [Int.toNat_natCast]
          have e1 : (128 * a + cn % 128) / 128 = a := by omega
          have e2 : (128 * a + cn % 128) % 128 = cn := by omega
          rw [e1, e2, List.append_assoc]
          rfl
      · rename_i h1
        have hcn : 128 ≤ cn := by omega
        have hne : 128 * a + cn % 128 ≠ 0 := by
          intro g
          have g1 : a = 0 := by omega
          have g2 : cn = 128 := by omega
          cases f with
          | true => exact h0 (.inl ⟨rfl, by rw [g2]; rfl⟩)
          | false => exact hf2 rfl g1
        simp only [Int.toNat_natCast] at h
        obtain ⟨n, hn1, hn2, hn3, hn4⟩ := rd_back most l (128 * a + cn % 128) false rest v hBl (by omega) (fun g => by simp at g) (fun _ => hne) h
        refine ⟨n, hn1, hn2, ?_, hn4⟩
        rw [← hn3, hi_eq (by omega) hne, List.append_assoc]
        have e1 : (128 * a + cn % 128) / 128 = a := by omega
        have e2 : (128 * a + cn % 128) % 128 + 128 = cn := by omega
        rw [e1, e2]
        rfl
theorem look_back (l : List Int) (e most : Int) (rest : List Int) (v : Int) (hB : IsB l) (h : lookN l e most = (rest, 0, v)) : e = 0 ∧ ∃ n : Nat, v = (n : Int) ∧ n < 18446744073709551616 ∧ l = enc n ++ rest ∧ v ≤ most := by
  unfold lookN at h
  by_cases he : e = 0
  · rw [if_pos he] at h
    refine ⟨he, ?_⟩
    obtain ⟨n, h1, h2, h3, h4⟩ := rd_back most l 0 true rest v hB (by omega) (fun _ => rfl) (fun g => by simp at g) h
    rw [hi_zero, List.nil_append] at h3
    exact ⟨n, h1, h2, h3, h4⟩
  · rw [if_neg he] at h
    simp only [Prod.mk.injEq] at h
    exact absurd h.2.1 he

end Go.Proofs.YtiilloijkbabbaaGreatDoor.Pack
