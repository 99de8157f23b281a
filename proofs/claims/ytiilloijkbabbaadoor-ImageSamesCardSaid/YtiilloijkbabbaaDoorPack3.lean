import Derived.Test.YtiilloijkbabbaaDoorPack2
/- The document's numbers. Conditions: in the lemmas. -/
set_option linter.unusedVariables false
set_option linter.unusedSimpArgs false
namespace Go.Proofs.YtiilloijkbabbaaDoor.Pack
open Go Go.Fw Go.RowKit Go.Proofs.YtiilloijkbabbaaDoor.G

theorem and_nat {x y : Nat} (hx : x < 18446744073709551616) (hy : y < 18446744073709551616) : bA .u64 (x : Int) (y : Int) = ((x &&& y : Nat) : Int) := by
  have h3 : ((BitVec.ofInt 64 (x : Int)) &&& (BitVec.ofInt 64 (y : Int))).toNat = x &&& y := by
    rw [BitVec.toNat_and, BitVec.toNat_ofInt, BitVec.toNat_ofInt]
    have e1 : ((x : Int) % ((2 ^ 64 : Nat) : Int)).toNat = x := by omega
    have e2 : ((y : Int) % ((2 ^ 64 : Nat) : Int)).toNat = y := by omega
    rw [e1, e2]
  have h4 : x &&& y ≤ x := Nat.and_le_left
  show IntKind.u64.wrap ((((BitVec.ofInt 64 (x : Int)) &&& (BitVec.ofInt 64 (y : Int))).toNat : Nat) : Int) = _
  rw [h3, wu64_id (by omega) (by omega)]
theorem and7 {x : Nat} (hx : x < 18446744073709551616) : bA .u64 (x : Int) 127 = ((x % 128 : Nat) : Int) := by
  have := and_nat hx (y := 127) (by omega)
  rw [show ((127 : Nat) : Int) = 127 from rfl] at this
  rw [this]
  have h := Nat.and_two_pow_sub_one_eq_mod x 7
  rw [show (2 : Nat) ^ 7 - 1 = 127 from rfl] at h
  rw [h]
theorem b_127 : ∀ c : Nat, c < 256 → bA .u8 (c : Int) 127 = ((c % 128 : Nat) : Int) := by decide +kernel
/-- what is read is what stands there -/
theorem rd_back (most : Int) : ∀ (l : List Int) (a : Nat) (f : Bool) (rest : List Int) (v : Int), IsB l → a < 18446744073709551616 → (f = true → a = 0) → (f = false → a ≠ 0) → rdN most l a f = (rest, 0, v) →
    ∃ n : Nat, v = (n : Int) ∧ n < 18446744073709551616 ∧ hi a ++ l = enc n ++ rest ∧ v ≤ most
  | [], a, f, rest, v, _, _, _, _, h => by simp [rdN] at h
  | c :: l, a, f, rest, v, hB, ha, hf, hf2, h => by
    have hBl : IsB l := fun x hx => hB x (by simp [hx])
    obtain ⟨cn, rfl, hc⟩ := hB c (by simp)
    unfold rdN at h
    split at h
    · simp at h
    · rename_i h0
      have ha2 : a < 144115188075855872 := by
        rcases Nat.lt_or_ge a 144115188075855872 with h2 | h2
        · exact h2
        · exact absurd (.inr h2) h0
      split at h
      · rename_i h1
        split at h
        · simp at h
        · rename_i h2
          simp only [Prod.mk.injEq] at h
          obtain ⟨rfl, _, rfl⟩ := h
          have hcn : cn < 128 := by omega
          refine ⟨_, rfl, by simp only [Int.toNat_natCast]; omega, ?_, by omega⟩
          unfold enc
          simp only [Int.toNat_natCast]
          have e1 : (128 * a + cn % 128) / 128 = a := by omega
          have e2 : (128 * a + cn % 128) % 128 = cn := by omega
          rw [e1, e2, List.append_assoc]
          rfl
      · rename_i h1
        have hcn : 128 ≤ cn := by omega
        have hne : 128 * a + cn % 128 ≠ 0 := by
          intro g
          have g1 : a = 0 := by omega
          have g2 : cn = 128 := by omega
          cases f with
          | true => exact h0 (.inl ⟨rfl, by rw [g2]; rfl⟩)
          | false => exact hf2 rfl g1
        simp only [Int.toNat_natCast] at h
        obtain ⟨n, hn1, hn2, hn3, hn4⟩ := rd_back most l (128 * a + cn % 128) false rest v hBl (by omega) (fun g => by simp at g) (fun _ => hne) h
        refine ⟨n, hn1, hn2, ?_, hn4⟩
        rw [← hn3, hi_eq (by omega) hne, List.append_assoc]
        have e1 : (128 * a + cn % 128) / 128 = a := by omega
        have e2 : (128 * a + cn % 128) % 128 + 128 = cn := by omega
        rw [e1, e2]
        rfl
theorem look_back (l : List Int) (e most : Int) (rest : List Int) (v : Int) (hB : IsB l) (h : lookN l e most = (rest, 0, v)) : e = 0 ∧ ∃ n : Nat, v = (n : Int) ∧ n < 18446744073709551616 ∧ l = enc n ++ rest ∧ v ≤ most := by
  unfold lookN at h
  by_cases he : e = 0
  · rw [if_pos he] at h
    refine ⟨he, ?_⟩
    obtain ⟨n, h1, h2, h3, h4⟩ := rd_back most l 0 true rest v hB (by omega) (fun _ => rfl) (fun g => by simp at g) h
    rw [hi_zero, List.nil_append] at h3
    exact ⟨n, h1, h2, h3, h4⟩
  · rw [if_neg he] at h
    simp only [Prod.mk.injEq] at h
    exact absurd h.2.1 he

end Go.Proofs.YtiilloijkbabbaaDoor.Pack
