import Derived.Test.YtifnjijlbcacoaaPack
/- Numbers as bytes: what is read of what was written; edges; strings of bytes. Conditions: in the lemmas. -/
set_option linter.unusedVariables false
set_option linter.unusedSimpArgs false
namespace Go.Proofs.Ytifnjijlbcacoaa.Pack
open Go Go.Fw Go.RowKit Go.Proofs.Ytifnjijlbcacoaa.G

/-! ### what is read of what was written -/
theorem rd_hi (most : Int) : ∀ (f m : Nat) (rest : List Int), m ≤ f → m < 18446744073709551616 → rdN most (hi m ++ rest) 0 true = if m = 0 then rdN most rest 0 true else rdN most rest m false
  | f, 0, rest, _, _ => by rw [hi_zero]; rfl
  | 0, m + 1, rest, h, _ => by omega
  | f + 1, m + 1, rest, h, hm => by
    rw [hi_eq hm (by omega), List.append_assoc, rd_hi most f ((m + 1) / 128) _ (by omega) (by omega), if_neg (show ¬ m + 1 = 0 by omega)]
    have e1 : (((m + 1) % 128 + 128 : Nat) : Int).toNat % 128 = (m + 1) % 128 := by omega
    by_cases h0 : (m + 1) / 128 = 0
    · rw [if_pos h0]
      show rdN most ((((m + 1) % 128 + 128 : Nat) : Int) :: rest) 0 true = _
      rw [rdN, if_neg (by omega), if_neg (by omega), e1]
      congr 1
      omega
    · rw [if_neg h0]
      show rdN most ((((m + 1) % 128 + 128 : Nat) : Int) :: rest) ((m + 1) / 128) false = _
      rw [rdN, if_neg (by simp; omega), if_neg (by omega), e1]
      congr 1
      omega

theorem rd_enc (most : Int) (n : Nat) (rest : List Int) (hn : n < 18446744073709551616) : rdN most (enc n ++ rest) 0 true = if (n : Int) > most then ([], 22, 0) else (rest, 0, (n : Int)) := by
  unfold enc
  rw [List.append_assoc, rd_hi most _ (n / 128) _ (Nat.le_refl _) (by omega)]
  have e1 : ((n % 128 : Nat) : Int).toNat % 128 = n % 128 := by omega
  by_cases h0 : n / 128 = 0
  · rw [if_pos h0]
    show rdN most (((n % 128 : Nat) : Int) :: rest) 0 true = _
    rw [rdN, if_neg (by omega), if_pos (by omega), e1, show 128 * 0 + n % 128 = n by omega]
  · rw [if_neg h0]
    show rdN most (((n % 128 : Nat) : Int) :: rest) (n / 128) false = _
    rw [rdN, if_neg (by simp; omega), if_pos (by omega), e1, show 128 * (n / 128) + n % 128 = n by omega]

theorem hi_prefix : ∀ (f m : Nat) (p : List Int), m ≤ f → m < 18446744073709551616 → p <+: hi m → ∃ q, q ≤ m ∧ p = hi q
  | f, 0, p, _, _, h => ⟨0, Nat.le_refl _, by rw [hi_zero] at h ⊢; exact List.prefix_nil.1 h⟩
  | 0, m + 1, p, h, _, _ => by omega
  | f + 1, m + 1, p, h, hm, hp => by
    rw [hi_eq hm (by omega)] at hp
    rcases List.prefix_concat_iff.1 hp with h1 | h1
    · exact ⟨m + 1, Nat.le_refl _, by rw [h1, hi_eq hm (by omega)]⟩
    · obtain ⟨q, h2, h3⟩ := hi_prefix f ((m + 1) / 128) p (by omega) (by omega) h1
      exact ⟨q, by omega, h3⟩

/-- a beginning of a number is short -/
theorem rd_short (most : Int) (n c : Nat) (hn : n < 18446744073709551616) (hc : c < (enc n).length) : rdN most ((enc n).take c) 0 true = ([], 21, 0) := by
  unfold enc at hc ⊢
  rw [List.length_append, List.length_singleton] at hc
  rw [List.take_append_of_le_length (by omega)]
  obtain ⟨q, h1, h2⟩ := hi_prefix _ (n / 128) _ (Nat.le_refl _) (by omega) (List.take_prefix c (hi (n / 128)))
  rw [h2]
  have := rd_hi most q q [] (Nat.le_refl _) (by omega)
  rw [List.append_nil] at this
  rw [this]
  split <;> rfl

/-! ### edges -/
theorem edge_f (n k : Int) (hn : (Lit.int .u64 n).wf = true) (hk : (Lit.int .u8 k).wf = true) : ∃ x : Nat, x < 18446744073709551616 ∧ ∀ K, confidantlaw1_edge.f K n k = some (x : Int) := by
  have un := is_u64 hn
  have uk := is_u8 hk
  obtain ⟨N, rfl⟩ : ∃ N : Nat, n = (N : Int) := ⟨n.toNat, by omega⟩
  have hN : N < 18446744073709551616 := by omega
  unfold confidantlaw1_edge.f
  simp only [lt]
  have s1 : sR .u64 (N : Int) 32 = ((N / 2 ^ 32 : Nat) : Int) := sR_nat N 32 hN
  have s2 : sR .u64 (N : Int) 57 = ((N / 2 ^ 57 : Nat) : Int) := sR_nat N 57 hN
  rw [s1, s2, w64_id (by omega) (by omega)]
  obtain ⟨j, hj, hj2⟩ : ∃ j : Nat, Int.tmod k 12 = (j : Int) ∧ j < 12 := by
    rw [Int.tmod_eq_emod_of_nonneg (by omega)]
    exact ⟨(k % 12).toNat, by omega, by omega⟩
  simp only [List.length_cons, List.length_nil]
  have hl : ((0 + 1 + 1 + 1 + 1 + 1 + 1 + 1 + 1 + 1 + 1 + 1 + 1 : Nat) : Int) = 12 := rfl
  rw [hl, hj, if_neg (by decide), if_pos (by omega), if_pos (by omega), Int.toNat_natCast]
  have d1 : N / 2 ^ 32 < 18446744073709551616 := Nat.lt_of_le_of_lt (Nat.div_le_self _ _) hN
  have d2 : N / 2 ^ 57 < 18446744073709551616 := Nat.lt_of_le_of_lt (Nat.div_le_self _ _) hN
  match j, hj2 with
  | 0, _ => exact ⟨N, hN, fun _ => rfl⟩
  | 1, _ => exact ⟨_, d1, fun _ => rfl⟩
  | 2, _ => exact ⟨_, d2, fun _ => rfl⟩
  | 3, _ => exact ⟨0, by omega, fun _ => rfl⟩
  | 4, _ => exact ⟨1, by omega, fun _ => rfl⟩
  | 5, _ => exact ⟨127, by omega, fun _ => rfl⟩
  | 6, _ => exact ⟨128, by omega, fun _ => rfl⟩
  | 7, _ => exact ⟨16383, by omega, fun _ => rfl⟩
  | 8, _ => exact ⟨16384, by omega, fun _ => rfl⟩
  | 9, _ => exact ⟨9223372036854775807, by omega, fun _ => rfl⟩
  | 10, _ => exact ⟨9223372036854775808, by omega, fun _ => rfl⟩
  | 11, _ => exact ⟨18446744073709551615, by omega, fun _ => rfl⟩
  | j + 12, h => omega

/-! ### strings -/
def bs (l : List Int) : List UInt8 := l.map fun n => UInt8.ofNat n.toNat
theorem bStr_data (l : List Int) : (bStr l).data.toList = bs l := by
  have key : ∀ (l : List Int) (r : ByteArray), (l.foldl (fun r n => r.push (UInt8.ofNat n.toNat)) r).data.toList = r.data.toList ++ bs l := by
    intro l
    induction l with
    | nil => intro r; simp [bs]
    | cons a l ih => intro r; rw [List.foldl_cons, ih]; simp [bs, ByteArray.push]
  have := key l ByteArray.empty
  simpa [bStr] using this
theorem bStr_toList (l : List Int) : (bStr l).toList = bs l := by rw [ByteArray.toList_eq, bStr_data]
theorem bStr_size (l : List Int) : (bStr l).size = l.length := by
  have : (bStr l).data.toList.length = l.length := by rw [bStr_data]; simp [bs]
  simpa using this
theorem bs_inj {a b : List Int} (ha : IsB a) (hb : IsB b) (h : bs a = bs b) : a = b := by
  induction a generalizing b with
  | nil => cases b with
    | nil => rfl
    | cons y b => simp [bs] at h
  | cons x a ih => cases b with
    | nil => simp [bs] at h
    | cons y b =>
      simp only [bs, List.map_cons, List.cons.injEq] at h
      obtain ⟨c, rfl, hc⟩ := ha x (by simp)
      obtain ⟨d, rfl, hd⟩ := hb y (by simp)
      have h1 : c = d := by
        have := congrArg UInt8.toNat h.1
        simp at this
        omega
      rw [h1, ih (fun z hz => ha z (by simp [hz])) (fun z hz => hb z (by simp [hz])) h.2]
theorem bStr_eq {a b : List Int} (ha : IsB a) (hb : IsB b) : ((bStr a).toList == (bStr b).toList) = decide (a = b) := by
  rw [bStr_toList, bStr_toList]
  by_cases h : a = b
  · subst h; simp
  · rw [decide_eq_false h]
    simp only [beq_eq_false_iff_ne, ne_eq]
    exact fun e => h (bs_inj ha hb e)
theorem bStr_self (a : List Int) : ((bStr a).toList == (bStr a).toList) = true := by simp
end Go.Proofs.Ytifnjijlbcacoaa.Pack
