import Derived.Test.YtjfnejcanlkknaaTable
/- In each period each label has just its rounds, and the next one comes within one. No condition. -/
set_option linter.unusedVariables false
set_option linter.unusedSimpArgs false
namespace Go.Proofs.Ytjfnejcanlkknaa.Pure
open Go Go.Fw Go.RowKit Go.Proofs.Ytjfnejcanlkknaa.G

theorem G_take {t u : List Int} (c : Int) : ∀ r : Nat, r ≤ t.length → r ≤ u.length → (∀ i, i < r → t.getD i 0 = u.getD i 0) → G t c r = G u c r
  | 0, _, _, _ => rfl
  | r + 1, ht, hu, h => by
    have ih := G_take c r (by omega) (by omega) fun i hi => h i (by omega)
    simp only [G, ih]
    congr 1
    unfold hit rd
    rw [Nat.mod_eq_of_lt (by omega), Nat.mod_eq_of_lt (by omega), h r (by omega)]

theorem ts_make (K : Nat) (l : List Int) (hl : ∀ x ∈ l, (Lit.int .u8 x).wf = true) (hlen : l.length ≤ 100) (a c : Int) (hc : Int.tmod a 5 = c) (j : List Int → Int → Option Bool) : ∀ (d n i : Nat), i + d = l.length → d < n →
    confidantlaw18_TableShares.l0 K l a j n (mk 5 (l.take i)) (G (mk 5 l) c i) (i : Int) = j (mk 5 l) (G (mk 5 l) c l.length)
  | 0, n, i, hd, hn => by
    obtain ⟨n, rfl⟩ : ∃ k, n = k + 1 := ⟨n - 1, by omega⟩
    rw [confidantlaw18_TableShares.l0.eq_2, if_neg (by omega), List.take_of_length_le (by omega), show i = l.length from by omega]
  | d + 1, n, i, hd, hn => by
    obtain ⟨n, rfl⟩ : ∃ k, n = k + 1 := ⟨n - 1, by omega⟩
    have ih := ts_make K l hl hlen a c hc j d n (i + 1) (by omega) (by omega)
    rw [confidantlaw18_TableShares.l0.eq_2, if_pos (by omega)]
    simp only [lt]
    rw [if_pos (by omega)]
    have e4 : IntKind.i64.wrap ((i : Int) + 1) = ((i + 1 : Nat) : Int) := by rw [w64_id (by omega) (by omega)]; omega
    have e5 : (mk 5 (l.take i)).length ≤ 100 := by rw [mk_len]; simp; omega
    have hb := G_in (mk 5 l) c i
    have h8 := u8_at hl i
    have e6 : Int.tmod (l.getD (i : Int).toNat 0) 5 = rd (mk 5 l) i := by
      rw [Int.toNat_natCast, Int.tmod_eq_emod_of_nonneg h8.1]
      unfold rd
      rw [mk_len, Nat.mod_eq_of_lt (by omega)]
      simp [mk, List.getD, show i < l.length from by omega]
    rw [if_pos (by simp only [List.length_cons, List.length_nil]; omega), u8_mod hl _ 5 (by omega), e4, e6, hc, Int.toNat_natCast, mk_step i (by omega)]
    have s1 : G (mk 5 l) c (i + 1) = G (mk 5 l) c i + hit (mk 5 l) c i := rfl
    rw [s1] at ih
    by_cases h : rd (mk 5 l) i = c
    · rw [if_pos h, w64_id (x := G (mk 5 l) c i + 1) (by omega) (by omega)]
      have : hit (mk 5 l) c i = 1 := by unfold hit; rw [if_pos h]
      rw [this] at ih
      exact ih
    · rw [if_neg h]
      have : hit (mk 5 l) c i = 0 := by unfold hit; rw [if_neg h]
      rw [this, Int.add_zero] at ih
      exact ih

theorem G_none {t : List Int} {c : Int} (hL : 0 < t.length) (h : G t c t.length = 0) (r : Nat) : rd t r ≠ c := by
  intro hr
  have hm := Nat.mod_lt r hL
  have key : ∀ n, n ≤ t.length → G t c n ≤ G t c t.length := by
    intro n hn
    obtain ⟨d, hd⟩ : ∃ d, t.length = n + d := ⟨t.length - n, by omega⟩
    rw [hd]
    have : ∀ d, G t c n ≤ G t c (n + d) := by
      intro d
      induction d with
      | zero => exact Int.le_refl _
      | succ d ih => have := hit_in t c (n + d); show G t c n ≤ G t c (n + d) + hit t c (n + d); omega
    exact this d
  have h1 := key (r % t.length + 1) (by omega)
  have h2 := G_in t c (r % t.length)
  have h3 : hit t c (r % t.length) = 1 := by
    unfold hit rd
    rw [Nat.mod_mod]
    exact if_pos hr
  have h4 : G t c (r % t.length + 1) = G t c (r % t.length) + hit t c (r % t.length) := rfl
  omega

theorem TableShares : confidantlaw18_TableShares.Pure := by
  intro l a r0 k0 _ hl ha hr0 hk0
  have ua := is_u8 ha
  have ur := is_u16 hr0
  have uk := is_u8 hk0
  obtain ⟨K, hK, hknown⟩ := fuel
  refine ⟨K, ?_⟩
  unfold confidantlaw18_TableShares.f
  simp only [hknown, b1, if_true, lt]
  by_cases h : (l.length : Int) > 64
  · rw [if_pos h]
  rw [if_neg h]
  by_cases h2 : (l.length : Int) = 0
  · rw [decide_eq_true h2]; rfl
  rw [decide_eq_false h2]
  obtain ⟨r, hr⟩ : ∃ r : Nat, r0 = (r : Int) := ⟨r0.toNat, by omega⟩
  obtain ⟨k, hk⟩ : ∃ k : Nat, k0 = (k : Int) := ⟨k0.toNat, by omega⟩
  subst hr hk
  simp only [Bool.false_eq_true, if_false]
  refine Eq.trans (ts_make K l hl (by omega) a (Int.tmod a 5) rfl _ l.length K 0 (by omega) (by omega)) ?_
  have hL : 0 < (mk 5 l).length := by rw [mk_len]; omega
  have hL2 : (mk 5 l).length ≤ 64 := by rw [mk_len]; omega
  rw [← mk_len 5 l]
  generalize mk 5 l = t at hL hL2 ⊢
  have er : IntKind.i64.wrap (r : Int) = (r : Int) := w64_id (by omega) (by omega)
  have ek : IntKind.i64.wrap (k : Int) = (k : Int) := w64_id (by omega) (by omega)
  have ec0 : Int.tmod a 5 = a % 5 := Int.tmod_eq_emod_of_nonneg (by omega)
  have ec : IntKind.i64.wrap (a % 5) = a % 5 := w64_id (by omega) (by omega)
  rw [ec0, ec]
  generalize a % 5 = c
  have hg := G_in t c t.length
  have hkl : k * t.length ≤ 255 * 64 := Nat.mul_le_mul (by omega) hL2
  have hkg : (k : Int) * G t c t.length ≤ (k : Int) * (t.length : Int) := Int.mul_le_mul_of_nonneg_left hg.2 (by omega)
  have hkg0 : 0 ≤ (k : Int) * G t c t.length := Int.mul_nonneg (by omega) hg.1
  have hkli : (k : Int) * (t.length : Int) = ((k * t.length : Nat) : Int) := by rw [Int.natCast_mul]
  rw [hkli] at hkg
  have ekl : IntKind.i64.wrap ((k : Int) * (t.length : Int)) = ((k * t.length : Nat) : Int) := by rw [hkli]; exact w64_id (by omega) (by omega)
  have ekg : IntKind.i64.wrap ((k : Int) * G t c t.length) = (k : Int) * G t c t.length := w64_id (by omega) (by omega)
  have hmul := G_mul t c r k
  simp only [er, ek, ekl, ekg]
  generalize k * t.length = q at hkl hkg hmul ⊢
  generalize (k : Int) * G t c t.length = kg at hkg hkg0 hmul ⊢
  have erq : IntKind.i64.wrap ((r : Int) + (q : Int)) = ((r + q : Nat) : Int) := by rw [w64_id (by omega) (by omega)]; omega
  have erl : IntKind.i64.wrap ((r : Int) + (t.length : Int)) = ((r + t.length : Nat) : Int) := by rw [w64_id (by omega) (by omega)]; omega
  obtain ⟨m, hm⟩ : ∃ m : Nat, m = 1000 := ⟨_, rfl⟩
  have er1 : IntKind.i64.wrap ((r : Int) + 1000) = ((r + m : Nat) : Int) := by rw [w64_id (by omega) (by omega)]; omega
  rw [erq, erl, er1, next_f K hL (by omega) hK c r (by omega)]
  simp only []
  by_cases h0 : G t c t.length = 0
  · rw [if_pos h0]
    have hn := G_none hL h0
    have h1 : nx t c t.length r = -1 := by
      rcases nx_spec t c t.length r with ⟨h, _⟩ | ⟨i, _, _, h, _⟩
      · exact h
      · exact absurd h (hn _)
    rw [h1, if_pos (show (-1 : Int) = -1 from rfl)]
    rw [slots_f K hL (by omega) hK c r (r + m) (by omega) (by omega), if_neg (by omega), G_win t c r m (fun i _ => hn _)]
    simp
  · rw [if_neg h0]
    rcases nx_spec t c t.length r with ⟨_, hno⟩ | ⟨i, hi, hnx, hh, hlt⟩
    · exfalso
      have := G_win t c r t.length hno
      have h2 := G_per t c r
      omega
    · rw [hnx, if_pos (by omega), if_pos (by omega), at_f K hL (r + i), slots_f K hL (by omega) hK c r (r + i) (by omega) (by omega), slots_f K hL (by omega) hK c r (r + q) (by omega) (by omega)]
      simp only []
      rw [if_pos hh, G_win t c r i hlt]
      have e1 : (if r + i ≤ r then (0 : Int) else G t c r - G t c r) = 0 := by split <;> omega
      rw [e1, if_pos rfl]
      refine congrArg some (decide_eq_true ?_)
      by_cases hq : r + q ≤ r
      · rw [if_pos hq]; omega
      · rw [if_neg hq]; omega

end Go.Proofs.Ytjfnejcanlkknaa.Pure
