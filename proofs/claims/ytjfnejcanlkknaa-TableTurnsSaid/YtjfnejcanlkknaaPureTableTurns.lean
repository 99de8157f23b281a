import Derived.Test.YtjfnejcanlkknaaTable
/- A table goes round. No condition. -/
set_option linter.unusedVariables false
set_option linter.unusedSimpArgs false
namespace Go.Proofs.Ytjfnejcanlkknaa.Pure
open Go Go.Fw Go.RowKit Go.Proofs.Ytjfnejcanlkknaa.G

theorem tt_make (K : Nat) (l : List Int) (hl : ∀ x ∈ l, (Lit.int .u8 x).wf = true) (hlen : l.length ≤ 100) (j : List Int → Option Bool) : ∀ (d n i : Nat), i + d = l.length → d < n →
    confidantlaw18_TableTurns.l0 K l j n (mk 4 (l.take i)) (i : Int) = j (mk 4 l)
  | 0, n, i, hd, hn => by
    obtain ⟨n, rfl⟩ : ∃ k, n = k + 1 := ⟨n - 1, by omega⟩
    rw [confidantlaw18_TableTurns.l0.eq_2, if_neg (by omega), List.take_of_length_le (by omega)]
  | d + 1, n, i, hd, hn => by
    obtain ⟨n, rfl⟩ : ∃ k, n = k + 1 := ⟨n - 1, by omega⟩
    rw [confidantlaw18_TableTurns.l0.eq_2, if_pos (by omega), if_pos (by omega)]
    simp only [lt]
    have e4 : IntKind.i64.wrap ((i : Int) + 1) = ((i + 1 : Nat) : Int) := by rw [w64_id (by omega) (by omega)]; omega
    have e5 : (mk 4 (l.take i)).length ≤ 100 := by rw [mk_len]; simp; omega
    rw [if_pos (by simp only [List.length_cons, List.length_nil]; omega), u8_mod hl _ 4 (by omega), e4, Int.toNat_natCast, mk_step i (by omega)]
    exact tt_make K l hl hlen j d n (i + 1) (by omega) (by omega)

theorem tt_sum {t : List Int} (hL : 0 < t.length) (hm : ∀ x ∈ t, 0 ≤ x ∧ x < 4) : ∀ r : Nat, G t 0 r + G t 1 r + G t 2 r + G t 3 r = r
  | 0 => rfl
  | r + 1 => by
    have ih := tt_sum hL hm r
    have h := hm _ (rd_mem hL r)
    simp only [G]
    have : hit t 0 r + hit t 1 r + hit t 2 r + hit t 3 r = 1 := by
      unfold hit
      generalize rd t r = x at h ⊢
      obtain ⟨h1, h2⟩ := h
      have : x = 0 ∨ x = 1 ∨ x = 2 ∨ x = 3 := by omega
      rcases this with rfl | rfl | rfl | rfl <;> simp
    omega

theorem TableTurns : confidantlaw18_TableTurns.Pure := by
  intro l r0 k0 _ hl hr0 hk0
  have ur := is_u16 hr0
  have uk := is_u8 hk0
  obtain ⟨K, hK, hknown⟩ := fuel
  refine ⟨K, ?_⟩
  unfold confidantlaw18_TableTurns.f
  simp only [hknown, b1, if_true, lt]
  by_cases h : (l.length : Int) > 64
  · rw [if_pos h]
  rw [if_neg h]
  by_cases h2 : (l.length : Int) = 0
  · rw [decide_eq_true h2]; rfl
  rw [decide_eq_false h2]
  obtain ⟨r, hr⟩ : ∃ r : Nat, r0 = (r : Int) := ⟨r0.toNat, by omega⟩
  obtain ⟨k, hk⟩ : ∃ k : Nat, k0 = (k : Int) := ⟨k0.toNat, by omega⟩
  subst hr hk
  simp only [Bool.false_eq_true, if_false]
  refine Eq.trans (tt_make K l hl (by omega) _ l.length K 0 (by omega) (by omega)) ?_
  have hL : 0 < (mk 4 l).length := by rw [mk_len]; omega
  have hL2 : (mk 4 l).length ≤ 64 := by rw [mk_len]; omega
  have hmem : ∀ x ∈ mk 4 l, 0 ≤ x ∧ x < 4 := fun x hx => mk_mem (by omega) hx
  generalize mk 4 l = t at hL hL2 hmem ⊢
  have er : IntKind.i64.wrap (r : Int) = (r : Int) := w64_id (by omega) (by omega)
  have ek : IntKind.i64.wrap (k : Int) = (k : Int) := w64_id (by omega) (by omega)
  have erk : IntKind.i64.wrap ((r : Int) + (k : Int)) = ((r + k : Nat) : Int) := by rw [w64_id (by omega) (by omega)]; omega
  have hkl : k * t.length ≤ 255 * 64 := Nat.mul_le_mul (by omega) hL2
  have ekl : IntKind.i64.wrap ((k : Int) * (t.length : Int)) = ((k * t.length : Nat) : Int) := by rw [w64_id (by rw [← Int.natCast_mul]; omega) (by rw [← Int.natCast_mul]; omega), Int.natCast_mul]
  generalize hkq : k * t.length = q at hkl ekl
  have erq : IntKind.i64.wrap ((r : Int) + (q : Int)) = ((r + q : Nat) : Int) := by rw [w64_id (by omega) (by omega)]; omega
  have er1 : IntKind.i64.wrap ((r : Int) + 1) = ((r + 1 : Nat) : Int) := by rw [w64_id (by omega) (by omega)]; omega
  have em : IntKind.i64.wrap (0 - (r : Int)) = -(r : Int) := by rw [w64_id (by omega) (by omega)]; omega
  simp only [er, ek, ekl, erq, er1, em]
  have D : ∀ c : Int, ∃ x : Int, table_Slots.f K t c (r : Int) ((r + k : Nat) : Int) = some x ∧ x = G t c (r + k) - G t c r := by
    intro c
    refine ⟨_, slots_f K hL (by omega) hK c r (r + k) (by omega) (by omega), ?_⟩
    by_cases hk : r + k ≤ r
    · rw [if_pos hk, show r + k = r from by omega]; omega
    · rw [if_neg hk]
  obtain ⟨x0, d0, y0⟩ := D 0
  obtain ⟨x1, d1, y1⟩ := D 1
  obtain ⟨x2, d2, y2⟩ := D 2
  obtain ⟨x3, d3, y3⟩ := D 3
  have s1 := tt_sum hL hmem r
  have s2 := tt_sum hL hmem (r + k)
  have b0 := G_in t 0 r; have b0' := G_in t 0 (r + k)
  have b1_ := G_in t 1 r; have b1' := G_in t 1 (r + k)
  have b2_ := G_in t 2 r; have b2' := G_in t 2 (r + k)
  have b3_ := G_in t 3 r; have b3' := G_in t 3 (r + k)
  have loop : ∀ (j : Int → Option Bool) (n : Nat), 5 ≤ n → confidantlaw18_TableTurns.l1 K t (r : Int) (k : Int) j n 0 0 = j (k : Int) := by
    intro j n hn
    obtain ⟨n, rfl⟩ : ∃ m, n = m + 5 := ⟨n - 5, by omega⟩
    rw [confidantlaw18_TableTurns.l1.eq_2, if_pos (by omega), er, ek, erk, d0]
    simp only [b1]
    rw [show IntKind.i64.wrap (0 + 1) = 1 from rfl, w64_id (x := 0 + x0) (by omega) (by omega)]
    rw [confidantlaw18_TableTurns.l1.eq_2, if_pos (by omega), er, ek, erk, d1]
    simp only [b1]
    rw [show IntKind.i64.wrap (1 + 1) = 2 from rfl, w64_id (x := 0 + x0 + x1) (by omega) (by omega)]
    rw [confidantlaw18_TableTurns.l1.eq_2, if_pos (by omega), er, ek, erk, d2]
    simp only [b1]
    rw [show IntKind.i64.wrap (2 + 1) = 3 from rfl, w64_id (x := 0 + x0 + x1 + x2) (by omega) (by omega)]
    rw [confidantlaw18_TableTurns.l1.eq_2, if_pos (by omega), er, ek, erk, d3]
    simp only [b1]
    rw [show IntKind.i64.wrap (3 + 1) = 4 from rfl, w64_id (x := 0 + x0 + x1 + x2 + x3) (by omega) (by omega)]
    rw [confidantlaw18_TableTurns.l1.eq_2, if_neg (by omega)]
    congr 1
    omega
  rw [loop _ K (by omega), at_f K hL r, at_f K hL (r + q), slots_f K hL (by omega) hK 0 (r + 1) r (by omega) (by omega), at_neg K hL (r := -(r : Int)) (by omega)]
  have hrd : rd t (r + q) = rd t r := by unfold rd; rw [← hkq, Nat.add_mul_mod_self_right]
  have hm := Nat.mod_lt r hL
  rw [hrd, tmod_nat]
  simp only [b1, if_true]
  rw [if_neg (by omega), if_pos (by omega), if_pos (by omega), if_pos (show rd t r = t.getD (((r % t.length : Nat) : Int)).toNat 0 from rfl), if_pos (show r ≤ r + 1 by omega), if_pos rfl, if_pos (show (0 : Int) < (t.length : Int) by omega)]
  simp

end Go.Proofs.Ytjfnejcanlkknaa.Pure
