import Derived.Test.YtjfnejcanlkknaaTable
/- The next round is the first one that is whose it is. No condition. -/
set_option linter.unusedVariables false
set_option linter.unusedSimpArgs false
namespace Go.Proofs.Ytjfnejcanlkknaa.Pure
open Go Go.Fw Go.RowKit Go.Proofs.Ytjfnejcanlkknaa.G

theorem tn_make (K : Nat) (l : List Int) (hl : ∀ x ∈ l, (Lit.int .u8 x).wf = true) (hlen : l.length ≤ 100) (j : List Int → Option Bool) : ∀ (d n i : Nat), i + d = l.length → d < n →
    confidantlaw18_TableNext.l0 K l j n (mk 3 (l.take i)) (i : Int) = j (mk 3 l)
  | 0, n, i, hd, hn => by
    obtain ⟨n, rfl⟩ : ∃ k, n = k + 1 := ⟨n - 1, by omega⟩
    rw [confidantlaw18_TableNext.l0.eq_2, if_neg (by omega), List.take_of_length_le (by omega)]
  | d + 1, n, i, hd, hn => by
    obtain ⟨n, rfl⟩ : ∃ k, n = k + 1 := ⟨n - 1, by omega⟩
    rw [confidantlaw18_TableNext.l0.eq_2, if_pos (by omega), if_pos (by omega)]
    simp only [lt]
    have e4 : IntKind.i64.wrap ((i : Int) + 1) = ((i + 1 : Nat) : Int) := by rw [w64_id (by omega) (by omega)]; omega
    have e5 : (mk 3 (l.take i)).length ≤ 100 := by rw [mk_len]; simp; omega
    rw [if_pos (by simp only [List.length_cons, List.length_nil]; omega), u8_mod hl _ 3 (by omega), e4, Int.toNat_natCast, mk_step i (by omega)]
    exact tn_make K l hl hlen j d n (i + 1) (by omega) (by omega)

theorem tn_back (K : Nat) {t : List Int} (hL : 0 < t.length) (hL2 : t.length ≤ 100) (a c0 c : Int) (hc : IntKind.i64.wrap (Int.tmod c0 3) = c) (r : Nat) (hr : r < 1000000) (ha : IntKind.i64.wrap a = (r : Int)) (j : Int → Option Bool) : ∀ (d n e : Nat), d + e = t.length → d < n →
    confidantlaw18_TableNext.l1 K a t c0 j n (nx t c e (r + d)) ((r : Int) + (d : Int) - 1) = j (nx t c t.length r)
  | 0, n, e, hd, hn => by
    obtain ⟨n, rfl⟩ : ∃ k, n = k + 1 := ⟨n - 1, by omega⟩
    rw [confidantlaw18_TableNext.l1.eq_2, ha, if_neg (by omega), show e = t.length from by omega]
    rfl
  | d + 1, n, e, hd, hn => by
    obtain ⟨n, rfl⟩ : ∃ k, n = k + 1 := ⟨n - 1, by omega⟩
    have ih := tn_back K hL hL2 a c0 c hc r hr ha j d n (e + 1) (by omega) (by omega)
    rw [confidantlaw18_TableNext.l1.eq_2, ha, if_pos (by omega)]
    simp only [lt]
    have e1 : (r : Int) + ((d + 1 : Nat) : Int) - 1 = ((r + d : Nat) : Int) := by omega
    have e2 : IntKind.i64.wrap (((r + d : Nat) : Int) - 1) = (r : Int) + (d : Int) - 1 := by rw [w64_id (by omega) (by omega)]; omega
    rw [e1, at_f K hL, hc, e2]
    simp only [b1]
    have e3 : nx t c (e + 1) (r + d) = if rd t (r + d) = c then ((r + d : Nat) : Int) else nx t c e (r + d + 1) := rfl
    rw [e3] at ih
    by_cases h : rd t (r + d) = c
    · rw [if_pos h]; rw [if_pos h] at ih; exact ih
    · rw [if_neg h]; rw [if_neg h] at ih; exact ih

theorem TableNext : confidantlaw18_TableNext.Pure := by
  intro l a r0 _ hl ha hr0
  have ua := is_u8 ha
  have ur := is_u16 hr0
  obtain ⟨K, hK, hknown⟩ := fuel
  refine ⟨K, ?_⟩
  unfold confidantlaw18_TableNext.f
  simp only [hknown, b1, if_true, lt]
  by_cases h : (l.length : Int) > 40
  · rw [if_pos h]
  rw [if_neg h]
  by_cases h2 : (l.length : Int) = 0
  · rw [decide_eq_true h2]; rfl
  rw [decide_eq_false h2]
  obtain ⟨r, hr⟩ : ∃ r : Nat, r0 = (r : Int) := ⟨r0.toNat, by omega⟩
  subst hr
  have hmk := tn_make K l hl (by omega) (j := ?j) l.length K 0 (by omega) (by omega)
  case j => exact fun x1259 => confidantlaw18_TableNext.l1 K (r : Int) x1259 a (fun x1511 => b1 (table_Next.f K x1259 (IntKind.i64.wrap (Int.tmod a 3)) (IntKind.i64.wrap (r : Int))) fun t1582 => if t1582 = x1511 then (b1 (table_Next.f K x1259 3 (IntKind.i64.wrap (r : Int))) fun t1585 => if t1585 = -1 then (if x1511 < 0 then some true else (b1 (table_Next.f K x1259 (IntKind.i64.wrap (Int.tmod a 3)) x1511) fun t1589 => if t1589 = x1511 then (b1 (table_Slots.f K x1259 (IntKind.i64.wrap (Int.tmod a 3)) x1511 (IntKind.i64.wrap (x1511 + 1))) fun t1592 => some (decide (t1592 = 1))) else some false)) else some false) else some false) K (-1) (IntKind.i64.wrap ((IntKind.i64.wrap ((IntKind.i64.wrap (r : Int)) + (x1259.length : Int))) - 1))
  refine Eq.trans hmk ?_
  have hL : 0 < (mk 3 l).length := by rw [mk_len]; omega
  have hL2 : (mk 3 l).length ≤ 40 := by rw [mk_len]; omega
  have hmem : ∀ x ∈ mk 3 l, 0 ≤ x ∧ x < 3 := fun x hx => mk_mem (by omega) hx
  generalize mk 3 l = t at hL hL2 hmem ⊢
  have er : IntKind.i64.wrap (r : Int) = (r : Int) := w64_id (by omega) (by omega)
  have ec : IntKind.i64.wrap (Int.tmod a 3) = a % 3 := by rw [Int.tmod_eq_emod_of_nonneg (by omega)]; exact w64_id (by omega) (by omega)
  have e1 : IntKind.i64.wrap ((IntKind.i64.wrap ((r : Int) + (t.length : Int))) - 1) = (r : Int) + (t.length : Int) - 1 := by
    rw [w64_id (x := (r : Int) + (t.length : Int)) (by omega) (by omega), w64_id (by omega) (by omega)]
  simp only [er, ec, e1]
  refine Eq.trans (tn_back K hL (by omega) (r : Int) a (a % 3) ec r (by omega) er _ t.length K 0 (by omega) (by omega)) ?_
  rw [next_f K hL (by omega) (by omega) (a % 3) r (by omega), next_f K hL (by omega) (by omega) 3 r (by omega)]
  simp only [b1, if_true]
  have h3 : nx t 3 t.length r = -1 := by
    rcases nx_spec t 3 t.length r with ⟨h, _⟩ | ⟨i, _, _, h, _⟩
    · exact h
    · have := hmem _ (rd_mem hL (r + i)); omega
  rw [h3, if_pos rfl]
  rcases nx_spec t (a % 3) t.length r with ⟨h, _⟩ | ⟨i, hi, h, hh, _⟩
  · rw [h]; rfl
  · rw [h, if_neg (by omega), next_f K hL (by omega) (by omega) (a % 3) (r + i) (by omega)]
    have e2 : nx t (a % 3) t.length (r + i) = ((r + i : Nat) : Int) := by
      obtain ⟨d, hd⟩ : ∃ d, t.length = d + 1 := ⟨t.length - 1, by omega⟩
      rw [hd]; simp only [nx]; rw [if_pos hh]
    have e3 : IntKind.i64.wrap (((r + i : Nat) : Int) + 1) = ((r + i + 1 : Nat) : Int) := by rw [w64_id (by omega) (by omega)]; omega
    rw [e2, e3]
    simp only [if_true]
    rw [slots_f K hL (by omega) (by omega) (a % 3) (r + i) (r + i + 1) (by omega) (by omega), if_neg (by omega)]
    have e4 : G t (a % 3) (r + i + 1) - G t (a % 3) (r + i) = 1 := by
      show G t (a % 3) (r + i) + hit t (a % 3) (r + i) - G t (a % 3) (r + i) = 1
      unfold hit; rw [if_pos hh]; omega
    rw [e4]
    rfl

end Go.Proofs.Ytjfnejcanlkknaa.Pure
