import Derived.Test.YtifnjijlbcacoaaG0
import Derived.Test.YtifnjijlbcacoaaG2
import Derived.Test.YtifnjijlbcacoaaG3
import Derived.Test.YtifnjijlbcacoaaArena
/- What is set stays, whatever is set beside it, and a label never changes. No condition. -/
set_option linter.unusedVariables false
set_option linter.unusedSimpArgs false
namespace Go.Proofs.Ytifnjijlbcacoaa.Pure
open Go Go.Fw Go.RowKit Go.Proofs.Ytifnjijlbcacoaa.G Go.Proofs.Ytifnjijlbcacoaa.Arena

theorem qs1 (r : List S69) (h : r.length ≤ 30) : Qs [r] [30] := ⟨rfl, by simp, by simp, by simp; omega⟩
theorem make1 (K : Nat) (r : List S69) (lab v : Int) (h : r.length < 30) : arena_Arena_Make.f K [r] [30] 0 lab v = some ([r ++ [⟨lab, v⟩]], (r.length : Int), true) := by
  rw [make_f K _ _ _ _ _ (qs1 r (by omega)), made_room ⟨by omega, by simp, by show (r.length : Int) < 30; omega⟩]
  have : (0 : Int) * 65536 + ((row [r] 0).length : Int) = (r.length : Int) := by show (0 : Int) * 65536 + (r.length : Int) = _; omega
  rw [this]; rfl
theorem there1 (r : List S69) (k : Int) (hk : k < 65536) : There [r] k ↔ 0 ≤ k ∧ k < (r.length : Int) := by
  unfold There
  constructor
  · rintro ⟨h1, h2, h3⟩
    have e1 : k / 65536 = 0 := by omega
    have e2 : k % 65536 = k := by omega
    rw [e1, e2] at h3
    exact ⟨h1, h3⟩
  · rintro ⟨h1, h2⟩
    have e1 : k / 65536 = 0 := by omega
    have e2 : k % 65536 = k := by omega
    rw [e1, e2]
    exact ⟨h1, by simp, h2⟩
theorem at1 (r : List S69) (k : Nat) (hk : k < 65536) : at_ [r] (k : Int) = r.getD k zS69 := by
  unfold at_
  have e1 : (k : Int) / 65536 = 0 := by omega
  have e2 : (k : Int) % 65536 = (k : Int) := by omega
  rw [e1, e2]; rfl
theorem set1 (K : Nat) (r : List S69) (k : Nat) (v : Int) (hk : k < r.length) (hr : r.length ≤ 30) : arena_Arena_Set.f K [r] [30] (k : Int) v = some ([r.set k ⟨(r.getD k zS69).f0, v⟩], true) := by
  rw [set_f K _ _ _ _ (by omega)]
  unfold put
  rw [if_pos ((there1 r k (by omega)).2 (by omega)), at1 r k (by omega)]
  have e1 : (k : Int) / 65536 = 0 := by omega
  have e2 : (k : Int) % 65536 = (k : Int) := by omega
  rw [e1, e2]; rfl
theorem set1no (K : Nat) (r : List S69) (k v : Int) (hk : ¬ (0 ≤ k ∧ k < (r.length : Int))) (h : -2147483648 ≤ k ∧ k < 65536) : arena_Arena_Set.f K [r] [30] k v = some ([r], false) := by
  rw [set_f K _ _ _ _ (by omega)]
  unfold put
  rw [if_neg (fun h' => hk ((there1 r k (by omega)).1 h'))]
theorem get1 (K : Nat) (r : List S69) (k : Nat) (hk : k < r.length) (hr : r.length ≤ 30) : arena_Arena_Get.f K [r] [30] (k : Int) = some ((r.getD k zS69).f0, (r.getD k zS69).f1, true) := by
  rw [get_f K _ _ _ (by omega), if_pos ((there1 r k (by omega)).2 (by omega)), at1 r k (by omega)]

/-- references and the values that they should have -/
structure Fit (r : List S69) (w : List Int) : Prop where
  len : r.length = w.length
  f0 : ∀ k, k < r.length → (r.getD k zS69).f0 = Int.tmod (k : Int) 16
  f1 : ∀ k, k < r.length → (r.getD k zS69).f1 = w.getD k 0

theorem ah_0 (K : Nat) (l : List Int) (hl : l.length ≤ 20) (j : List (List S69) → List Int → Option Bool) (hj : ∀ r w, Fit r w → r.length = l.length → j [r] w = some true) : ∀ (d n i : Nat) (r : List S69) (w : List Int), i + d = l.length → d < n → r.length = i → Fit r w →
    confidantlaw12_ArenaHolds.l0 K l [30] j n [r] w (i : Int) = some true
  | 0, n, i, r, w, hd, hn, hr, h => by
    obtain ⟨n, rfl⟩ : ∃ k, n = k + 1 := ⟨n - 1, by omega⟩
    rw [confidantlaw12_ArenaHolds.l0.eq_2, if_neg (by omega)]
    exact hj r w h (by omega)
  | d + 1, n, i, r, w, hd, hn, hr, h => by
    obtain ⟨n, rfl⟩ : ∃ k, n = k + 1 := ⟨n - 1, by omega⟩
    have hwl := h.len
    rw [confidantlaw12_ArenaHolds.l0.eq_2, if_pos (by omega), if_pos (by omega), make1 K r _ _ (by omega)]
    simp only [b3, lt, if_true]
    rw [w64_id (x := (r.length : Int)) (by omega) (by omega), hr, decide_eq_true rfl]
    simp only [Bool.not_true, Bool.false_eq_true, if_false, List.length_cons, List.length_nil]
    rw [if_pos (by omega), w64_id (by omega) (by omega), show ((i : Int) + 1) = ((i + 1 : Nat) : Int) by omega]
    refine ah_0 K l hl j hj d n (i + 1) _ _ (by omega) (by omega) (by simp [hr]) ⟨by simp [hwl], fun k hk => ?_, fun k hk => ?_⟩
    · simp only [List.length_append, List.length_singleton] at hk
      by_cases he : k = r.length
      · subst he; simp [List.getD, hr]
      · have := h.f0 k (by omega)
        simp only [List.getD] at this ⊢
        rw [List.getElem?_append_left (by omega)]; exact this
    · simp only [List.length_append, List.length_singleton] at hk
      by_cases he : k = r.length
      · subst he
        have hi : i < l.length := by omega
        rw [hwl] at hr
        simp [List.getD, hwl, hr]
      · have := h.f1 k (by omega)
        simp only [List.getD] at this ⊢
        rw [List.getElem?_append_left (by omega), List.getElem?_append_left (by omega)]; exact this

theorem ah_1 (K : Nat) (s l : List Int) (hs : ∀ x ∈ s, (Lit.int .u8 x).wf = true) (hsl : s.length ≤ 40) (hl : 1 ≤ l.length ∧ l.length ≤ 20) (j : List (List S69) → List Int → Option Bool) (hj : ∀ r w, Fit r w → r.length = l.length → j [r] w = some true) : ∀ (d n i : Nat) (r : List S69) (w : List Int), i + d = s.length → d < n → r.length = l.length → Fit r w →
    confidantlaw12_ArenaHolds.l1 K s l [30] j n [r] w (i : Int) = some true
  | 0, n, i, r, w, hd, hn, hr, h => by
    obtain ⟨n, rfl⟩ : ∃ k, n = k + 1 := ⟨n - 1, by omega⟩
    rw [confidantlaw12_ArenaHolds.l1.eq_2, if_neg (by omega)]
    exact hj r w h hr
  | d + 1, n, i, r, w, hd, hn, hr, h => by
    obtain ⟨n, rfl⟩ : ∃ k, n = k + 1 := ⟨n - 1, by omega⟩
    have hwl := h.len
    have hi : i < s.length := by omega
    have e : s.getD (i : Int).toNat 0 = s[i] := by simp [List.getD, hi]
    have hu := is_u8 (hs _ (List.getElem_mem hi))
    obtain ⟨k, hk, hk2⟩ : ∃ k : Nat, Int.tmod (IntKind.i64.wrap s[i]) (l.length : Int) = (k : Int) ∧ k < l.length := by
      rw [w64_id (by omega) (by omega), Int.tmod_eq_emod_of_nonneg (by omega)]
      have h1 := Int.emod_nonneg s[i] (show (l.length : Int) ≠ 0 by omega)
      have h2 := Int.emod_lt_of_pos s[i] (show 0 < (l.length : Int) by omega)
      exact ⟨(s[i] % (l.length : Int)).toNat, by omega, by omega⟩
    rw [confidantlaw12_ArenaHolds.l1.eq_2, if_pos (by omega), if_pos (by omega), if_neg (by omega), e, hk, if_pos (by omega), if_pos (by omega)]
    simp only [lt]
    rw [w32_id (x := (k : Int)) (by omega) (by omega), set1 K r k _ (by omega) (by omega)]
    simp only [b2, if_true, Int.toNat_natCast]
    rw [w64_id (by omega) (by omega), show ((i : Int) + 1) = ((i + 1 : Nat) : Int) by omega]
    refine ah_1 K s l hs hsl hl j hj d n (i + 1) _ _ (by omega) (by omega) (by simpa using hr) ⟨by simpa using hwl, fun m hm => ?_, fun m hm => ?_⟩
    · rw [List.length_set] at hm
      have := h.f0 m hm
      by_cases he : k = m
      · subst he
        have hk3 : k < r.length := hm
        simp only [List.getD, List.getElem?_set, if_pos, hk3] at this ⊢
        simpa using this
      · simp only [List.getD, List.getElem?_set, if_neg he] at this ⊢
        exact this
    · rw [List.length_set] at hm
      have := h.f1 m hm
      by_cases he : k = m
      · subst he
        have hk3 : k < r.length := hm
        have hk4 : k < w.length := by omega
        simp [List.getD, List.getElem?_set, hk3, hk4]
      · simp only [List.getD, List.getElem?_set, if_neg he] at this ⊢
        exact this

theorem ah_2 (K : Nat) (l : List Int) (r : List S69) (w : List Int) (h : Fit r w) (hr : r.length = l.length) (hl : l.length ≤ 20) (j : Option Bool) : ∀ (d n i : Nat), i + d = l.length → d < n → confidantlaw12_ArenaHolds.l2 K l [r] [30] w j n (i : Int) = j
  | 0, n, i, hd, hn => by
    obtain ⟨n, rfl⟩ : ∃ k, n = k + 1 := ⟨n - 1, by omega⟩
    rw [confidantlaw12_ArenaHolds.l2.eq_2, if_neg (by omega)]
  | d + 1, n, i, hd, hn => by
    obtain ⟨n, rfl⟩ : ∃ k, n = k + 1 := ⟨n - 1, by omega⟩
    have hwl := h.len
    rw [confidantlaw12_ArenaHolds.l2.eq_2, if_pos (by omega), w32_id (x := (i : Int)) (by omega) (by omega), get1 K r i (by omega) (by omega)]
    simp only [b3, lt, if_true]
    rw [if_pos (by omega), if_pos (by omega), h.f0 i (by omega), h.f1 i (by omega), Int.toNat_natCast, if_pos rfl, decide_eq_true rfl]
    simp only [Bool.not_true, Bool.false_eq_true, if_false]
    rw [w64_id (by omega) (by omega), show ((i : Int) + 1) = ((i + 1 : Nat) : Int) by omega]
    exact ah_2 K l r w h hr hl j d n (i + 1) (by omega) (by omega)

theorem ArenaHolds : confidantlaw12_ArenaHolds.Pure := by
  intro l s _ hl _ hs
  obtain ⟨K, hK, hkn⟩ := known_f
  refine ⟨K, ?_⟩
  unfold confidantlaw12_ArenaHolds.f
  simp only [hkn, b1, if_true, lt]
  by_cases h1 : (l.length : Int) > 20
  · rw [if_pos h1]
  rw [if_neg h1]
  by_cases h2 : (l.length : Int) = 0
  · rw [if_pos h2]
  rw [if_neg h2]
  by_cases h3 : (s.length : Int) > 40
  · rw [if_pos (decide_eq_true h3)]
  rw [if_neg (by simpa using h3), new_f K [30] (by simp) (by omega)]
  have e1 : (List.replicate (([30] : List Int).take 16).length ([] : List S69)) = [[]] := rfl
  have e2 : (([30] : List Int).take 16).map clamp = [30] := by decide
  rw [e1, e2]
  simp only [b2]
  refine ah_0 K l (by omega) _ (fun r w h hr => ?_) l.length K 0 [] [] (by omega) (by omega) rfl ⟨rfl, by simp, by simp⟩
  refine ah_1 K s l hs (by omega) (by omega) _ (fun r w h hr => ?_) s.length K 0 r w (by omega) (by omega) hr h
  refine Eq.trans (ah_2 K l r w h hr (by omega) _ l.length K 0 (by omega) (by omega)) ?_
  rw [w32_id (x := (l.length : Int)) (by omega) (by omega), set1no K r _ _ (by omega) (by omega)]
  simp only [Bool.false_eq_true, if_false]
  rw [set1no K r _ _ (by omega) (by omega)]
  simp only [Bool.false_eq_true, if_false]
  rw [count_f]
  have : count [r] 0 = (r.length : Int) := rfl
  rw [this, hr]
  simp
end Go.Proofs.Ytifnjijlbcacoaa.Pure
