import Derived.Test.YtlcnkngpankkpaaG5
import Derived.Test.YtlcnkngpankkpaaPureTaskJumps
/- What is under what an instruction takes stays as it is. No condition. -/
set_option linter.unusedVariables false
set_option linter.unusedSimpArgs false
namespace Go.Proofs.Ytlcnkngpankkpaa.Pure
open Go Go.Fw Go.RowKit Go.Proofs.Ytlcnkngpankkpaa.G Go.Proofs.Ytlcnkngpankkpaa.Task

theorem same_l0 (K : Nat) (a : List Int) (ha : a.length ≤ 1000000) : ∀ (d n i : Nat), i + d = a.length → d < n → confidantref9_SameInts.l0 K a a n (i : Int) = some true := by
  intro d
  induction d with
  | zero =>
    intro n i hi hn
    obtain ⟨n, rfl⟩ : ∃ m, n = m + 1 := ⟨n - 1, by omega⟩
    rw [confidantref9_SameInts.l0.eq_2, if_neg (by omega)]
  | succ d ih =>
    intro n i hi hn
    obtain ⟨n, rfl⟩ : ∃ m, n = m + 1 := ⟨n - 1, by omega⟩
    rw [confidantref9_SameInts.l0.eq_2, if_pos (by omega), if_pos (by omega), if_pos (by omega), if_pos rfl, w64_id (by omega) (by omega)]
    have := ih n (i + 1) (by omega) (by omega)
    rwa [Int.natCast_add] at this
theorem same_eq (K : Nat) (a b : List Int) (h : a = b) (ha : a.length ≤ 1000000) (hK : a.length < K) : confidantref9_SameInts.f K a b = some true := by
  subst h
  unfold confidantref9_SameInts.f
  rw [if_pos rfl]
  exact same_l0 K a ha a.length K 0 (by omega) hK

theorem ts_l0 (K : Nat) (l : List Int) (u : S58) (g : Option Bool) (tl : List Int) (hu : u.f3 = l ++ tl) (hl : l.length ≤ 1000) : ∀ (d n i : Nat), i + d = l.length → d < n → confidantlaw10_TaskStacks.l0 K l u g n (i : Int) = g := by
  intro d
  induction d with
  | zero =>
    intro n i hi hn
    obtain ⟨n, rfl⟩ : ∃ m, n = m + 1 := ⟨n - 1, by omega⟩
    rw [confidantlaw10_TaskStacks.l0.eq_2, if_neg (by omega)]
  | succ d ih =>
    intro n i hi hn
    obtain ⟨n, rfl⟩ : ∃ m, n = m + 1 := ⟨n - 1, by omega⟩
    rw [confidantlaw10_TaskStacks.l0.eq_2, if_pos (by omega), if_pos (by omega), if_pos (by rw [hu, List.length_append]; omega), if_pos ?_, w64_id (by omega) (by omega)]
    · have := ih n (i + 1) (by omega) (by omega)
      rwa [Int.natCast_add] at this
    · rw [hu, Int.toNat_natCast]
      simp only [List.getD_eq_getElem?_getD]
      rw [List.getElem?_append_left (by omega)]

theorem ts_step (l : List Int) (a b : Int) (hl : l.length ≤ 20) (o : Int) (h1 : 1 ≤ o ∧ o ≤ 26) (hp : popsP o ≤ 2) :
    stepP ⟨0, 0, 0, l ++ [a, b], ⟨0, 0, 0, 0⟩, 3, 0, 0, 0⟩ [[⟨o, 0⟩]] = doP ⟨0, 0, 0, l ++ [a, b], ⟨0, 0, 0, 0⟩, 3, 0, 0, 0⟩ o 0 := by
  have hat : atP ⟨0, 0, 0, l ++ [a, b], ⟨0, 0, 0, 0⟩, 3, 0, 0, 0⟩ [[⟨o, 0⟩]] = some ⟨o, 0⟩ := by
    unfold atP
    rw [if_pos (by simp)]
    rfl
  have hm : mayP ⟨0, 0, 0, l ++ [a, b], ⟨0, 0, 0, 0⟩, 3, 0, 0, 0⟩ ⟨o, 0⟩ = true := by
    unfold mayP
    simp [h1, hp]; omega
  unfold stepP
  rw [hat]
  simp only [hm, if_true]

theorem ts_top (l : List Int) (a b f5 : Int) : topP ⟨0, 0, 0, l ++ [a, b], ⟨0, 0, 0, 0⟩, f5, 0, 0, 0⟩ 0 = b ∧ topP ⟨0, 0, 0, l ++ [a, b], ⟨0, 0, 0, 0⟩, f5, 0, 0, 0⟩ 1 = a := by
  constructor
  · unfold topP
    simp only [List.length_append, List.length_cons, List.length_nil]
    rw [show l.length + (0 + 1 + 1) - 1 - 0 = l.length + 1 from by omega]
    simp [List.getD_eq_getElem?_getD, List.getElem?_append_right]
  · unfold topP
    simp only [List.length_append, List.length_cons, List.length_nil]
    rw [show l.length + (0 + 1 + 1) - 1 - 1 = l.length from by omega]
    simp [List.getD_eq_getElem?_getD, List.getElem?_append_right]
theorem ts_drop (l : List Int) (a b : Int) (k : Nat) (hk : k ≤ 2) (xs : List Int) (hl : l.length ≤ 20) :
    dropP ⟨0, 0, 0, l ++ [a, b], ⟨0, 0, 0, 0⟩, 3, 0, 0, 0⟩ (k : Int) xs = ⟨0, 0, 1, l ++ ([a, b].take (2 - k) ++ xs), ⟨0, 0, 0, 0⟩, 3, 0, 0, 0⟩ := by
  unfold dropP
  have e : ((((l ++ [a, b]).length : Nat) : Int) - mn (mx (k : Int) 0) (((l ++ [a, b]).length : Nat) : Int)).toNat = l.length + (2 - k) := by
    simp only [List.length_append, List.length_cons, List.length_nil]
    unfold mn mx; split <;> split <;> omega
  simp only [e]
  rw [List.take_length_add_append, List.append_assoc]
  rfl

/-- what is left on top -/
def wantP (a b : Int) : Nat → List Int
  | 0 => [IntKind.i32.wrap (a + b)] | 1 => [IntKind.i32.wrap (a - b)] | 2 => [IntKind.i32.wrap (a * b)] | 3 => [if a < b then 1 else 0] | 4 => [if a = b then 1 else 0]
  | 5 => [a] | 6 => [a, b, b] | 7 => [a] | 8 => [a, b, 0] | _ => [a, b, 3]
def opP : Nat → Int
  | 0 => 4 | 1 => 5 | 2 => 6 | 3 => 8 | 4 => 9 | 5 => 2 | 6 => 3 | 7 => 13 | 8 => 1 | _ => 14
theorem ts_do (l : List Int) (a b : Int) (hl : l.length ≤ 20) (k : Nat) (hk : k < 10) :
    ∃ v, doP ⟨0, 0, 0, l ++ [a, b], ⟨0, 0, 0, 0⟩, 3, 0, 0, 0⟩ (opP k) 0 = (went, ⟨0, 0, 1, l ++ wantP a b k, v, 3, 0, 0, 0⟩) := by
  obtain ⟨T0, T1⟩ := ts_top l a b 3
  have D0 := ts_drop l a b 0 (by omega)
  have D1 := ts_drop l a b 1 (by omega)
  have D2 := ts_drop l a b 2 (by omega)
  simp only [Int.natCast_zero] at D0
  rw [show ((1 : Nat) : Int) = 1 from rfl] at D1
  rw [show ((2 : Nat) : Int) = 2 from rfl] at D2
  have w3 : IntKind.i32.wrap 3 = 3 := by decide
  rcases (by omega : k = 0 ∨ k = 1 ∨ k = 2 ∨ k = 3 ∨ k = 4 ∨ k = 5 ∨ k = 6 ∨ k = 7 ∨ k = 8 ∨ k = 9) with rfl | rfl | rfl | rfl | rfl | rfl | rfl | rfl | rfl | rfl <;>
    simp only [opP, wantP, doP, T0, T1] <;> simp only [D0 _ hl, D1 _ hl, D2 _ hl, w3] <;> exact ⟨_, rfl⟩

theorem ts_ops : ([4, 5, 6, 8, 9, 2, 3, 13, 1, 14] : List Int) = (List.range 10).map opP := by decide +kernel

theorem truth_eq (K : Nat) (p : Prop) [Decidable p] : confidantref9_Truth.f K (decide p) = some (if p then 1 else 0) := by
  unfold confidantref9_Truth.f
  by_cases h : p
  · rw [if_pos (by simpa using h), if_pos h]
  · rw [if_neg (by simpa using h), if_neg h]

theorem TaskStacks : confidantlaw10_TaskStacks.Pure := by
  intro l a b n hl _ ha hb hn
  obtain ⟨K, hK, hk⟩ : ∃ K, 40 ≤ K ∧ confidantlaw10_known.f K = some true := ⟨40, Nat.le_refl _, by kernel_rfl⟩
  refine ⟨K, ?_⟩
  have un := is_u8 hn
  unfold confidantlaw10_TaskStacks.f
  rw [hk, b1_some, if_pos rfl]
  by_cases h20 : (l.length : Int) > 20
  · rw [if_pos h20]
  rw [if_neg h20]
  have hl20 : l.length ≤ 20 := by omega
  have hmod : 0 ≤ Int.tmod n 10 ∧ Int.tmod n 10 < 10 := by rw [Int.tmod_eq_emod_of_nonneg un.1]; omega
  obtain ⟨k, hk2⟩ : ∃ k : Nat, Int.tmod n 10 = (k : Int) := ⟨(Int.tmod n 10).toNat, by omega⟩
  have hk10 : k < 10 := by omega
  have hop : ([4, 5, 6, 8, 9, 2, 3, 13, 1, 14] : List Int).getD k 0 = opP k := by
    rw [ts_ops]
    simp [List.getD_eq_getElem?_getD, hk10]
  have hok : 1 ≤ opP k ∧ opP k ≤ 26 ∧ popsP (opP k) ≤ 2 := by
    rcases (by omega : k = 0 ∨ k = 1 ∨ k = 2 ∨ k = 3 ∨ k = 4 ∨ k = 5 ∨ k = 6 ∨ k = 7 ∨ k = 8 ∨ k = 9) with rfl | rfl | rfl | rfl | rfl | rfl | rfl | rfl | rfl | rfl <;> refine ⟨by decide, by decide, ?_⟩ <;> decide +kernel
  obtain ⟨v, hdo⟩ := ts_do l a b hl20 k hk10
  have hwant : ([[IntKind.i32.wrap (a + b)], [IntKind.i32.wrap (a - b)], [IntKind.i32.wrap (a * b)], [if a < b then 1 else 0], [if a = b then 1 else 0], [a], [a, b, b], [a], [a, b, 0], [a, b, 3]] : List (List Int)).getD k [] = wantP a b k := by
    rcases (by omega : k = 0 ∨ k = 1 ∨ k = 2 ∨ k = 3 ∨ k = 4 ∨ k = 5 ∨ k = 6 ∨ k = 7 ∨ k = 8 ∨ k = 9) with rfl | rfl | rfl | rfl | rfl | rfl | rfl | rfl | rfl | rfl <;> rfl
  have hlen : (wantP a b k).length ≤ 3 := by
    rcases (by omega : k = 0 ∨ k = 1 ∨ k = 2 ∨ k = 3 ∨ k = 4 ∨ k = 5 ∨ k = 6 ∨ k = 7 ∨ k = 8 ∨ k = 9) with rfl | rfl | rfl | rfl | rfl | rfl | rfl | rfl | rfl | rfl <;> simp [wantP]
  simp only [lt, hk2, Int.toNat_natCast, hop, List.nil_append]
  rw [if_pos (by omega), if_pos (by show (k : Int) < 10; omega), if_pos (by simp; omega), if_pos (by simp; omega), step_eq K _ _ (by simp; omega)]
  have est := ts_step l a b hl20 (opP k) ⟨hok.1, hok.2.1⟩ hok.2.2
  simp only [zS58, zS55] at *
  rw [est, hdo]
  simp only [b2, went, if_true]
  rw [if_neg (by simp; omega)]
  have L := ts_l0 K l ⟨0, 0, 1, l ++ wantP a b k, v, 3, 0, 0, 0⟩
  have L2 := fun g => L g (wantP a b k) rfl (by omega) l.length K 0 (by omega) (by omega)
  simp only [Int.natCast_zero] at L2
  rw [L2]
  simp only [truth_eq, b1_some, hwant]
  rw [if_pos (by show (k : Int) < 10; omega), if_pos (by omega), if_pos (by simp; omega), List.drop_left, same_eq K _ _ rfl (by omega) (by omega)]
  simp only [b1_some, if_true]
  rw [w64_id (by omega) (by omega)]
  simp
end Go.Proofs.Ytlcnkngpankkpaa.Pure
