import Derived.Test.YtlcnkngpankkpaaG10
import Derived.Test.YtlcnkngpankkpaaRefStep
import Derived.Test.YtlcnkngpankkpaaSeat
/- What each task does by itself, step by step. No condition. -/
set_option linter.unusedVariables false
set_option linter.unusedSimpArgs false
namespace Go.Proofs.Ytlcnkngpankkpaa.Pure
open Go Go.Fw Go.RowKit Go.Proofs.Ytlcnkngpankkpaa.G Go.Proofs.Ytlcnkngpankkpaa.Task Go.Proofs.Ytlcnkngpankkpaa.Seat

/-! ### lists held against one another -/
theorem eq_l0 (K : Nat) (a b : List Int) (hl : a.length = b.length) (ha : a.length ≤ 1000000) : ∀ (d n i : Nat), i + d = a.length → d < n →
    slices_Equal_int32_int32.l0 K a b n (i : Int) = some (decide (a.drop i = b.drop i)) ∧ confidantref9_SameInts_56.l0 K a b n (i : Int) = some (decide (a.drop i = b.drop i)) := by
  intro d
  induction d with
  | zero =>
    intro n i hi hn
    obtain ⟨n, rfl⟩ : ∃ m, n = m + 1 := ⟨n - 1, by omega⟩
    rw [slices_Equal_int32_int32.l0.eq_2, confidantref9_SameInts_56.l0.eq_2, if_neg (by omega), if_neg (by omega), List.drop_of_length_le (by omega), List.drop_of_length_le (by omega)]
    simp
  | succ d ih =>
    intro n i hi hn
    obtain ⟨n, rfl⟩ : ∃ m, n = m + 1 := ⟨n - 1, by omega⟩
    have e := ih n (i + 1) (by omega) (by omega)
    rw [Int.natCast_add] at e
    have ga : a.drop i = a.getD i 0 :: a.drop (i + 1) := by
      rw [List.drop_eq_getElem_cons (by omega), List.getD_eq_getElem?_getD, List.getElem?_eq_getElem (by omega)]; rfl
    have gb : b.drop i = b.getD i 0 :: b.drop (i + 1) := by
      rw [List.drop_eq_getElem_cons (by omega), List.getD_eq_getElem?_getD, List.getElem?_eq_getElem (by omega)]; rfl
    have w1 : IntKind.i64.wrap ((i : Int) + 1) = (i : Int) + 1 := w64_id (by omega) (by omega)
    have hd : (a.drop i = b.drop i) ↔ (a.getD i 0 = b.getD i 0 ∧ a.drop (i + 1) = b.drop (i + 1)) := by rw [ga, gb]; exact List.cons_eq_cons
    constructor
    · rw [slices_Equal_int32_int32.l0.eq_2, if_pos (by omega), if_pos (by omega), if_pos (by omega), w1, Int.toNat_natCast]
      by_cases q : a.getD i 0 = b.getD i 0
      · rw [if_pos q]; refine e.1.trans ?_; congr 1; rw [decide_eq_decide, hd]; exact ⟨fun h => ⟨q, h⟩, fun h => h.2⟩
      · rw [if_neg q, decide_eq_false (fun h => q (hd.1 h).1)]
    · rw [confidantref9_SameInts_56.l0.eq_2, if_pos (by omega), if_pos (by omega), if_pos (by omega), w1, Int.toNat_natCast]
      by_cases q : a.getD i 0 = b.getD i 0
      · rw [if_pos q]; refine e.2.trans ?_; congr 1; rw [decide_eq_decide, hd]; exact ⟨fun h => ⟨q, h⟩, fun h => h.2⟩
      · rw [if_neg q, decide_eq_false (fun h => q (hd.1 h).1)]
theorem equal_eq (K : Nat) (a b : List Int) (ha : a.length ≤ 1000000) (hK : a.length < K) : slices_Equal_int32_int32.f K a b = some (decide (a = b)) ∧ confidantref9_SameInts_56.f K a b = some (decide (a = b)) := by
  unfold slices_Equal_int32_int32.f confidantref9_SameInts_56.f
  by_cases h : a.length = b.length
  · rw [if_pos (by omega), if_pos (by omega)]
    have := eq_l0 K a b h ha a.length K 0 (by omega) hK
    simpa using this
  · rw [if_neg (by omega), if_neg (by omega)]
    have : ¬ a = b := fun e => h (by rw [e])
    rw [decide_eq_false this]; exact ⟨rfl, rfl⟩

def sameP (a b : S58) : Bool := decide (a.f0 = b.f0 ∧ a.f1 = b.f1 ∧ a.f2 = b.f2 ∧ a.f3 = b.f3 ∧ ((a.f4.f0 == b.f4.f0) && ((a.f4.f1 == b.f4.f1) && ((a.f4.f2 == b.f4.f2) && ((a.f4.f3 == b.f4.f3) && true)))) = true ∧ a.f5 = b.f5 ∧ a.f6 = b.f6 ∧ a.f7 = b.f7 ∧ a.f8 = b.f8)
theorem rsame_eq (K : Nat) (a b : S58) (ha : a.f3.length ≤ 1000000) (hK : a.f3.length < K) : confidantref9_Same.f K a b = some (sameP a b) := by
  unfold confidantref9_Same.f sameP
  rw [(equal_eq K a.f3 b.f3 ha hK).2]
  simp only [b1]
  by_cases h0 : a.f0 = b.f0
  · rw [if_pos h0]
    by_cases h1 : a.f1 = b.f1
    · rw [if_pos h1]
      by_cases h2 : a.f2 = b.f2
      · rw [if_pos h2]
        by_cases h3 : a.f3 = b.f3
        · rw [if_pos (decide_eq_true h3)]
          by_cases h4 : ((a.f4.f0 == b.f4.f0) && ((a.f4.f1 == b.f4.f1) && ((a.f4.f2 == b.f4.f2) && ((a.f4.f3 == b.f4.f3) && true)))) = true
          · rw [if_pos h4]
            by_cases h5 : a.f5 = b.f5
            · rw [if_pos h5]
              by_cases h6 : a.f6 = b.f6
              · rw [if_pos h6]
                by_cases h7 : a.f7 = b.f7
                · rw [if_pos h7]; congr 1; rw [decide_eq_decide]; exact ⟨fun h => ⟨h0, h1, h2, h3, h4, h5, h6, h7, h⟩, fun h => h.2.2.2.2.2.2.2.2⟩
                · rw [if_neg h7, decide_eq_false (fun h => h7 h.2.2.2.2.2.2.2.1)]
              · rw [if_neg h6, decide_eq_false (fun h => h6 h.2.2.2.2.2.2.1)]
            · rw [if_neg h5, decide_eq_false (fun h => h5 h.2.2.2.2.2.1)]
          · rw [if_neg h4, decide_eq_false (fun h => h4 h.2.2.2.2.1)]
        · rw [if_neg (by simpa using h3), decide_eq_false (fun h => h3 h.2.2.2.1)]
      · rw [if_neg h2, decide_eq_false (fun h => h2 h.2.2.1)]
    · rw [if_neg h1, decide_eq_false (fun h => h1 h.2.1)]
  · rw [if_neg h0, decide_eq_false (fun h => h0 h.1)]
theorem tsame_eq (K : Nat) (a b : S58) (ha : a.f3.length ≤ 1000000) (hK : a.f3.length < K) : task_Same.f K a b = some (sameP a b) := by
  unfold task_Same.f sameP
  rw [(equal_eq K a.f3 b.f3 ha hK).1]
  simp only [b1]
  by_cases h3 : a.f3 = b.f3
  · rw [if_pos (decide_eq_true h3)]
    by_cases h0 : a.f0 = b.f0
    · rw [if_pos h0]
      by_cases h1 : a.f1 = b.f1
      · rw [if_pos h1]
        by_cases h2 : a.f2 = b.f2
        · rw [if_pos h2]
          by_cases h4 : ((a.f4.f0 == b.f4.f0) && ((a.f4.f1 == b.f4.f1) && ((a.f4.f2 == b.f4.f2) && ((a.f4.f3 == b.f4.f3) && true)))) = true
          · rw [if_pos h4]
            by_cases h5 : a.f5 = b.f5
            · rw [if_pos h5]
              by_cases h6 : a.f6 = b.f6
              · rw [if_pos h6]
                by_cases h7 : a.f7 = b.f7
                · rw [if_pos h7]; congr 1; rw [decide_eq_decide]; exact ⟨fun h => ⟨h0, h1, h2, h3, h4, h5, h6, h7, h⟩, fun h => h.2.2.2.2.2.2.2.2⟩
                · rw [if_neg h7, decide_eq_false (fun h => h7 h.2.2.2.2.2.2.2.1)]
              · rw [if_neg h6, decide_eq_false (fun h => h6 h.2.2.2.2.2.2.1)]
            · rw [if_neg h5, decide_eq_false (fun h => h5 h.2.2.2.2.2.1)]
          · rw [if_neg h4, decide_eq_false (fun h => h4 h.2.2.2.2.1)]
        · rw [if_neg h2, decide_eq_false (fun h => h2 h.2.2.1)]
      · rw [if_neg h1, decide_eq_false (fun h => h1 h.2.1)]
    · rw [if_neg h0, decide_eq_false (fun h => h0 h.1)]
  · rw [if_neg (by simpa using h3), decide_eq_false (fun h => h3 h.2.2.2.1)]
theorem sameP_self (a : S58) : sameP a a = true := by unfold sameP; simp
theorem same_self (K : Nat) (a : S58) (ha : a.f3.length ≤ 1000000) (hK : a.f3.length < K) : confidantref9_Same.f K a a = some true := by rw [rsame_eq K a a ha hK, sameP_self]

/-! ### a task of numbers -/
theorem some_l0 (K : Nat) (l : List Int) (g : List Int → Int → Int → Int → Int → Option S58) (hl : l.length ≤ 1000) (R : S58 → Prop) (hg : ∀ (c : List Int) (x0 x1 x2 x3 : Int), c.length ≤ 20 → (∀ x ∈ c, (Lit.int .i32 x).wf = true) → ∃ r, g c x0 x1 x2 x3 = some r ∧ R r) :
    ∀ (d n i : Nat) (c : List Int) (x0 x1 x2 x3 : Int), 12 ≤ i + d → d < n → c.length ≤ i → i ≤ 12 → (∀ x ∈ c, (Lit.int .i32 x).wf = true) → ∃ r, confidantlaw10_some.l0 K l g n c x0 x1 x2 x3 (i : Int) = some r ∧ R r := by
  intro d
  induction d with
  | zero =>
    intro n i c x0 x1 x2 x3 hi hn hc h12 hw
    obtain ⟨n, rfl⟩ : ∃ m, n = m + 1 := ⟨n - 1, by omega⟩
    rw [confidantlaw10_some.l0.eq_2]
    simp only [lt]
    by_cases q : (i : Int) < (l.length : Int)
    · rw [if_pos q, if_neg (by simp; omega)]; exact hg _ _ _ _ _ (by omega) hw
    · rw [if_neg q, if_neg (by simp)]; exact hg _ _ _ _ _ (by omega) hw
  | succ d ih =>
    intro n i c x0 x1 x2 x3 hi hn hc h12 hw
    obtain ⟨n, rfl⟩ : ∃ m, n = m + 1 := ⟨n - 1, by omega⟩
    rw [confidantlaw10_some.l0.eq_2]
    simp only [lt]
    by_cases q : (i : Int) < (l.length : Int)
    · rw [if_pos q]
      by_cases q12 : (i : Int) < 12
      · rw [if_pos (decide_eq_true q12), if_pos (by omega), if_pos (by omega), if_pos (by simp; omega)]
        have w1 : IntKind.i64.wrap ((i : Int) + 1) = ((i + 1 : Nat) : Int) := by rw [w64_id (by omega) (by omega)]; omega
        have next : ∀ y, ∀ x0 x1 x2 x3, ∃ r, confidantlaw10_some.l0 K l g n (c ++ [IntKind.i32.wrap y]) x0 x1 x2 x3 (IntKind.i64.wrap ((i : Int) + 1)) = some r ∧ R r := by
          intro y x0 x1 x2 x3
          rw [w1]
          refine ih n (i + 1) _ x0 x1 x2 x3 (by omega) (by omega) (by rw [List.length_append]; simp; omega) (by omega) ?_
          intro x hx
          rcases List.mem_append.1 hx with hx | hx
          · exact hw x hx
          · simp only [List.mem_singleton] at hx
            subst hx
            rw [w32]
            simp [Lit.wf, IntKind.min, IntKind.max, IntKind.signed, IntKind.bits]
            omega
        have hm : Int.tmod (i : Int) 4 = 0 ∨ Int.tmod (i : Int) 4 = 1 ∨ Int.tmod (i : Int) 4 = 2 ∨ Int.tmod (i : Int) 4 = 3 := by rw [Int.tmod_eq_emod_of_nonneg (by omega)]; omega
        rcases hm with h | h | h | h <;> rw [h]
        · rw [if_pos rfl]; exact next _ _ _ _ _
        · rw [if_neg (by decide), if_pos rfl]; exact next _ _ _ _ _
        · rw [if_neg (by decide), if_neg (by decide), if_pos rfl]; exact next _ _ _ _ _
        · rw [if_neg (by decide), if_neg (by decide), if_neg (by decide), if_pos rfl]; exact next _ _ _ _ _
      · rw [if_neg (by simpa using q12)]; exact hg _ _ _ _ _ (by omega) hw
    · rw [if_neg q, if_neg (by simp)]; exact hg _ _ _ _ _ (by omega) hw
def okT (t : S58) : Prop := t.f3.length ≤ 40 ∧ ∀ x ∈ t.f3, (Lit.int .i32 x).wf = true
theorem some_some (K : Nat) (a b c : Int) (l : List Int) (hl : l.length ≤ 1000) (hK : 20 ≤ K) : ∃ t, confidantlaw10_some.f K a b c l = some t ∧ okT t := by
  unfold confidantlaw10_some.f
  simp only [lt]
  refine some_l0 K l _ hl okT (fun c x0 x1 x2 x3 hc hw => ⟨_, rfl, by show c.length ≤ 40; omega, hw⟩) 12 K 0 [] 0 0 0 0 (by omega) (by omega) (by simp) (by omega) (by simp)

theorem small_l0 (K : Nat) (m : List (List S32)) (hm : m.length ≤ 8) : ∀ (d n i : Nat), i + d = m.length → d < n → ∃ b, confidanthelp_SmallImage.l0 K m n (i : Int) = some b := by
  intro d
  induction d with
  | zero =>
    intro n i hi hn
    obtain ⟨n, rfl⟩ : ∃ m, n = m + 1 := ⟨n - 1, by omega⟩
    rw [confidanthelp_SmallImage.l0.eq_2, if_neg (by omega)]; exact ⟨_, rfl⟩
  | succ d ih =>
    intro n i hi hn
    obtain ⟨n, rfl⟩ : ∃ m, n = m + 1 := ⟨n - 1, by omega⟩
    rw [confidanthelp_SmallImage.l0.eq_2, if_pos (by omega), if_pos (by omega)]
    by_cases q : ((m.getD (i : Int).toNat []).length : Int) > 40
    · rw [if_pos q]; exact ⟨_, rfl⟩
    · rw [if_neg q, w64_id (by omega) (by omega)]
      have := ih n (i + 1) (by omega) (by omega)
      rwa [Int.natCast_add] at this
theorem small_some (K : Nat) (m : List (List S32)) (hK : 20 ≤ K) : ∃ b, confidanthelp_SmallImage.f K m = some b := by
  unfold confidanthelp_SmallImage.f
  by_cases q : (m.length : Int) > 8
  · rw [if_pos q]; exact ⟨_, rfl⟩
  · rw [if_neg q]; exact small_l0 K m (by omega) m.length K 0 (by omega) (by omega)

/-! ### the rounds -/
theorem dropP_len (t : S58) (k : Int) (xs : List Int) (ht : t.f3.length ≤ 40) (hx : xs.length ≤ 6) : (dropP t k xs).f3.length ≤ 46 := by
  unfold dropP
  simp only [List.length_append, List.length_take]
  omega
theorem ite_len {c : Prop} [Decidable c] (a b : S63 × S58) (ha : a.2.f3.length ≤ 46) (hb : b.2.f3.length ≤ 46) : (if c then a else b).2.f3.length ≤ 46 := by split <;> assumption
theorem doP_len (t : S58) (o a : Int) (ht : t.f3.length ≤ 40) : (doP t o a).2.f3.length ≤ 46 := by
  have D := fun k xs hx => dropP_len t k xs ht hx
  have e : ∀ k, (dropP t k []).f3.length ≤ 46 := fun k => D k [] (by simp)
  have e1 : ∀ k x, (dropP t k [x]).f3.length ≤ 46 := fun k x => D k [x] (by simp)
  have e2 : (if topP t 0 = 0 then {dropP t 1 [] with f2 := IntKind.i64.wrap a} else dropP t 1 []).f3.length ≤ 46 := by split <;> exact e _
  have e3 : t.f3.length ≤ 46 := by omega
  unfold doP
  repeat' (first | refine ite_len _ _ ?_ ?_ | exact e _ | exact e1 _ _ | exact e2 | exact e3)
theorem stepP_len (t : S58) (m : List (List S32)) (ht : t.f3.length ≤ 40) : (stepP t m).2.f3.length ≤ 46 := by
  unfold stepP
  split
  · show t.f3.length ≤ 46; omega
  · split
    · exact doP_len _ _ _ ht
    · show t.f3.length ≤ 46; omega

theorem tt_l1 (K : Nat) (hK : 100 ≤ K) (c2 : List (List (List S32))) (a0 : List S58) (a3 : Nat) (g : List (List (List S32)) → Option Bool) (ht : okT (a0.getD a3 zS58)) (hc : c2.length ≤ 10) : ∀ (d n i : Nat), i + d = c2.length → d < n → confidantlaw10_TaskTells.l1 K c2 a0 (a3 : Int) g n (i : Int) = g c2 := by
  intro d
  induction d with
  | zero =>
    intro n i hi hn
    obtain ⟨n, rfl⟩ : ∃ m, n = m + 1 := ⟨n - 1, by omega⟩
    rw [confidantlaw10_TaskTells.l1.eq_2, if_neg (by omega)]
  | succ d ih =>
    intro n i hi hn
    obtain ⟨n, rfl⟩ : ∃ m, n = m + 1 := ⟨n - 1, by omega⟩
    rw [confidantlaw10_TaskTells.l1.eq_2, if_pos (by omega), if_pos (by omega), Int.toNat_natCast, Int.toNat_natCast, step_eq K _ _ (by have := ht.1; omega), ref_eq K _ _ (by have := ht.1; omega) ht.2]
    have hs := stepP_len (a0.getD a3 zS58) (c2.getD i []) ht.1
    generalize stepP (a0.getD a3 zS58) (c2.getD i []) = r at hs
    obtain ⟨o, u⟩ := r
    simp only at hs
    simp only [b2, lt]
    rw [same_self K u (by omega) (by omega)]
    simp only [b1, if_true]
    rw [if_neg (by simp), w64_id (by omega) (by omega)]
    have := ih n (i + 1) (by omega) (by omega)
    rwa [Int.natCast_add] at this

theorem tt_l0 (K : Nat) (hK : 100 ≤ K) (a0 : List S58) (pops : Int) (l51 : List Int) (a46 : Int) (t : S58) (a45 a47 : Int) (raw b3 b0 : List (List S32)) (h0 : ∀ i < a0.length, okT (a0.getD i zS58)) (hl : a0.length ≤ 10) (hx : l51.length ≤ 6) : ∀ (d n i : Nat), i + d = a0.length → d < n →
    confidantlaw10_TaskTells.l0 K a0 pops l51 a46 t a45 a47 raw n b3 b0 (i : Int) = some true := by
  intro d
  induction d with
  | zero =>
    intro n i hi hn
    obtain ⟨n, rfl⟩ : ∃ m, n = m + 1 := ⟨n - 1, by omega⟩
    rw [confidantlaw10_TaskTells.l0.eq_2, if_neg (by omega)]
  | succ d ih =>
    intro n i hi hn
    obtain ⟨n, rfl⟩ : ∃ m, n = m + 1 := ⟨n - 1, by omega⟩
    have hok := h0 i (by omega)
    have hlen := hok.1
    rw [confidantlaw10_TaskTells.l0.eq_2, if_pos (by omega)]
    simp only [lt]
    rw [if_pos (by omega)]
    have L := fun g => tt_l1 K hK [b3, raw, b0] a0 i g hok (by simp) 3 K 0 (by simp) (by omega)
    simp only [Int.natCast_zero] at L
    rw [L]
    simp only [Int.toNat_natCast]
    have e1 := dropP_len (a0.getD i zS58) pops l51 hlen hx
    have e2 := dropP_len (a0.getD i zS58) (IntKind.i64.wrap (Int.tmod a46 4)) l51 hlen hx
    rw [drop_eq K _ _ _ (by omega), rdrop_eq K _ _ _ (by omega), drop_eq K _ _ _ (by omega), rdrop_eq K _ _ _ (by omega)]
    simp only [b1]
    rw [same_self K (dropP (a0.getD i zS58) pops l51) (by omega) (by omega), same_self K (dropP (a0.getD i zS58) (IntKind.i64.wrap (Int.tmod a46 4)) l51) (by omega) (by omega), tsame_eq K _ _ (by omega) (by omega), rsame_eq K _ _ (by omega) (by omega)]
    simp only [if_true]
    rw [if_pos (by simp)]
    unfold task_Child.f confidantref9_Child.f task_New.f confidantref9_New.f
    simp only [b1]
    rw [same_self K _ (by simp) (by simp; omega)]
    simp only
    rw [if_neg (by simp), w64_id (by omega) (by omega)]
    have := ih n (i + 1) (by omega) (by omega)
    rwa [Int.natCast_add] at this

theorem ite_some {α : Type} {c : Prop} [Decidable c] (x y : Option α) (hx : ∃ v, x = some v) (hy : ∃ v, y = some v) : ∃ v, (if c then x else y) = some v := by split <;> assumption
theorem arg5_some (K : Nat) (o : Int) : ∃ v, confidantref5_Arg.f K o = some v := by
  unfold confidantref5_Arg.f
  simp only [lt]
  repeat' (first | exact ⟨_, rfl⟩ | refine ite_some _ _ ?_ ?_)
theorem instr_some (K : Nat) (a b : Int) : ∃ x y, confidantseat_Instr.f K a b = some (x, y) := by
  unfold confidantseat_Instr.f
  obtain ⟨v, hv⟩ := arg5_some K (IntKind.i64.wrap (Int.tmod (IntKind.i64.wrap a) 26 + 1))
  rw [hv]
  simp only [b1, in_eq, b2]
  split <;> exact ⟨_, _, rfl⟩
set_option maxHeartbeats 1000000 in
theorem TaskTells : confidantlaw10_TaskTells.Pure := by
  intro raw img l39 l42 a45 a46 a47 a48 a49 a50 l51 _ _ _ h3 _ _ _ _ _ _ _ _ _ hw5 _ hw39 _ hw42 h45 h46 h47 h48 h49 h50 _ hw51
  obtain ⟨K, hK, hk⟩ : ∃ K, 400 ≤ K ∧ confidantlaw10_known.f K = some true := ⟨400, Nat.le_refl _, by kernel_rfl⟩
  refine ⟨K, ?_⟩
  unfold confidantlaw10_TaskTells.f
  rw [hk]
  simp only [b1, lt, if_true, confidanthelp_SmallTask.f]
  have skip : ∀ x : Bool, (x = false → raw.f3.length ≤ 40 ∧ l39.length ≤ 60 ∧ l42.length ≤ 12 ∧ l51.length ≤ 6) → (if x = true then some true else (b1 (confidantseat_Code.f K l39 4 3 2 false) fun (c4 : List (List S32)) => (b1 (confidantlaw10_some.f K a45 a46 a47 l42) fun (a1 : S58) => (b2 (confidantseat_Instr.f K a45 a46) fun (c8 : Int) (c3 : Int) => (confidantlaw10_TaskTells.l0 K [a1, raw, ({a1 with f2 := 0} : S58)] a50 l51 a46 a1 a45 a47 img K c4 ([[(⟨a48, a49⟩ : S32)], [(⟨c8, c3⟩ : S32)], [(⟨bA .i64 a48 31, a49⟩ : S32)]] : List (List S32)) 0))))) = some true := by
    intro x hx
    cases x with
    | true => rw [if_pos rfl]
    | false =>
      obtain ⟨r1, r2, r3, r4⟩ := hx rfl
      rw [if_neg (by simp)]
      obtain ⟨c, hc, _⟩ := code_some K 3 l39 4 2 false (by omega) (by omega) hw39 (by omega) (by decide)
      rw [show (3 : Int) = ((3 : Nat) : Int) from rfl, hc]
      obtain ⟨t, ht, hok⟩ := some_some K a45 a46 a47 l42 (by omega) (by omega)
      simp only [b1]
      rw [ht]
      simp only [b1]
      obtain ⟨x, y, hxy⟩ := instr_some K a45 a46
      rw [hxy]
      simp only [b2]
      refine tt_l0 K (by omega) _ a50 l51 a46 t a45 a47 img c _ ?_ (by simp) r4 3 K 0 (by simp) (by omega)
      intro i hi
      simp only [List.length_cons, List.length_nil] at hi
      rcases (by omega : i = 0 ∨ i = 1 ∨ i = 2) with rfl | rfl | rfl
      · exact hok
      · exact ⟨r1, h3.2⟩
      · exact hok
  by_cases q1 : (raw.f3.length : Int) ≤ 40
  · rw [if_pos (decide_eq_true q1)]
    obtain ⟨b, hb⟩ := small_some K img (by omega)
    rw [hb]
    cases b with
    | false => exact skip true (fun h => by cases h)
    | true =>
      simp only [if_true]
      by_cases q2 : (l39.length : Int) > 60
      · rw [if_pos q2]
      rw [if_neg q2]
      by_cases q3 : (l42.length : Int) > 12
      · rw [if_pos q3]
      rw [if_neg q3]
      by_cases q4 : (l51.length : Int) > 6
      · rw [if_pos q4]
      rw [if_neg q4]
      exact skip _ (fun _ => ⟨by omega, by omega, by omega, by omega⟩)
  · rw [if_neg (by simpa using q1)]
end Go.Proofs.Ytlcnkngpankkpaa.Pure
