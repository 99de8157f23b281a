import Derived.Test.YtlcnkngpankkpaaG6
import Derived.Test.YtlcnkngpankkpaaG7
import Derived.Test.YtlcnkngpankkpaaTask
/- The reference's step comes to the same. Conditions: in the lemmas (a stack of at most 10^11 values, each of 32 bits). -/
set_option linter.unusedVariables false
set_option linter.unusedSimpArgs false
namespace Go.Proofs.Ytlcnkngpankkpaa.Task
open Go Go.Fw Go.RowKit Go.Proofs.Ytlcnkngpankkpaa.G

theorem rdrop_eq (K : Nat) (t : S58) (k : Int) (xs : List Int) (h : t.f3.length + xs.length ≤ 1000000000000) : confidantref9_Drop.f K t k xs = some (dropP t k xs) := by
  unfold confidantref9_Drop.f
  have hm := mnx k t.f3.length
  simp only [lt, List.nil_append, List.length_nil, Nat.zero_add]
  rw [w64_id (by omega) (by omega), if_pos (by omega), if_pos (by omega), if_pos (by rw [List.length_take]; omega), if_pos (by rw [List.length_take]; omega)]
  rfl
theorem went_eq (K : Nat) (t : S58) (k : Int) (xs : List Int) (h : t.f3.length + xs.length ≤ 1000000000000) : confidantref9_went.f K t k xs = some (went, dropP t k xs) := by
  unfold confidantref9_went.f
  rw [rdrop_eq K t k xs h]
  rfl
theorem rat_eq (K : Nat) (t : S58) (m : List (List S32)) : confidantref9_At.f K t m = match atP t m with | some i => some (i.f0, i.f1, true) | none => some (0, 0, false) := by
  unfold confidantref9_At.f atP
  simp only [lt]
  by_cases h1 : t.f1 < 0
  · rw [if_pos h1, if_pos trivial, if_neg (by omega)]
  rw [if_neg h1]
  by_cases h2 : t.f1 ≥ (m.length : Int)
  · rw [if_pos h2, if_pos trivial, if_neg (by omega)]
  rw [if_neg h2]
  by_cases h3 : t.f2 < 0
  · rw [if_pos h3, if_pos trivial, if_neg (by omega)]
  rw [if_neg h3, if_pos (by omega), if_pos (by omega)]
  by_cases h4 : t.f2 ≥ ((m.getD t.f1.toNat []).length : Int)
  · rw [if_pos (by simpa using h4), if_neg (by omega)]
  have hr : 0 ≤ t.f1 ∧ t.f1 < (m.length : Int) ∧ 0 ≤ t.f2 ∧ t.f2 < ((m.getD t.f1.toNat []).length : Int) := by omega
  rw [if_pos hr, if_neg (by simpa using h4), if_pos hr.1, if_pos hr.2.1, if_pos hr.2.2.1, if_pos hr.2.2.2]

/-- the last value but so many, or nought -/
def topQ (t : S58) (k : Nat) : Int := if k < t.f3.length then topP t k else 0
theorem topQ_eq (t : S58) (k : Nat) (h : k < t.f3.length) : topQ t k = topP t k := if_pos h
theorem chain1 {R : Type} (t : S58) (h : t.f3.length ≤ 100000000000) (g : Int → Option R) : lt g (fun x4 => (if (t.f3.length : Int) > 1 then (if 0 ≤ (IntKind.i64.wrap ((t.f3.length : Int) - 2)) then (if (IntKind.i64.wrap ((t.f3.length : Int) - 2)) < (t.f3.length : Int) then (lt ((t.f3.getD (IntKind.i64.wrap ((t.f3.length : Int) - 2)).toNat 0)) fun u8 => (x4 u8)) else none) else none) else (x4 0))) = g (topQ t 1) := by
  unfold topQ
  simp only [lt]
  by_cases q : (t.f3.length : Int) > 1
  · rw [if_pos q, w64_id (by omega) (by omega), if_pos (by omega), if_pos (by omega), if_pos (by omega)]
    unfold topP
    congr 2
    omega
  · rw [if_neg q, if_neg (by omega)]
theorem chain0 {R : Type} (t : S58) (h : t.f3.length ≤ 100000000000) (g : Int → Option R) : lt g (fun x3 => (if (t.f3.length : Int) > 0 then (if 0 ≤ (IntKind.i64.wrap ((t.f3.length : Int) - 1)) then (if (IntKind.i64.wrap ((t.f3.length : Int) - 1)) < (t.f3.length : Int) then (lt ((t.f3.getD (IntKind.i64.wrap ((t.f3.length : Int) - 1)).toNat 0)) fun u7 => (x3 u7)) else none) else none) else (x3 0))) = g (topQ t 0) := by
  unfold topQ
  simp only [lt]
  by_cases q : (t.f3.length : Int) > 0
  · rw [if_pos q, w64_id (by omega) (by omega), if_pos (by omega), if_pos (by omega), if_pos (by omega)]
    unfold topP
    congr 2
    omega
  · rw [if_neg q, if_neg (by omega)]
theorem top_wf (t : S58) (h : ∀ x ∈ t.f3, (Lit.int .i32 x).wf = true) (k : Nat) (hk : k < t.f3.length) : -2147483648 ≤ topP t k ∧ topP t k ≤ 2147483647 := by
  unfold topP
  rw [List.getD_eq_getElem?_getD, List.getElem?_eq_getElem (by omega)]
  exact is_i32 (h _ (List.getElem_mem _))
theorem w32_64 (x : Int) : IntKind.i32.wrap (IntKind.i64.wrap x) = IntKind.i32.wrap x := by rw [w32, w64, w32]; omega

theorem ref_none (K : Nat) (t : S58) (m : List (List S32)) (hat : atP t m = none) : confidantref9_Step.f K t m = some (stepP t m) := by
  unfold confidantref9_Step.f stepP
  rw [rat_eq, hat]
  rfl
theorem ref_out (K : Nat) (t : S58) (m : List (List S32)) (o a : Int) (hat : atP t m = some ⟨o, a⟩) (ho : ¬ (1 ≤ o ∧ o ≤ 26)) : confidantref9_Step.f K t m = some (stepP t m) := by
  have hm : mayP t ⟨o, a⟩ = false := by unfold mayP; rw [decide_eq_false ho]; rfl
  unfold confidantref9_Step.f stepP
  rw [rat_eq, hat]
  simp only [b3, hm, lt, Bool.false_eq_true, if_false, if_true]
  by_cases q : o < 1
  · rw [if_pos q]; rfl
  · rw [if_neg q, if_pos (by simp; omega)]; rfl

theorem ref_1 (K : Nat) (t : S58) (m : List (List S32)) (a : Int) (h : t.f3.length ≤ 100000000000) (hw : ∀ x ∈ t.f3, (Lit.int .i32 x).wf = true) (hat : atP t m = some ⟨1, a⟩) : confidantref9_Step.f K t m = some (stepP t m) := by
  have hp : popsP 1 = 0 := pops_at 1 1 rfl (by omega)
  have harg := arg_at 1 1 rfl (by omega)
  unfold confidantref9_Step.f stepP
  rw [rat_eq, hat]
  simp only [b3, chain0 t h, chain1 t h]
  simp only [lt, Int.reduceEq, Int.reduceLT, Int.reduceGT, if_false, if_true, Bool.false_eq_true, decide_false, decide_true, confidantref9_asks.f, confidantref9_pops.f, b2, b1]
  rw [if_neg (show ¬ ((t.f3.length : Int) < 0) by omega)]
  have hm : mayP t ⟨1, a⟩ = true := by
    unfold mayP
    rw [hp, decide_eq_true (show ((0 : Int) ≤ (t.f3.length : Int)) by omega)]
    simp only [List.getD_cons_succ, List.getD_cons_zero] at harg
    simp [harg]
  simp only [hm, if_true, doP, Int.reduceEq, Int.reduceLT, Int.reduceGT, if_false, if_true, Bool.false_eq_true, decide_false, decide_true]
  have W : ∀ (k : Int) (xs : List Int), xs.length ≤ 2 → confidantref9_went.f K t k xs = some (went, dropP t k xs) := fun k xs hx => went_eq K t k xs (by omega)
  rw [W _ _ (by simp)]

theorem ref_2 (K : Nat) (t : S58) (m : List (List S32)) (a : Int) (h : t.f3.length ≤ 100000000000) (hw : ∀ x ∈ t.f3, (Lit.int .i32 x).wf = true) (hat : atP t m = some ⟨2, a⟩) : confidantref9_Step.f K t m = some (stepP t m) := by
  have hp : popsP 2 = 1 := pops_at 2 2 rfl (by omega)
  have harg := arg_at 2 2 rfl (by omega)
  unfold confidantref9_Step.f stepP
  rw [rat_eq, hat]
  simp only [b3, chain0 t h, chain1 t h]
  simp only [lt, Int.reduceEq, Int.reduceLT, Int.reduceGT, if_false, if_true, Bool.false_eq_true, decide_false, decide_true, confidantref9_asks.f, confidantref9_pops.f, b2, b1]
  by_cases q : (t.f3.length : Int) < 1
  · rw [if_pos q]
    have hm : mayP t ⟨2, a⟩ = false := by unfold mayP; rw [hp, decide_eq_false (show ¬ ((1 : Int) ≤ (t.f3.length : Int)) by omega)]; simp
    simp only [hm, Bool.false_eq_true, if_false]; rfl
  rw [if_neg q]
  have hm : mayP t ⟨2, a⟩ = true := by
    unfold mayP
    rw [hp, decide_eq_true (show ((1 : Int) ≤ (t.f3.length : Int)) by omega)]
    simp only [List.getD_cons_succ, List.getD_cons_zero] at harg
    simp [harg]
  simp only [hm, if_true, doP, Int.reduceEq, Int.reduceLT, Int.reduceGT, if_false, if_true, Bool.false_eq_true, decide_false, decide_true]
  have e0 : topQ t 0 = topP t 0 := topQ_eq t 0 (by omega)
  have W : ∀ (k : Int) (xs : List Int), xs.length ≤ 2 → confidantref9_went.f K t k xs = some (went, dropP t k xs) := fun k xs hx => went_eq K t k xs (by omega)
  rw [W _ _ (by simp)]

theorem ref_3 (K : Nat) (t : S58) (m : List (List S32)) (a : Int) (h : t.f3.length ≤ 100000000000) (hw : ∀ x ∈ t.f3, (Lit.int .i32 x).wf = true) (hat : atP t m = some ⟨3, a⟩) : confidantref9_Step.f K t m = some (stepP t m) := by
  have hp : popsP 3 = 1 := pops_at 3 3 rfl (by omega)
  have harg := arg_at 3 3 rfl (by omega)
  unfold confidantref9_Step.f stepP
  rw [rat_eq, hat]
  simp only [b3, chain0 t h, chain1 t h]
  simp only [lt, Int.reduceEq, Int.reduceLT, Int.reduceGT, if_false, if_true, Bool.false_eq_true, decide_false, decide_true, confidantref9_asks.f, confidantref9_pops.f, b2, b1]
  by_cases q : (t.f3.length : Int) < 1
  · rw [if_pos q]
    have hm : mayP t ⟨3, a⟩ = false := by unfold mayP; rw [hp, decide_eq_false (show ¬ ((1 : Int) ≤ (t.f3.length : Int)) by omega)]; simp
    simp only [hm, Bool.false_eq_true, if_false]; rfl
  rw [if_neg q]
  have hm : mayP t ⟨3, a⟩ = true := by
    unfold mayP
    rw [hp, decide_eq_true (show ((1 : Int) ≤ (t.f3.length : Int)) by omega)]
    simp only [List.getD_cons_succ, List.getD_cons_zero] at harg
    simp [harg]
  simp only [hm, if_true, doP, Int.reduceEq, Int.reduceLT, Int.reduceGT, if_false, if_true, Bool.false_eq_true, decide_false, decide_true]
  have e0 : topQ t 0 = topP t 0 := topQ_eq t 0 (by omega)
  have W : ∀ (k : Int) (xs : List Int), xs.length ≤ 2 → confidantref9_went.f K t k xs = some (went, dropP t k xs) := fun k xs hx => went_eq K t k xs (by omega)
  rw [W _ _ (by simp), e0]

theorem ref_4 (K : Nat) (t : S58) (m : List (List S32)) (a : Int) (h : t.f3.length ≤ 100000000000) (hw : ∀ x ∈ t.f3, (Lit.int .i32 x).wf = true) (hat : atP t m = some ⟨4, a⟩) : confidantref9_Step.f K t m = some (stepP t m) := by
  have hp : popsP 4 = 2 := pops_at 4 4 rfl (by omega)
  have harg := arg_at 4 4 rfl (by omega)
  unfold confidantref9_Step.f stepP
  rw [rat_eq, hat]
  simp only [b3, chain0 t h, chain1 t h]
  simp only [lt, Int.reduceEq, Int.reduceLT, Int.reduceGT, if_false, if_true, Bool.false_eq_true, decide_false, decide_true, confidantref9_asks.f, confidantref9_pops.f, b2, b1]
  by_cases q : (t.f3.length : Int) < 2
  · rw [if_pos q]
    have hm : mayP t ⟨4, a⟩ = false := by unfold mayP; rw [hp, decide_eq_false (show ¬ ((2 : Int) ≤ (t.f3.length : Int)) by omega)]; simp
    simp only [hm, Bool.false_eq_true, if_false]; rfl
  rw [if_neg q]
  have hm : mayP t ⟨4, a⟩ = true := by
    unfold mayP
    rw [hp, decide_eq_true (show ((2 : Int) ≤ (t.f3.length : Int)) by omega)]
    simp only [List.getD_cons_succ, List.getD_cons_zero] at harg
    simp [harg]
  simp only [hm, if_true, doP, Int.reduceEq, Int.reduceLT, Int.reduceGT, if_false, if_true, Bool.false_eq_true, decide_false, decide_true]
  have e0 : topQ t 0 = topP t 0 := topQ_eq t 0 (by omega)
  have e1 : topQ t 1 = topP t 1 := topQ_eq t 1 (by omega)
  have W : ∀ (k : Int) (xs : List Int), xs.length ≤ 2 → confidantref9_went.f K t k xs = some (went, dropP t k xs) := fun k xs hx => went_eq K t k xs (by omega)
  simp only [confidantref9_two.f, Int.reduceEq, Int.reduceLT, Int.reduceGT, if_false, if_true, Bool.false_eq_true, decide_false, decide_true]
  rw [W _ _ (by simp), e0, e1]

theorem ref_5 (K : Nat) (t : S58) (m : List (List S32)) (a : Int) (h : t.f3.length ≤ 100000000000) (hw : ∀ x ∈ t.f3, (Lit.int .i32 x).wf = true) (hat : atP t m = some ⟨5, a⟩) : confidantref9_Step.f K t m = some (stepP t m) := by
  have hp : popsP 5 = 2 := pops_at 5 5 rfl (by omega)
  have harg := arg_at 5 5 rfl (by omega)
  unfold confidantref9_Step.f stepP
  rw [rat_eq, hat]
  simp only [b3, chain0 t h, chain1 t h]
  simp only [lt, Int.reduceEq, Int.reduceLT, Int.reduceGT, if_false, if_true, Bool.false_eq_true, decide_false, decide_true, confidantref9_asks.f, confidantref9_pops.f, b2, b1]
  by_cases q : (t.f3.length : Int) < 2
  · rw [if_pos q]
    have hm : mayP t ⟨5, a⟩ = false := by unfold mayP; rw [hp, decide_eq_false (show ¬ ((2 : Int) ≤ (t.f3.length : Int)) by omega)]; simp
    simp only [hm, Bool.false_eq_true, if_false]; rfl
  rw [if_neg q]
  have hm : mayP t ⟨5, a⟩ = true := by
    unfold mayP
    rw [hp, decide_eq_true (show ((2 : Int) ≤ (t.f3.length : Int)) by omega)]
    simp only [List.getD_cons_succ, List.getD_cons_zero] at harg
    simp [harg]
  simp only [hm, if_true, doP, Int.reduceEq, Int.reduceLT, Int.reduceGT, if_false, if_true, Bool.false_eq_true, decide_false, decide_true]
  have e0 : topQ t 0 = topP t 0 := topQ_eq t 0 (by omega)
  have e1 : topQ t 1 = topP t 1 := topQ_eq t 1 (by omega)
  have W : ∀ (k : Int) (xs : List Int), xs.length ≤ 2 → confidantref9_went.f K t k xs = some (went, dropP t k xs) := fun k xs hx => went_eq K t k xs (by omega)
  simp only [confidantref9_two.f, Int.reduceEq, Int.reduceLT, Int.reduceGT, if_false, if_true, Bool.false_eq_true, decide_false, decide_true]
  rw [W _ _ (by simp), e0, e1]

theorem ref_6 (K : Nat) (t : S58) (m : List (List S32)) (a : Int) (h : t.f3.length ≤ 100000000000) (hw : ∀ x ∈ t.f3, (Lit.int .i32 x).wf = true) (hat : atP t m = some ⟨6, a⟩) : confidantref9_Step.f K t m = some (stepP t m) := by
  have hp : popsP 6 = 2 := pops_at 6 6 rfl (by omega)
  have harg := arg_at 6 6 rfl (by omega)
  unfold confidantref9_Step.f stepP
  rw [rat_eq, hat]
  simp only [b3, chain0 t h, chain1 t h]
  simp only [lt, Int.reduceEq, Int.reduceLT, Int.reduceGT, if_false, if_true, Bool.false_eq_true, decide_false, decide_true, confidantref9_asks.f, confidantref9_pops.f, b2, b1]
  by_cases q : (t.f3.length : Int) < 2
  · rw [if_pos q]
    have hm : mayP t ⟨6, a⟩ = false := by unfold mayP; rw [hp, decide_eq_false (show ¬ ((2 : Int) ≤ (t.f3.length : Int)) by omega)]; simp
    simp only [hm, Bool.false_eq_true, if_false]; rfl
  rw [if_neg q]
  have hm : mayP t ⟨6, a⟩ = true := by
    unfold mayP
    rw [hp, decide_eq_true (show ((2 : Int) ≤ (t.f3.length : Int)) by omega)]
    simp only [List.getD_cons_succ, List.getD_cons_zero] at harg
    simp [harg]
  simp only [hm, if_true, doP, Int.reduceEq, Int.reduceLT, Int.reduceGT, if_false, if_true, Bool.false_eq_true, decide_false, decide_true]
  have e0 : topQ t 0 = topP t 0 := topQ_eq t 0 (by omega)
  have e1 : topQ t 1 = topP t 1 := topQ_eq t 1 (by omega)
  have W : ∀ (k : Int) (xs : List Int), xs.length ≤ 2 → confidantref9_went.f K t k xs = some (went, dropP t k xs) := fun k xs hx => went_eq K t k xs (by omega)
  simp only [confidantref9_two.f, Int.reduceEq, Int.reduceLT, Int.reduceGT, if_false, if_true, Bool.false_eq_true, decide_false, decide_true]
  rw [W _ _ (by simp), e0, e1]

theorem ref_7 (K : Nat) (t : S58) (m : List (List S32)) (a : Int) (h : t.f3.length ≤ 100000000000) (hw : ∀ x ∈ t.f3, (Lit.int .i32 x).wf = true) (hat : atP t m = some ⟨7, a⟩) : confidantref9_Step.f K t m = some (stepP t m) := by
  have hp : popsP 7 = 2 := pops_at 7 7 rfl (by omega)
  have harg := arg_at 7 7 rfl (by omega)
  unfold confidantref9_Step.f stepP
  rw [rat_eq, hat]
  simp only [b3, chain0 t h, chain1 t h]
  simp only [lt, Int.reduceEq, Int.reduceLT, Int.reduceGT, if_false, if_true, Bool.false_eq_true, decide_false, decide_true, confidantref9_asks.f, confidantref9_pops.f, b2, b1]
  by_cases q : (t.f3.length : Int) < 2
  · rw [if_pos q]
    have hm : mayP t ⟨7, a⟩ = false := by unfold mayP; rw [hp, decide_eq_false (show ¬ ((2 : Int) ≤ (t.f3.length : Int)) by omega)]; simp
    simp only [hm, Bool.false_eq_true, if_false]; rfl
  rw [if_neg q]
  have hm : mayP t ⟨7, a⟩ = true := by
    unfold mayP
    rw [hp, decide_eq_true (show ((2 : Int) ≤ (t.f3.length : Int)) by omega)]
    simp only [List.getD_cons_succ, List.getD_cons_zero] at harg
    simp [harg]
  simp only [hm, if_true, doP, Int.reduceEq, Int.reduceLT, Int.reduceGT, if_false, if_true, Bool.false_eq_true, decide_false, decide_true]
  have e0 : topQ t 0 = topP t 0 := topQ_eq t 0 (by omega)
  have e1 : topQ t 1 = topP t 1 := topQ_eq t 1 (by omega)
  have W : ∀ (k : Int) (xs : List Int), xs.length ≤ 2 → confidantref9_went.f K t k xs = some (went, dropP t k xs) := fun k xs hx => went_eq K t k xs (by omega)
  have u0 := top_wf t hw 0 (by omega)
  have u1 := top_wf t hw 1 (by omega)
  simp only [confidantref9_two.f, Int.reduceEq, Int.reduceLT, Int.reduceGT, if_false, if_true, Bool.false_eq_true, decide_false, decide_true, e0, e1, confidantref9_Div.f, lt]
  rw [w64_id (x := topP t 0) (by omega) (by omega), w64_id (x := topP t 1) (by omega) (by omega), w32_64]
  by_cases z : topP t 0 = 0
  · rw [if_pos z, if_pos z]; rfl
  · rw [if_neg z, if_neg z, if_neg z]; simp only [b2, if_true]; rw [W _ _ (by simp)]

theorem ref_8 (K : Nat) (t : S58) (m : List (List S32)) (a : Int) (h : t.f3.length ≤ 100000000000) (hw : ∀ x ∈ t.f3, (Lit.int .i32 x).wf = true) (hat : atP t m = some ⟨8, a⟩) : confidantref9_Step.f K t m = some (stepP t m) := by
  have hp : popsP 8 = 2 := pops_at 8 8 rfl (by omega)
  have harg := arg_at 8 8 rfl (by omega)
  unfold confidantref9_Step.f stepP
  rw [rat_eq, hat]
  simp only [b3, chain0 t h, chain1 t h]
  simp only [lt, Int.reduceEq, Int.reduceLT, Int.reduceGT, if_false, if_true, Bool.false_eq_true, decide_false, decide_true, confidantref9_asks.f, confidantref9_pops.f, b2, b1]
  by_cases q : (t.f3.length : Int) < 2
  · rw [if_pos q]
    have hm : mayP t ⟨8, a⟩ = false := by unfold mayP; rw [hp, decide_eq_false (show ¬ ((2 : Int) ≤ (t.f3.length : Int)) by omega)]; simp
    simp only [hm, Bool.false_eq_true, if_false]; rfl
  rw [if_neg q]
  have hm : mayP t ⟨8, a⟩ = true := by
    unfold mayP
    rw [hp, decide_eq_true (show ((2 : Int) ≤ (t.f3.length : Int)) by omega)]
    simp only [List.getD_cons_succ, List.getD_cons_zero] at harg
    simp [harg]
  simp only [hm, if_true, doP, Int.reduceEq, Int.reduceLT, Int.reduceGT, if_false, if_true, Bool.false_eq_true, decide_false, decide_true]
  have e0 : topQ t 0 = topP t 0 := topQ_eq t 0 (by omega)
  have e1 : topQ t 1 = topP t 1 := topQ_eq t 1 (by omega)
  have W : ∀ (k : Int) (xs : List Int), xs.length ≤ 2 → confidantref9_went.f K t k xs = some (went, dropP t k xs) := fun k xs hx => went_eq K t k xs (by omega)
  simp only [confidantref9_two.f, Int.reduceEq, Int.reduceLT, Int.reduceGT, if_false, if_true, Bool.false_eq_true, decide_false, decide_true, e0, e1, confidantref9_Truth.f, decide_eq_true_eq]
  by_cases z : topP t 1 < topP t 0
  · rw [if_pos z, if_pos z]; simp only [b1, if_true]; rw [W _ _ (by simp)]
  · rw [if_neg z, if_neg z]; simp only [b1, if_true]; rw [W _ _ (by simp)]

theorem ref_9 (K : Nat) (t : S58) (m : List (List S32)) (a : Int) (h : t.f3.length ≤ 100000000000) (hw : ∀ x ∈ t.f3, (Lit.int .i32 x).wf = true) (hat : atP t m = some ⟨9, a⟩) : confidantref9_Step.f K t m = some (stepP t m) := by
  have hp : popsP 9 = 2 := pops_at 9 9 rfl (by omega)
  have harg := arg_at 9 9 rfl (by omega)
  unfold confidantref9_Step.f stepP
  rw [rat_eq, hat]
  simp only [b3, chain0 t h, chain1 t h]
  simp only [lt, Int.reduceEq, Int.reduceLT, Int.reduceGT, if_false, if_true, Bool.false_eq_true, decide_false, decide_true, confidantref9_asks.f, confidantref9_pops.f, b2, b1]
  by_cases q : (t.f3.length : Int) < 2
  · rw [if_pos q]
    have hm : mayP t ⟨9, a⟩ = false := by unfold mayP; rw [hp, decide_eq_false (show ¬ ((2 : Int) ≤ (t.f3.length : Int)) by omega)]; simp
    simp only [hm, Bool.false_eq_true, if_false]; rfl
  rw [if_neg q]
  have hm : mayP t ⟨9, a⟩ = true := by
    unfold mayP
    rw [hp, decide_eq_true (show ((2 : Int) ≤ (t.f3.length : Int)) by omega)]
    simp only [List.getD_cons_succ, List.getD_cons_zero] at harg
    simp [harg]
  simp only [hm, if_true, doP, Int.reduceEq, Int.reduceLT, Int.reduceGT, if_false, if_true, Bool.false_eq_true, decide_false, decide_true]
  have e0 : topQ t 0 = topP t 0 := topQ_eq t 0 (by omega)
  have e1 : topQ t 1 = topP t 1 := topQ_eq t 1 (by omega)
  have W : ∀ (k : Int) (xs : List Int), xs.length ≤ 2 → confidantref9_went.f K t k xs = some (went, dropP t k xs) := fun k xs hx => went_eq K t k xs (by omega)
  simp only [confidantref9_two.f, Int.reduceEq, Int.reduceLT, Int.reduceGT, if_false, if_true, Bool.false_eq_true, decide_false, decide_true, e0, e1, confidantref9_Truth.f, decide_eq_true_eq]
  by_cases z : topP t 1 = topP t 0
  · rw [if_pos z, if_pos z]; simp only [b1, if_true]; rw [W _ _ (by simp)]
  · rw [if_neg z, if_neg z]; simp only [b1, if_true]; rw [W _ _ (by simp)]

theorem ref_10 (K : Nat) (t : S58) (m : List (List S32)) (a : Int) (h : t.f3.length ≤ 100000000000) (hw : ∀ x ∈ t.f3, (Lit.int .i32 x).wf = true) (hat : atP t m = some ⟨10, a⟩) : confidantref9_Step.f K t m = some (stepP t m) := by
  have hp : popsP 10 = 0 := pops_at 10 10 rfl (by omega)
  have harg := arg_at 10 10 rfl (by omega)
  unfold confidantref9_Step.f stepP
  rw [rat_eq, hat]
  simp only [b3, chain0 t h, chain1 t h]
  simp only [lt, Int.reduceEq, Int.reduceLT, Int.reduceGT, if_false, if_true, Bool.false_eq_true, decide_false, decide_true, confidantref9_asks.f, confidantref9_pops.f, b2, b1]
  rw [if_neg (show ¬ ((t.f3.length : Int) < 0) by omega)]
  have hm : mayP t ⟨10, a⟩ = true := by
    unfold mayP
    rw [hp, decide_eq_true (show ((0 : Int) ≤ (t.f3.length : Int)) by omega)]
    simp only [List.getD_cons_succ, List.getD_cons_zero] at harg
    simp [harg]
  simp only [hm, if_true, doP, Int.reduceEq, Int.reduceLT, Int.reduceGT, if_false, if_true, Bool.false_eq_true, decide_false, decide_true]
  have W : ∀ (k : Int) (xs : List Int), xs.length ≤ 2 → confidantref9_went.f K t k xs = some (went, dropP t k xs) := fun k xs hx => went_eq K t k xs (by omega)
  rw [W _ _ (by simp)]

theorem ref_11 (K : Nat) (t : S58) (m : List (List S32)) (a : Int) (h : t.f3.length ≤ 100000000000) (hw : ∀ x ∈ t.f3, (Lit.int .i32 x).wf = true) (hat : atP t m = some ⟨11, a⟩) : confidantref9_Step.f K t m = some (stepP t m) := by
  have hp : popsP 11 = 1 := pops_at 11 11 rfl (by omega)
  have harg := arg_at 11 11 rfl (by omega)
  unfold confidantref9_Step.f stepP
  rw [rat_eq, hat]
  simp only [b3, chain0 t h, chain1 t h]
  simp only [lt, Int.reduceEq, Int.reduceLT, Int.reduceGT, if_false, if_true, Bool.false_eq_true, decide_false, decide_true, confidantref9_asks.f, confidantref9_pops.f, b2, b1]
  by_cases q : (t.f3.length : Int) < 1
  · rw [if_pos q]
    have hm : mayP t ⟨11, a⟩ = false := by unfold mayP; rw [hp, decide_eq_false (show ¬ ((1 : Int) ≤ (t.f3.length : Int)) by omega)]; simp
    simp only [hm, Bool.false_eq_true, if_false]; rfl
  rw [if_neg q]
  have hm : mayP t ⟨11, a⟩ = true := by
    unfold mayP
    rw [hp, decide_eq_true (show ((1 : Int) ≤ (t.f3.length : Int)) by omega)]
    simp only [List.getD_cons_succ, List.getD_cons_zero] at harg
    simp [harg]
  simp only [hm, if_true, doP, Int.reduceEq, Int.reduceLT, Int.reduceGT, if_false, if_true, Bool.false_eq_true, decide_false, decide_true]
  have e0 : topQ t 0 = topP t 0 := topQ_eq t 0 (by omega)
  have W : ∀ (k : Int) (xs : List Int), xs.length ≤ 2 → confidantref9_went.f K t k xs = some (went, dropP t k xs) := fun k xs hx => went_eq K t k xs (by omega)
  rw [W _ _ (by simp), e0]
  simp only [decide_eq_true_eq]
  by_cases z : topP t 0 = 0
  · rw [if_pos z, if_pos z]
  · rw [if_neg z, if_neg z]

theorem ref_12 (K : Nat) (t : S58) (m : List (List S32)) (a : Int) (h : t.f3.length ≤ 100000000000) (hw : ∀ x ∈ t.f3, (Lit.int .i32 x).wf = true) (hat : atP t m = some ⟨12, a⟩) : confidantref9_Step.f K t m = some (stepP t m) := by
  have hp : popsP 12 = 0 := pops_at 12 12 rfl (by omega)
  have harg := arg_at 12 12 rfl (by omega)
  unfold confidantref9_Step.f stepP
  rw [rat_eq, hat]
  simp only [b3, chain0 t h, chain1 t h]
  simp only [lt, Int.reduceEq, Int.reduceLT, Int.reduceGT, if_false, if_true, Bool.false_eq_true, decide_false, decide_true, confidantref9_asks.f, confidantref9_pops.f, b2, b1]
  rw [if_neg (show ¬ ((t.f3.length : Int) < 0) by omega)]
  have W : ∀ (k : Int) (xs : List Int), xs.length ≤ 2 → confidantref9_went.f K t k xs = some (went, dropP t k xs) := fun k xs hx => went_eq K t k xs (by omega)
  simp only [List.getD_cons_succ, List.getD_cons_zero] at harg
  by_cases g : 0 ≤ a ∧ a < 4
  · have hm : mayP t ⟨12, a⟩ = true := by
      unfold mayP
      rw [hp, decide_eq_true (show ((0 : Int) ≤ (t.f3.length : Int)) by omega)]
      simp [harg, g]
    simp only [hm, if_true, doP, Int.reduceEq, Int.reduceLT, Int.reduceGT, if_false, if_true, Bool.false_eq_true, decide_false, decide_true]
    rw [if_neg (show ¬ a < 0 by omega), if_neg (by simp; omega)]
    simp only [W _ _ (show [t.f4.f0].length ≤ 2 by simp), W _ _ (show [t.f4.f1].length ≤ 2 by simp), W _ _ (show [t.f4.f2].length ≤ 2 by simp), W _ _ (show [t.f4.f3].length ≤ 2 by simp)]
    unfold varP
    by_cases q0 : a = 0
    · rw [if_pos q0, if_pos q0]
    rw [if_neg q0, if_neg q0]
    by_cases q1 : a = 1
    · rw [if_pos q1, if_pos q1]
    rw [if_neg q1, if_neg q1]
    by_cases q2 : a = 2
    · rw [if_pos q2, if_pos q2]
    rw [if_neg q2, if_neg q2, if_pos (by omega)]
  · have hm : mayP t ⟨12, a⟩ = false := by
      unfold mayP
      simp [harg]; omega
    simp only [hm, Bool.false_eq_true, if_false]
    by_cases g1 : a < 0
    · rw [if_pos g1]; rfl
    · rw [if_neg g1, if_pos (by simp; omega)]; rfl

theorem ref_13 (K : Nat) (t : S58) (m : List (List S32)) (a : Int) (h : t.f3.length ≤ 100000000000) (hw : ∀ x ∈ t.f3, (Lit.int .i32 x).wf = true) (hat : atP t m = some ⟨13, a⟩) : confidantref9_Step.f K t m = some (stepP t m) := by
  have hp : popsP 13 = 1 := pops_at 13 13 rfl (by omega)
  have harg := arg_at 13 13 rfl (by omega)
  unfold confidantref9_Step.f stepP
  rw [rat_eq, hat]
  simp only [b3, chain0 t h, chain1 t h]
  simp only [lt, Int.reduceEq, Int.reduceLT, Int.reduceGT, if_false, if_true, Bool.false_eq_true, decide_false, decide_true, confidantref9_asks.f, confidantref9_pops.f, b2, b1]
  by_cases q : (t.f3.length : Int) < 1
  · rw [if_pos q]
    have hm : mayP t ⟨13, a⟩ = false := by unfold mayP; rw [hp, decide_eq_false (show ¬ ((1 : Int) ≤ (t.f3.length : Int)) by omega)]; simp
    simp only [hm, Bool.false_eq_true, if_false]; rfl
  rw [if_neg q]
  have e0 : topQ t 0 = topP t 0 := topQ_eq t 0 (by omega)
  have W : ∀ (k : Int) (xs : List Int), xs.length ≤ 2 → confidantref9_went.f K t k xs = some (went, dropP t k xs) := fun k xs hx => went_eq K t k xs (by omega)
  simp only [List.getD_cons_succ, List.getD_cons_zero] at harg
  by_cases g : 0 ≤ a ∧ a < 4
  · have hm : mayP t ⟨13, a⟩ = true := by
      unfold mayP
      rw [hp, decide_eq_true (show ((1 : Int) ≤ (t.f3.length : Int)) by omega)]
      simp [harg, g]
    simp only [hm, if_true, doP, Int.reduceEq, Int.reduceLT, Int.reduceGT, if_false, if_true, Bool.false_eq_true, decide_false, decide_true]
    rw [if_neg (show ¬ a < 0 by omega), if_neg (by simp; omega)]
    rw [W _ _ (by simp), e0]
    simp only
    unfold setP
    by_cases q0 : a = 0
    · rw [if_pos q0, if_pos q0]; rfl
    rw [if_neg q0, if_neg q0]
    by_cases q1 : a = 1
    · rw [if_pos q1, if_pos q1]; rfl
    rw [if_neg q1, if_neg q1]
    by_cases q2 : a = 2
    · rw [if_pos q2, if_pos q2]; rfl
    rw [if_neg q2, if_neg q2, if_pos (by omega)]; rfl
  · have hm : mayP t ⟨13, a⟩ = false := by
      unfold mayP
      simp [harg]; omega
    simp only [hm, Bool.false_eq_true, if_false]
    by_cases g1 : a < 0
    · rw [if_pos g1]; rfl
    · rw [if_neg g1, if_pos (by simp; omega)]; rfl

theorem ref_14 (K : Nat) (t : S58) (m : List (List S32)) (a : Int) (h : t.f3.length ≤ 100000000000) (hw : ∀ x ∈ t.f3, (Lit.int .i32 x).wf = true) (hat : atP t m = some ⟨14, a⟩) : confidantref9_Step.f K t m = some (stepP t m) := by
  have hp : popsP 14 = 0 := pops_at 14 14 rfl (by omega)
  have harg := arg_at 14 14 rfl (by omega)
  unfold confidantref9_Step.f stepP
  rw [rat_eq, hat]
  simp only [b3, chain0 t h, chain1 t h]
  simp only [lt, Int.reduceEq, Int.reduceLT, Int.reduceGT, if_false, if_true, Bool.false_eq_true, decide_false, decide_true, confidantref9_asks.f, confidantref9_pops.f, b2, b1]
  rw [if_neg (show ¬ ((t.f3.length : Int) < 0) by omega)]
  have hm : mayP t ⟨14, a⟩ = true := by
    unfold mayP
    rw [hp, decide_eq_true (show ((0 : Int) ≤ (t.f3.length : Int)) by omega)]
    simp only [List.getD_cons_succ, List.getD_cons_zero] at harg
    simp [harg]
  simp only [hm, if_true, doP, Int.reduceEq, Int.reduceLT, Int.reduceGT, if_false, if_true, Bool.false_eq_true, decide_false, decide_true]
  have W : ∀ (k : Int) (xs : List Int), xs.length ≤ 2 → confidantref9_went.f K t k xs = some (went, dropP t k xs) := fun k xs hx => went_eq K t k xs (by omega)
  rw [W _ _ (by simp)]

theorem ref_15 (K : Nat) (t : S58) (m : List (List S32)) (a : Int) (h : t.f3.length ≤ 100000000000) (hw : ∀ x ∈ t.f3, (Lit.int .i32 x).wf = true) (hat : atP t m = some ⟨15, a⟩) : confidantref9_Step.f K t m = some (stepP t m) := by
  have hp : popsP 15 = 0 := pops_at 15 15 rfl (by omega)
  have harg := arg_at 15 15 rfl (by omega)
  unfold confidantref9_Step.f stepP
  rw [rat_eq, hat]
  simp only [b3, chain0 t h, chain1 t h]
  simp only [lt, Int.reduceEq, Int.reduceLT, Int.reduceGT, if_false, if_true, Bool.false_eq_true, decide_false, decide_true, confidantref9_asks.f, confidantref9_pops.f, b2, b1]
  rw [if_neg (show ¬ ((t.f3.length : Int) < 0) by omega)]
  have hm : mayP t ⟨15, a⟩ = true := by
    unfold mayP
    rw [hp, decide_eq_true (show ((0 : Int) ≤ (t.f3.length : Int)) by omega)]
    simp only [List.getD_cons_succ, List.getD_cons_zero] at harg
    simp [harg]
  simp only [hm, if_true, doP, Int.reduceEq, Int.reduceLT, Int.reduceGT, if_false, if_true, Bool.false_eq_true, decide_false, decide_true]
  rfl

theorem ref_16 (K : Nat) (t : S58) (m : List (List S32)) (a : Int) (h : t.f3.length ≤ 100000000000) (hw : ∀ x ∈ t.f3, (Lit.int .i32 x).wf = true) (hat : atP t m = some ⟨16, a⟩) : confidantref9_Step.f K t m = some (stepP t m) := by
  have hp : popsP 16 = 1 := pops_at 16 16 rfl (by omega)
  have harg := arg_at 16 16 rfl (by omega)
  unfold confidantref9_Step.f stepP
  rw [rat_eq, hat]
  simp only [b3, chain0 t h, chain1 t h]
  simp only [lt, Int.reduceEq, Int.reduceLT, Int.reduceGT, if_false, if_true, Bool.false_eq_true, decide_false, decide_true, confidantref9_asks.f, confidantref9_pops.f, b2, b1]
  by_cases q : (t.f3.length : Int) < 1
  · rw [if_pos q]
    have hm : mayP t ⟨16, a⟩ = false := by unfold mayP; rw [hp, decide_eq_false (show ¬ ((1 : Int) ≤ (t.f3.length : Int)) by omega)]; simp
    simp only [hm, Bool.false_eq_true, if_false]; rfl
  rw [if_neg q]
  have hm : mayP t ⟨16, a⟩ = true := by
    unfold mayP
    rw [hp, decide_eq_true (show ((1 : Int) ≤ (t.f3.length : Int)) by omega)]
    simp only [List.getD_cons_succ, List.getD_cons_zero] at harg
    simp [harg]
  simp only [hm, if_true, doP, Int.reduceEq, Int.reduceLT, Int.reduceGT, if_false, if_true, Bool.false_eq_true, decide_false, decide_true]
  rfl

theorem ref_17 (K : Nat) (t : S58) (m : List (List S32)) (a : Int) (h : t.f3.length ≤ 100000000000) (hw : ∀ x ∈ t.f3, (Lit.int .i32 x).wf = true) (hat : atP t m = some ⟨17, a⟩) : confidantref9_Step.f K t m = some (stepP t m) := by
  have hp : popsP 17 = 1 := pops_at 17 17 rfl (by omega)
  have harg := arg_at 17 17 rfl (by omega)
  unfold confidantref9_Step.f stepP
  rw [rat_eq, hat]
  simp only [b3, chain0 t h, chain1 t h]
  simp only [lt, Int.reduceEq, Int.reduceLT, Int.reduceGT, if_false, if_true, Bool.false_eq_true, decide_false, decide_true, confidantref9_asks.f, confidantref9_pops.f, b2, b1]
  by_cases q : (t.f3.length : Int) < 1
  · rw [if_pos q]
    have hm : mayP t ⟨17, a⟩ = false := by unfold mayP; rw [hp, decide_eq_false (show ¬ ((1 : Int) ≤ (t.f3.length : Int)) by omega)]; simp
    simp only [hm, Bool.false_eq_true, if_false]; rfl
  rw [if_neg q]
  have hm : mayP t ⟨17, a⟩ = true := by
    unfold mayP
    rw [hp, decide_eq_true (show ((1 : Int) ≤ (t.f3.length : Int)) by omega)]
    simp only [List.getD_cons_succ, List.getD_cons_zero] at harg
    simp [harg]
  simp only [hm, if_true, doP, Int.reduceEq, Int.reduceLT, Int.reduceGT, if_false, if_true, Bool.false_eq_true, decide_false, decide_true]
  rfl

theorem ref_18 (K : Nat) (t : S58) (m : List (List S32)) (a : Int) (h : t.f3.length ≤ 100000000000) (hw : ∀ x ∈ t.f3, (Lit.int .i32 x).wf = true) (hat : atP t m = some ⟨18, a⟩) : confidantref9_Step.f K t m = some (stepP t m) := by
  have hp : popsP 18 = 1 := pops_at 18 18 rfl (by omega)
  have harg := arg_at 18 18 rfl (by omega)
  unfold confidantref9_Step.f stepP
  rw [rat_eq, hat]
  simp only [b3, chain0 t h, chain1 t h]
  simp only [lt, Int.reduceEq, Int.reduceLT, Int.reduceGT, if_false, if_true, Bool.false_eq_true, decide_false, decide_true, confidantref9_asks.f, confidantref9_pops.f, b2, b1]
  by_cases q : (t.f3.length : Int) < 1
  · rw [if_pos q]
    have hm : mayP t ⟨18, a⟩ = false := by unfold mayP; rw [hp, decide_eq_false (show ¬ ((1 : Int) ≤ (t.f3.length : Int)) by omega)]; simp
    simp only [hm, Bool.false_eq_true, if_false]; rfl
  rw [if_neg q]
  have hm : mayP t ⟨18, a⟩ = true := by
    unfold mayP
    rw [hp, decide_eq_true (show ((1 : Int) ≤ (t.f3.length : Int)) by omega)]
    simp only [List.getD_cons_succ, List.getD_cons_zero] at harg
    simp [harg]
  simp only [hm, if_true, doP, Int.reduceEq, Int.reduceLT, Int.reduceGT, if_false, if_true, Bool.false_eq_true, decide_false, decide_true]
  rfl

theorem ref_19 (K : Nat) (t : S58) (m : List (List S32)) (a : Int) (h : t.f3.length ≤ 100000000000) (hw : ∀ x ∈ t.f3, (Lit.int .i32 x).wf = true) (hat : atP t m = some ⟨19, a⟩) : confidantref9_Step.f K t m = some (stepP t m) := by
  have hp : popsP 19 = 2 := pops_at 19 19 rfl (by omega)
  have harg := arg_at 19 19 rfl (by omega)
  unfold confidantref9_Step.f stepP
  rw [rat_eq, hat]
  simp only [b3, chain0 t h, chain1 t h]
  simp only [lt, Int.reduceEq, Int.reduceLT, Int.reduceGT, if_false, if_true, Bool.false_eq_true, decide_false, decide_true, confidantref9_asks.f, confidantref9_pops.f, b2, b1]
  by_cases q : (t.f3.length : Int) < 2
  · rw [if_pos q]
    have hm : mayP t ⟨19, a⟩ = false := by unfold mayP; rw [hp, decide_eq_false (show ¬ ((2 : Int) ≤ (t.f3.length : Int)) by omega)]; simp
    simp only [hm, Bool.false_eq_true, if_false]; rfl
  rw [if_neg q]
  have hm : mayP t ⟨19, a⟩ = true := by
    unfold mayP
    rw [hp, decide_eq_true (show ((2 : Int) ≤ (t.f3.length : Int)) by omega)]
    simp only [List.getD_cons_succ, List.getD_cons_zero] at harg
    simp [harg]
  simp only [hm, if_true, doP, Int.reduceEq, Int.reduceLT, Int.reduceGT, if_false, if_true, Bool.false_eq_true, decide_false, decide_true]
  rfl

theorem ref_20 (K : Nat) (t : S58) (m : List (List S32)) (a : Int) (h : t.f3.length ≤ 100000000000) (hw : ∀ x ∈ t.f3, (Lit.int .i32 x).wf = true) (hat : atP t m = some ⟨20, a⟩) : confidantref9_Step.f K t m = some (stepP t m) := by
  have hp : popsP 20 = 2 := pops_at 20 20 rfl (by omega)
  have harg := arg_at 20 20 rfl (by omega)
  unfold confidantref9_Step.f stepP
  rw [rat_eq, hat]
  simp only [b3, chain0 t h, chain1 t h]
  simp only [lt, Int.reduceEq, Int.reduceLT, Int.reduceGT, if_false, if_true, Bool.false_eq_true, decide_false, decide_true, confidantref9_asks.f, confidantref9_pops.f, b2, b1]
  by_cases q : (t.f3.length : Int) < 2
  · rw [if_pos q]
    have hm : mayP t ⟨20, a⟩ = false := by unfold mayP; rw [hp, decide_eq_false (show ¬ ((2 : Int) ≤ (t.f3.length : Int)) by omega)]; simp
    simp only [hm, Bool.false_eq_true, if_false]; rfl
  rw [if_neg q]
  have hm : mayP t ⟨20, a⟩ = true := by
    unfold mayP
    rw [hp, decide_eq_true (show ((2 : Int) ≤ (t.f3.length : Int)) by omega)]
    simp only [List.getD_cons_succ, List.getD_cons_zero] at harg
    simp [harg]
  simp only [hm, if_true, doP, Int.reduceEq, Int.reduceLT, Int.reduceGT, if_false, if_true, Bool.false_eq_true, decide_false, decide_true]
  rfl

theorem ref_21 (K : Nat) (t : S58) (m : List (List S32)) (a : Int) (h : t.f3.length ≤ 100000000000) (hw : ∀ x ∈ t.f3, (Lit.int .i32 x).wf = true) (hat : atP t m = some ⟨21, a⟩) : confidantref9_Step.f K t m = some (stepP t m) := by
  have hp : popsP 21 = 1 := pops_at 21 21 rfl (by omega)
  have harg := arg_at 21 21 rfl (by omega)
  unfold confidantref9_Step.f stepP
  rw [rat_eq, hat]
  simp only [b3, chain0 t h, chain1 t h]
  simp only [lt, Int.reduceEq, Int.reduceLT, Int.reduceGT, if_false, if_true, Bool.false_eq_true, decide_false, decide_true, confidantref9_asks.f, confidantref9_pops.f, b2, b1]
  by_cases q : (t.f3.length : Int) < 1
  · rw [if_pos q]
    have hm : mayP t ⟨21, a⟩ = false := by unfold mayP; rw [hp, decide_eq_false (show ¬ ((1 : Int) ≤ (t.f3.length : Int)) by omega)]; simp
    simp only [hm, Bool.false_eq_true, if_false]; rfl
  rw [if_neg q]
  have hm : mayP t ⟨21, a⟩ = true := by
    unfold mayP
    rw [hp, decide_eq_true (show ((1 : Int) ≤ (t.f3.length : Int)) by omega)]
    simp only [List.getD_cons_succ, List.getD_cons_zero] at harg
    simp [harg]
  simp only [hm, if_true, doP, Int.reduceEq, Int.reduceLT, Int.reduceGT, if_false, if_true, Bool.false_eq_true, decide_false, decide_true]
  rfl

theorem ref_22 (K : Nat) (t : S58) (m : List (List S32)) (a : Int) (h : t.f3.length ≤ 100000000000) (hw : ∀ x ∈ t.f3, (Lit.int .i32 x).wf = true) (hat : atP t m = some ⟨22, a⟩) : confidantref9_Step.f K t m = some (stepP t m) := by
  have hp : popsP 22 = 1 := pops_at 22 22 rfl (by omega)
  have harg := arg_at 22 22 rfl (by omega)
  unfold confidantref9_Step.f stepP
  rw [rat_eq, hat]
  simp only [b3, chain0 t h, chain1 t h]
  simp only [lt, Int.reduceEq, Int.reduceLT, Int.reduceGT, if_false, if_true, Bool.false_eq_true, decide_false, decide_true, confidantref9_asks.f, confidantref9_pops.f, b2, b1]
  by_cases q : (t.f3.length : Int) < 1
  · rw [if_pos q]
    have hm : mayP t ⟨22, a⟩ = false := by unfold mayP; rw [hp, decide_eq_false (show ¬ ((1 : Int) ≤ (t.f3.length : Int)) by omega)]; simp
    simp only [hm, Bool.false_eq_true, if_false]; rfl
  rw [if_neg q]
  have hm : mayP t ⟨22, a⟩ = true := by
    unfold mayP
    rw [hp, decide_eq_true (show ((1 : Int) ≤ (t.f3.length : Int)) by omega)]
    simp only [List.getD_cons_succ, List.getD_cons_zero] at harg
    simp [harg]
  simp only [hm, if_true, doP, Int.reduceEq, Int.reduceLT, Int.reduceGT, if_false, if_true, Bool.false_eq_true, decide_false, decide_true]
  rfl

theorem ref_23 (K : Nat) (t : S58) (m : List (List S32)) (a : Int) (h : t.f3.length ≤ 100000000000) (hw : ∀ x ∈ t.f3, (Lit.int .i32 x).wf = true) (hat : atP t m = some ⟨23, a⟩) : confidantref9_Step.f K t m = some (stepP t m) := by
  have hp : popsP 23 = 1 := pops_at 23 23 rfl (by omega)
  have harg := arg_at 23 23 rfl (by omega)
  unfold confidantref9_Step.f stepP
  rw [rat_eq, hat]
  simp only [b3, chain0 t h, chain1 t h]
  simp only [lt, Int.reduceEq, Int.reduceLT, Int.reduceGT, if_false, if_true, Bool.false_eq_true, decide_false, decide_true, confidantref9_asks.f, confidantref9_pops.f, b2, b1]
  by_cases q : (t.f3.length : Int) < 1
  · rw [if_pos q]
    have hm : mayP t ⟨23, a⟩ = false := by unfold mayP; rw [hp, decide_eq_false (show ¬ ((1 : Int) ≤ (t.f3.length : Int)) by omega)]; simp
    simp only [hm, Bool.false_eq_true, if_false]; rfl
  rw [if_neg q]
  have hm : mayP t ⟨23, a⟩ = true := by
    unfold mayP
    rw [hp, decide_eq_true (show ((1 : Int) ≤ (t.f3.length : Int)) by omega)]
    simp only [List.getD_cons_succ, List.getD_cons_zero] at harg
    simp [harg]
  simp only [hm, if_true, doP, Int.reduceEq, Int.reduceLT, Int.reduceGT, if_false, if_true, Bool.false_eq_true, decide_false, decide_true]
  rfl

theorem ref_24 (K : Nat) (t : S58) (m : List (List S32)) (a : Int) (h : t.f3.length ≤ 100000000000) (hw : ∀ x ∈ t.f3, (Lit.int .i32 x).wf = true) (hat : atP t m = some ⟨24, a⟩) : confidantref9_Step.f K t m = some (stepP t m) := by
  have hp : popsP 24 = 0 := pops_at 24 24 rfl (by omega)
  have harg := arg_at 24 24 rfl (by omega)
  unfold confidantref9_Step.f stepP
  rw [rat_eq, hat]
  simp only [b3, chain0 t h, chain1 t h]
  simp only [lt, Int.reduceEq, Int.reduceLT, Int.reduceGT, if_false, if_true, Bool.false_eq_true, decide_false, decide_true, confidantref9_asks.f, confidantref9_pops.f, b2, b1]
  rw [if_neg (show ¬ ((t.f3.length : Int) < 0) by omega)]
  have hm : mayP t ⟨24, a⟩ = true := by
    unfold mayP
    rw [hp, decide_eq_true (show ((0 : Int) ≤ (t.f3.length : Int)) by omega)]
    simp only [List.getD_cons_succ, List.getD_cons_zero] at harg
    simp [harg]
  simp only [hm, if_true, doP, Int.reduceEq, Int.reduceLT, Int.reduceGT, if_false, if_true, Bool.false_eq_true, decide_false, decide_true]
  rfl

theorem ref_25 (K : Nat) (t : S58) (m : List (List S32)) (a : Int) (h : t.f3.length ≤ 100000000000) (hw : ∀ x ∈ t.f3, (Lit.int .i32 x).wf = true) (hat : atP t m = some ⟨25, a⟩) : confidantref9_Step.f K t m = some (stepP t m) := by
  have hp : popsP 25 = 1 := pops_at 25 25 rfl (by omega)
  have harg := arg_at 25 25 rfl (by omega)
  unfold confidantref9_Step.f stepP
  rw [rat_eq, hat]
  simp only [b3, chain0 t h, chain1 t h]
  simp only [lt, Int.reduceEq, Int.reduceLT, Int.reduceGT, if_false, if_true, Bool.false_eq_true, decide_false, decide_true, confidantref9_asks.f, confidantref9_pops.f, b2, b1]
  by_cases q : (t.f3.length : Int) < 1
  · rw [if_pos q]
    have hm : mayP t ⟨25, a⟩ = false := by unfold mayP; rw [hp, decide_eq_false (show ¬ ((1 : Int) ≤ (t.f3.length : Int)) by omega)]; simp
    simp only [hm, Bool.false_eq_true, if_false]; rfl
  rw [if_neg q]
  have hm : mayP t ⟨25, a⟩ = true := by
    unfold mayP
    rw [hp, decide_eq_true (show ((1 : Int) ≤ (t.f3.length : Int)) by omega)]
    simp only [List.getD_cons_succ, List.getD_cons_zero] at harg
    simp [harg]
  simp only [hm, if_true, doP, Int.reduceEq, Int.reduceLT, Int.reduceGT, if_false, if_true, Bool.false_eq_true, decide_false, decide_true]
  have e0 : topQ t 0 = topP t 0 := topQ_eq t 0 (by omega)
  have W : ∀ (k : Int) (xs : List Int), xs.length ≤ 2 → confidantref9_went.f K t k xs = some (went, dropP t k xs) := fun k xs hx => went_eq K t k xs (by omega)
  rw [e0]

theorem ref_26 (K : Nat) (t : S58) (m : List (List S32)) (a : Int) (h : t.f3.length ≤ 100000000000) (hw : ∀ x ∈ t.f3, (Lit.int .i32 x).wf = true) (hat : atP t m = some ⟨26, a⟩) : confidantref9_Step.f K t m = some (stepP t m) := by
  have hp : popsP 26 = 0 := pops_at 26 26 rfl (by omega)
  have harg := arg_at 26 26 rfl (by omega)
  unfold confidantref9_Step.f stepP
  rw [rat_eq, hat]
  simp only [b3, chain0 t h, chain1 t h]
  simp only [lt, Int.reduceEq, Int.reduceLT, Int.reduceGT, if_false, if_true, Bool.false_eq_true, decide_false, decide_true, confidantref9_asks.f, confidantref9_pops.f, b2, b1]
  rw [if_neg (show ¬ ((t.f3.length : Int) < 0) by omega)]
  have hm : mayP t ⟨26, a⟩ = true := by
    unfold mayP
    rw [hp, decide_eq_true (show ((0 : Int) ≤ (t.f3.length : Int)) by omega)]
    simp only [List.getD_cons_succ, List.getD_cons_zero] at harg
    simp [harg]
  simp only [hm, if_true, doP, Int.reduceEq, Int.reduceLT, Int.reduceGT, if_false, if_true, Bool.false_eq_true, decide_false, decide_true]
  have W : ∀ (k : Int) (xs : List Int), xs.length ≤ 2 → confidantref9_went.f K t k xs = some (went, dropP t k xs) := fun k xs hx => went_eq K t k xs (by omega)
  rfl

theorem ref_eq (K : Nat) (t : S58) (m : List (List S32)) (h : t.f3.length ≤ 100000000000) (hw : ∀ x ∈ t.f3, (Lit.int .i32 x).wf = true) : confidantref9_Step.f K t m = some (stepP t m) := by
  cases hat : atP t m with
  | none => exact ref_none K t m hat
  | some i =>
    obtain ⟨o, a⟩ := i
    by_cases ho : 1 ≤ o ∧ o ≤ 26
    · rcases (by omega : o = 1 ∨ o = 2 ∨ o = 3 ∨ o = 4 ∨ o = 5 ∨ o = 6 ∨ o = 7 ∨ o = 8 ∨ o = 9 ∨ o = 10 ∨ o = 11 ∨ o = 12 ∨ o = 13 ∨ o = 14 ∨ o = 15 ∨ o = 16 ∨ o = 17 ∨ o = 18 ∨ o = 19 ∨ o = 20 ∨ o = 21 ∨ o = 22 ∨ o = 23 ∨ o = 24 ∨ o = 25 ∨ o = 26) with rfl | rfl | rfl | rfl | rfl | rfl | rfl | rfl | rfl | rfl | rfl | rfl | rfl | rfl | rfl | rfl | rfl | rfl | rfl | rfl | rfl | rfl | rfl | rfl | rfl | rfl
      · exact ref_1 K t m a h hw hat
      · exact ref_2 K t m a h hw hat
      · exact ref_3 K t m a h hw hat
      · exact ref_4 K t m a h hw hat
      · exact ref_5 K t m a h hw hat
      · exact ref_6 K t m a h hw hat
      · exact ref_7 K t m a h hw hat
      · exact ref_8 K t m a h hw hat
      · exact ref_9 K t m a h hw hat
      · exact ref_10 K t m a h hw hat
      · exact ref_11 K t m a h hw hat
      · exact ref_12 K t m a h hw hat
      · exact ref_13 K t m a h hw hat
      · exact ref_14 K t m a h hw hat
      · exact ref_15 K t m a h hw hat
      · exact ref_16 K t m a h hw hat
      · exact ref_17 K t m a h hw hat
      · exact ref_18 K t m a h hw hat
      · exact ref_19 K t m a h hw hat
      · exact ref_20 K t m a h hw hat
      · exact ref_21 K t m a h hw hat
      · exact ref_22 K t m a h hw hat
      · exact ref_23 K t m a h hw hat
      · exact ref_24 K t m a h hw hat
      · exact ref_25 K t m a h hw hat
      · exact ref_26 K t m a h hw hat
    · exact ref_out K t m o a hat ho
end Go.Proofs.Ytlcnkngpankkpaa.Task
