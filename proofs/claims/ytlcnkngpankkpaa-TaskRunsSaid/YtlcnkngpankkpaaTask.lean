import Derived.Test.YtlcnkngpankkpaaG0
import Derived.Test.YtlcnkngpankkpaaG1
import Derived.Test.YtlcnkngpankkpaaFwLaw
/- What a step of a task comes to, in plain words. Conditions: in the lemmas (a stack of at most 10^12 values). -/
set_option linter.unusedVariables false
set_option linter.unusedSimpArgs false
namespace Go.Proofs.Ytlcnkngpankkpaa.Task
open Go Go.Fw Go.RowKit Go.Proofs.Ytlcnkngpankkpaa.G

theorem b1_some {α γ : Type} (a : α) (f : α → Option γ) : b1 (some a) f = f a := rfl
def dropP (t : S58) (k : Int) (xs : List Int) : S58 := {t with f2 := IntKind.i64.wrap (t.f2 + 1), f3 := t.f3.take ((t.f3.length : Int) - mn (mx k 0) (t.f3.length : Int)).toNat ++ xs}
def topP (t : S58) (k : Nat) : Int := t.f3.getD (t.f3.length - 1 - k) 0

theorem clone_eq (K : Nat) (l : List Int) (h : l.length ≤ 1000000000000) : slices_Clone_int32_int32.f K l = some l := by
  unfold slices_Clone_int32_int32.f
  simp only [lt, List.nil_append, List.length_nil, Nat.zero_add]
  rw [if_pos (by omega)]
theorem mnx (k : Int) (n : Nat) : 0 ≤ mn (mx k 0) (n : Int) ∧ mn (mx k 0) (n : Int) ≤ n := by
  unfold mn mx; split <;> split <;> omega
theorem drop_eq (K : Nat) (t : S58) (k : Int) (xs : List Int) (h : t.f3.length + xs.length ≤ 1000000000000) : task_Drop.f K t k xs = some (dropP t k xs) := by
  unfold task_Drop.f
  have hm := mnx k t.f3.length
  simp only [lt]
  rw [w64_id (by omega) (by omega), if_pos (by omega), if_pos (by omega), clone_eq _ _ (by rw [List.length_take]; omega)]
  simp only [b1]
  rw [if_pos (by rw [List.length_take]; omega)]
  rfl
theorem top_eq (K : Nat) (t : S58) (a : Int) (k : Nat) (hk : k < t.f3.length) (h : t.f3.length ≤ 1000000000000) : task_act_top.f K ⟨t, a⟩ (k : Int) = some (topP t k) := by
  unfold task_act_top.f
  simp only [lt]
  rw [w64_id (x := (t.f3.length : Int) - 1) (by omega) (by omega), w64_id (by omega) (by omega), if_pos (by omega), if_pos (by omega)]
  unfold topP
  congr 2
  omega

/-- the instruction that a task stands at -/
def atP (t : S58) (m : List (List S32)) : Option S32 := if 0 ≤ t.f1 ∧ t.f1 < (m.length : Int) ∧ 0 ≤ t.f2 ∧ t.f2 < ((m.getD t.f1.toNat []).length : Int) then some ((m.getD t.f1.toNat []).getD t.f2.toNat zS32) else none
def popsP (o : Int) : Int := match ops_Pops.f 0 o with | some x => x | none => 0
def argP (o : Int) : Int := match ops_Arg.f 0 o with | some x => x | none => 0
def mayP (t : S58) (i : S32) : Bool := decide (1 ≤ i.f0 ∧ i.f0 ≤ 26) && decide (popsP i.f0 ≤ t.f3.length) && decide (argP i.f0 ≠ 3 ∨ 0 ≤ i.f1 ∧ i.f1 < 4)

theorem known_eq (K : Nat) (o : Int) : ops_Known.f K o = some (decide (1 ≤ o ∧ o ≤ 26)) := by
  unfold ops_Known.f
  by_cases h : o ≥ 1
  · rw [if_pos h]; congr 1; simp; omega
  · rw [if_neg h]; congr 1; simp; omega
theorem of_some (K : Nat) (o : Int) : ∃ s, ops_of.f K o = some s ∧ ops_of.f 0 o = some s := by
  unfold ops_of.f
  rw [known_eq, known_eq]
  simp only [b1, lt]
  by_cases h : 1 ≤ o ∧ o ≤ 26
  · rw [if_pos (by simpa using h), if_pos (by omega), if_pos (by simp; omega)]
    exact ⟨_, rfl, rfl⟩
  · rw [if_neg (by simpa using h)]
    exact ⟨_, rfl, rfl⟩
theorem pops_eq (K : Nat) (o : Int) : ops_Pops.f K o = some (popsP o) := by
  obtain ⟨s, h1, h2⟩ := of_some K o
  unfold popsP ops_Pops.f
  rw [h1, h2]; rfl
theorem arg_eq (K : Nat) (o : Int) : ops_Arg.f K o = some (argP o) := by
  obtain ⟨s, h1, h2⟩ := of_some K o
  unfold argP ops_Arg.f
  rw [h1, h2]; rfl

theorem at_eq (K : Nat) (t : S58) (m : List (List S32)) : task_at.f K t m = match atP t m with | some i => some (i.f0, i.f1, mayP t i) | none => some (0, 0, false) := by
  unfold task_at.f atP
  simp only [lt]
  by_cases h1 : t.f1 < 0
  · rw [if_pos h1, if_pos trivial, if_neg (by omega)]
  rw [if_neg h1]
  by_cases h2 : t.f1 ≥ (m.length : Int)
  · rw [if_pos h2, if_pos trivial, if_neg (by omega)]
  rw [if_neg h2]
  by_cases h3 : t.f2 < 0
  · rw [if_pos h3, if_pos trivial, if_neg (by omega)]
  rw [if_neg h3, if_pos (by omega), if_pos (by omega)]
  by_cases h4 : t.f2 ≥ ((m.getD t.f1.toNat []).length : Int)
  · rw [if_pos (by simpa using h4), if_neg (by omega)]
  have hr : 0 ≤ t.f1 ∧ t.f1 < (m.length : Int) ∧ 0 ≤ t.f2 ∧ t.f2 < ((m.getD t.f1.toNat []).length : Int) := by omega
  rw [if_pos hr, if_neg (by simpa using h4), if_pos hr.1, if_pos hr.2.1, if_pos hr.2.2.1, if_pos hr.2.2.2]
  clear hr
  generalize (m.getD t.f1.toNat []).getD t.f2.toNat zS32 = i
  rw [arg_eq, known_eq, pops_eq]
  simp only [b1]
  unfold mayP
  by_cases k1 : argP i.f0 = 3
  · rw [if_pos k1]
    by_cases k2 : i.f1 ≥ 0
    · rw [if_pos k2]
      by_cases k3 : 1 ≤ i.f0 ∧ i.f0 ≤ 26
      · rw [if_pos (by simpa using k3)]
        by_cases k4 : (t.f3.length : Int) ≥ popsP i.f0
        · rw [if_pos k4]; simp [k1, k2, k3, k4]
        · rw [if_neg k4]; simp [k3]; omega
      · rw [if_neg (by simpa using k3)]; simp; omega
    · rw [if_neg k2]
      by_cases k3 : 1 ≤ i.f0 ∧ i.f0 ≤ 26
      · rw [if_pos (by simpa using k3)]
        by_cases k4 : (t.f3.length : Int) ≥ popsP i.f0
        · rw [if_pos k4]; simp [k1]; omega
        · rw [if_neg k4]; simp [k3]; omega
      · rw [if_neg (by simpa using k3)]; simp; omega
  · rw [if_neg k1]
    by_cases k3 : 1 ≤ i.f0 ∧ i.f0 ≤ 26
    · rw [if_pos (by simpa using k3)]
      by_cases k4 : (t.f3.length : Int) ≥ popsP i.f0
      · rw [if_pos k4]; simp [k1, k3, k4]
      · rw [if_neg k4]; simp [k3]; omega
    · rw [if_neg (by simpa using k3)]; simp; omega

/-- a variable -/
def varP (t : S58) (a : Int) : Int := if a = 0 then t.f4.f0 else if a = 1 then t.f4.f1 else if a = 2 then t.f4.f2 else t.f4.f3
def setP (v : S55) (a x : Int) : S55 := if a = 0 then {v with f0 := x} else if a = 1 then {v with f1 := x} else if a = 2 then {v with f2 := x} else {v with f3 := x}
def went : S63 := ⟨1, 0, 0⟩
/-- what an instruction does -/
def doP (t : S58) (o a : Int) : S63 × S58 :=
  if o = 1 then (went, dropP t 0 [a]) else if o = 2 then (went, dropP t 1 []) else if o = 3 then (went, dropP t 0 [topP t 0])
  else if o = 10 then (went, {dropP t 0 [] with f2 := IntKind.i64.wrap a}) else if o = 11 then (went, if topP t 0 = 0 then {dropP t 1 [] with f2 := IntKind.i64.wrap a} else dropP t 1 [])
  else if o = 12 then (went, dropP t 0 [varP t a]) else if o = 13 then (went, {dropP t 1 [] with f4 := setP t.f4 a (topP t 0)}) else if o = 14 then (went, dropP t 0 [IntKind.i32.wrap t.f5])
  else if o = 4 then (went, dropP t 2 [IntKind.i32.wrap (topP t 1 + topP t 0)]) else if o = 5 then (went, dropP t 2 [IntKind.i32.wrap (topP t 1 - topP t 0)]) else if o = 6 then (went, dropP t 2 [IntKind.i32.wrap (topP t 1 * topP t 0)])
  else if o = 8 then (went, dropP t 2 [if topP t 1 < topP t 0 then 1 else 0]) else if o = 9 then (went, dropP t 2 [if topP t 1 = topP t 0 then 1 else 0])
  else if o = 7 then (if topP t 0 = 0 then (⟨3, 0, 32⟩, t) else (went, dropP t 2 [IntKind.i32.wrap (Int.tdiv (topP t 1) (topP t 0))]))
  else if o = 25 then (⟨2, topP t 0, 0⟩, t) else if o = 26 then (⟨3, 0, IntKind.i64.wrap a⟩, t) else (⟨4, 0, 0⟩, t)
def stepP (t : S58) (m : List (List S32)) : S63 × S58 := match atP t m with
  | none => (⟨3, 0, 24⟩, t)
  | some i => if mayP t i = true then doP t i.f0 i.f1 else (⟨3, 0, 24⟩, t)

theorem pops_all : ∀ o : Fin 27, popsP ((o.val : Nat) : Int) = [0, 0, 1, 1, 2, 2, 2, 2, 2, 2, 0, 1, 0, 1, 0, 0, 1, 1, 1, 2, 2, 1, 1, 1, 0, 1, 0].getD o.val 0 ∧ argP ((o.val : Nat) : Int) = [0, 1, 0, 0, 0, 0, 0, 0, 0, 0, 2, 2, 3, 3, 0, 4, 4, 4, 0, 0, 5, 0, 4, 6, 6, 0, 1].getD o.val 0 := by decide +kernel
theorem pops_at (o : Int) (n : Nat) (h : o = n) (hn : n < 27) : popsP o = [0, 0, 1, 1, 2, 2, 2, 2, 2, 2, 0, 1, 0, 1, 0, 0, 1, 1, 1, 2, 2, 1, 1, 1, 0, 1, 0].getD n 0 := by subst h; exact (pops_all ⟨n, hn⟩).1
theorem arg_at (o : Int) (n : Nat) (h : o = n) (hn : n < 27) : argP o = [0, 1, 0, 0, 0, 0, 0, 0, 0, 0, 2, 2, 3, 3, 0, 4, 4, 4, 0, 0, 5, 0, 4, 6, 6, 0, 1].getD n 0 := by subst h; exact (pops_all ⟨n, hn⟩).2

theorem step_eq (K : Nat) (t : S58) (m : List (List S32)) (h : t.f3.length ≤ 100000000000) : task_Step.f K t m = some (stepP t m) := by
  unfold task_Step.f stepP
  rw [at_eq]
  cases hat : atP t m with
  | none => simp only [b3]; rfl
  | some i =>
    obtain ⟨o, a⟩ := i
    simp only [b3]
    cases hm : mayP t ⟨o, a⟩ with
    | false => simp only [Bool.false_eq_true, if_false]; rfl
    | true =>
      rw [if_pos (rfl : (true : Bool) = true), if_pos (rfl : (true : Bool) = true)]
      have hmay : (1 ≤ o ∧ o ≤ 26) ∧ popsP o ≤ t.f3.length ∧ (argP o ≠ 3 ∨ 0 ≤ a ∧ a < 4) := by
        simpa [mayP, and_assoc] using hm
      obtain ⟨⟨r1, r2⟩, r3, r4⟩ := hmay
      have D : ∀ (k : Int) (xs : List Int), xs.length ≤ 2 → task_Drop.f K t k xs = some (dropP t k xs) := fun k xs hx => drop_eq K t k xs (by omega)
      unfold doP
      by_cases e : o = 1
      · rw [if_pos e, if_pos e]; simp only [task_acts.f, b1, task_act_push.f, lt]; rw [D _ _ (by simp)]; rfl
      rw [if_neg e, if_neg e]; clear e
      by_cases e : o = 2
      · rw [if_pos e, if_pos e]; simp only [task_acts.f, b1, task_act_pop.f, lt]; rw [D _ _ (by simp)]; rfl
      rw [if_neg e, if_neg e]; clear e
      by_cases e : o = 3
      · rw [if_pos e, if_pos e]
        have := pops_at o 3 e (by omega)
        have T0 : task_act_top.f K ⟨t, a⟩ 0 = some (topP t 0) := top_eq K t a 0 (by simp at this; omega) (by omega)
        simp only [task_acts.f, b1, task_act_dup.f, lt, T0]; rw [D _ _ (by simp)]; rfl
      rw [if_neg e, if_neg e]; clear e
      by_cases e : o = 10
      · rw [if_pos e, if_pos e]; simp only [task_acts.f, b1, task_act_jump.f, lt]; rw [D _ _ (by simp)]; rfl
      rw [if_neg e, if_neg e]; clear e
      by_cases e : o = 11
      · rw [if_pos e, if_pos e]
        have := pops_at o 11 e (by omega)
        have T0 : task_act_top.f K ⟨t, a⟩ 0 = some (topP t 0) := top_eq K t a 0 (by simp at this; omega) (by omega)
        simp only [task_acts.f, b1, task_act_jumpZ.f, lt, T0]; rw [D _ _ (by simp)]
        simp only
        by_cases q : topP t 0 = 0
        · rw [if_pos q, if_pos q]; rfl
        · rw [if_neg q, if_neg q]; rfl
      rw [if_neg e, if_neg e]; clear e
      by_cases e : o = 12
      · rw [if_pos e, if_pos e]
        have ha : 0 ≤ a ∧ a < 4 := by
          have := arg_at o 12 e (by omega)
          rcases r4 with r4 | r4
          · exact absurd this r4
          · exact r4
        simp only [task_acts.f, b1, task_act_load.f, lt]
        rw [D _ _ (by simp), D _ _ (by simp), D _ _ (by simp), D _ _ (by simp)]
        unfold varP
        by_cases q0 : a = 0
        · rw [if_pos q0, if_pos q0]; rfl
        rw [if_neg q0, if_neg q0]
        by_cases q1 : a = 1
        · rw [if_pos q1, if_pos q1]; rfl
        rw [if_neg q1, if_neg q1]
        by_cases q2 : a = 2
        · rw [if_pos q2, if_pos q2]; rfl
        rw [if_neg q2, if_neg q2, if_pos (by omega)]; rfl
      rw [if_neg e, if_neg e]; clear e
      by_cases e : o = 13
      · rw [if_pos e, if_pos e]
        have ha : 0 ≤ a ∧ a < 4 := by
          have := arg_at o 13 e (by omega)
          rcases r4 with r4 | r4
          · exact absurd this r4
          · exact r4
        have := pops_at o 13 e (by omega)
        have T0 : ∀ a, task_act_top.f K ⟨t, a⟩ 0 = some (topP t 0) := fun a => top_eq K t a 0 (by simp at this; omega) (by omega)
        simp only [task_acts.f, b1, task_act_store.f, lt, T0]
        rw [D _ _ (by simp)]
        simp only
        unfold setP
        by_cases q0 : a = 0
        · rw [if_pos q0, if_pos q0]; rfl
        rw [if_neg q0, if_neg q0]
        by_cases q1 : a = 1
        · rw [if_pos q1, if_pos q1]; rfl
        rw [if_neg q1, if_neg q1]
        by_cases q2 : a = 2
        · rw [if_pos q2, if_pos q2]; rfl
        rw [if_neg q2, if_neg q2, if_pos (by omega)]; rfl
      rw [if_neg e, if_neg e]; clear e
      by_cases e : o = 14
      · rw [if_pos e, if_pos e]; simp only [task_acts.f, b1, task_act_label.f, lt]; rw [D _ _ (by simp)]; rfl
      rw [if_neg e, if_neg e]; clear e
      rw [if_pos (by omega), if_pos (by omega)]
      have TT : 2 ≤ t.f3.length → task_act_top.f K ⟨t, a⟩ 0 = some (topP t 0) ∧ task_act_top.f K ⟨t, a⟩ 1 = some (topP t 1) := fun h2 => ⟨top_eq K t a 0 (by omega) (by omega), top_eq K t a 1 (by omega) (by omega)⟩
      unfold task_acts.f
      rw [b1_some]
      by_cases e : o = 4
      · rw [if_pos e, if_pos e]
        have := pops_at o 4 e (by omega)
        obtain ⟨T0, T1⟩ := TT (by simp at this; omega)
        simp only [task_two.f, T0, T1, word_Add.f, word_num_add.f, b1, lt]; rw [D _ _ (by simp)]; rfl
      rw [if_neg e, if_neg e]; clear e
      by_cases e : o = 5
      · rw [if_pos e, if_pos e]
        have := pops_at o 5 e (by omega)
        obtain ⟨T0, T1⟩ := TT (by simp at this; omega)
        simp only [task_two.f, T0, T1, word_Sub.f, word_num_sub.f, b1, lt]; rw [D _ _ (by simp)]; rfl
      rw [if_neg e, if_neg e]; clear e
      by_cases e : o = 6
      · rw [if_pos e, if_pos e]
        have := pops_at o 6 e (by omega)
        obtain ⟨T0, T1⟩ := TT (by simp at this; omega)
        simp only [task_two.f, T0, T1, word_Mul.f, word_num_mul.f, b1, lt]; rw [D _ _ (by simp)]; rfl
      rw [if_neg e, if_neg e]; clear e
      by_cases e : o = 8
      · rw [if_pos e, if_pos e]
        have := pops_at o 8 e (by omega)
        obtain ⟨T0, T1⟩ := TT (by simp at this; omega)
        simp only [task_two.f, T0, T1, word_Less.f, word_num_less.f, word_truth.f, b1, lt, decide_eq_true_eq]
        by_cases q : topP t 1 < topP t 0
        · rw [if_pos q, if_pos q]; simp only []; rw [D _ _ (by simp)]; rfl
        · rw [if_neg q, if_neg q]; simp only []; rw [D _ _ (by simp)]; rfl
      rw [if_neg e, if_neg e]; clear e
      by_cases e : o = 9
      · rw [if_pos e, if_pos e]
        have := pops_at o 9 e (by omega)
        obtain ⟨T0, T1⟩ := TT (by simp at this; omega)
        simp only [task_two.f, T0, T1, word_Eq.f, word_num_eq.f, word_truth.f, b1, lt, decide_eq_true_eq]
        by_cases q : topP t 1 = topP t 0
        · rw [if_pos q, if_pos q]; simp only []; rw [D _ _ (by simp)]; rfl
        · rw [if_neg q, if_neg q]; simp only []; rw [D _ _ (by simp)]; rfl
      rw [if_neg e, if_neg e]; clear e
      unfold task_two.f
      rw [b1_some]
      by_cases e : o = 7
      · rw [if_pos e, if_pos e]
        have := pops_at o 7 e (by omega)
        obtain ⟨T0, T1⟩ := TT (by simp at this; omega)
        simp only [T0, T1, word_Div.f, b2, b1, lt]
        by_cases q : topP t 0 = 0
        · rw [if_pos q, if_pos q]; rfl
        · rw [if_neg q, if_neg q]; simp only [if_true]; rw [D _ _ (by simp)]; rfl
      rw [if_neg e, if_neg e]; clear e
      by_cases e : o = 25
      · rw [if_pos e, if_pos e]
        have := pops_at o 25 e (by omega)
        have T0 : task_act_top.f K ⟨t, a⟩ 0 = some (topP t 0) := top_eq K t a 0 (by simp at this; omega) (by omega)
        simp only [T0, b1]
      rw [if_neg e, if_neg e]; clear e
      by_cases e : o = 26
      · rw [if_pos e, if_pos e]; rfl
      rw [if_neg e, if_neg e]; rfl
end Go.Proofs.Ytlcnkngpankkpaa.Task
