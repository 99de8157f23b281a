import Derived.Test.YtepokhmomojcmaaRng
import Derived.Test.YtepokhmomojcmaaFwLaw
/- Each seed's numbers, one behind another. No condition. -/
set_option linter.unusedVariables false
set_option linter.unusedSimpArgs false
namespace Go.Proofs.Ytepokhmomojcmaa.Pure
open Go Go.Fw Go.RowKit Go.Proofs.Ytepokhmomojcmaa.G Go.Proofs.Ytepokhmomojcmaa.Rng

theorem rt_below (K : Nat) {s v : Int} (hs : U s) (hv : v < 9223372036854775808) : rng_Rng_Below.f K s v = if v < 1 then some (s, 0) else some (I (stp (V s)), IntKind.i64.wrap (Int.tmod (I (stp (V s))) v)) := by
  unfold rng_Rng_Below.f
  by_cases h : v < 1
  · rw [if_pos h, if_pos h]
  · rw [if_neg h, if_neg h, next_f K hs]
    simp only [b2]
    rw [wu64_id (by omega) (by omega), if_neg (by omega)]

theorem rt_step (K : Nat) (l : List Int) (j : Int → Option Bool) (n : Nat) (s i : Int) (hl : ∀ x ∈ l, (Lit.int .i64 x).wf = true) (hs : U s) (h0 : 0 ≤ i) (h1 : i < (l.length : Int)) (h2 : (l.length : Int) ≤ 40) :
    ∃ s', U s' ∧ confidantlaw16_RngTells.l0 K l j (n + 1) s s i = confidantlaw16_RngTells.l0 K l j n s' s' (i + 1) := by
  rw [confidantlaw16_RngTells.l0.eq_2, if_pos h1]
  simp only [lt]
  rw [if_pos h0, w64_id (x := i + 1) (by omega) (by omega)]
  have hx : -9223372036854775808 ≤ l.getD i.toNat 0 ∧ l.getD i.toNat 0 ≤ 9223372036854775807 := by
    unfold List.getD
    cases hn : l[i.toNat]? with
    | none => simp
    | some x => exact is_i64 (hl x (List.mem_of_getElem? hn))
  generalize l.getD i.toNat 0 = x at hx ⊢
  have hb : -9223372036854775808 ≤ bA .i64 x 15 ∧ bA .i64 x 15 ≤ 9223372036854775807 := by unfold bA; rw [w64]; omega
  have key : ∀ v : Int, v ≤ 9223372036854775807 → ∃ s', U s' ∧ (if Int.tmod i 4 = 3 then
        b1 (confidantref15_Step.f K s) fun t3590 => b2 (rng_Rng_Next.f K s) fun t3595 t3596 => if t3596 = t3590 then confidantlaw16_RngTells.l0 K l j n t3595 t3590 (i + 1) else some false
      else if v > 0 then
          b1 (confidantref15_Step.f K s) fun t3617 => if IntKind.u64.wrap v = 0 then none else b2 (rng_Rng_Below.f K s v) fun t3623 t3624 => if t3624 = IntKind.i64.wrap (Int.tmod t3617 (IntKind.u64.wrap v)) then confidantlaw16_RngTells.l0 K l j n t3623 t3617 (i + 1) else some false
        else b2 (rng_Rng_Below.f K s v) fun t3623 t3624 => if t3624 = 0 then confidantlaw16_RngTells.l0 K l j n t3623 s (i + 1) else some false) = confidantlaw16_RngTells.l0 K l j n s' s' (i + 1) := by
    intro v hv
    by_cases h4 : Int.tmod i 4 = 3
    · refine ⟨I (stp (V s)), U_I _, ?_⟩
      rw [if_pos h4, ref_f K hs, next_f K hs]
      simp [b1, b2]
    · rw [if_neg h4, rt_below K hs (by omega)]
      by_cases hv0 : v > 0
      · refine ⟨I (stp (V s)), U_I _, ?_⟩
        rw [if_pos hv0, if_neg (by omega), ref_f K hs, wu64_id (by omega) (by omega)]
        simp only [b1, b2]
        rw [if_neg (by omega)]
        simp
      · refine ⟨s, hs, ?_⟩
        rw [if_neg hv0, if_pos (by omega)]
        simp [b2]
  by_cases h3 : Int.tmod i 3 > 0
  · rw [if_pos h3]; exact key _ hb.2
  · rw [if_neg h3]; exact key _ hx.2

theorem rt_loop (K : Nat) (l : List Int) (j : Int → Option Bool) (hl : ∀ x ∈ l, (Lit.int .i64 x).wf = true) (h2 : (l.length : Int) ≤ 40) (d : Nat) : ∀ (n : Nat) (s i : Int), U s → 0 ≤ i → i ≤ (l.length : Int) → (l.length : Int) - i = d → d < n →
    ∃ s', confidantlaw16_RngTells.l0 K l j n s s i = j s' := by
  induction d with
  | zero =>
    intro n s i hs h0 hi hd hn
    obtain ⟨n, rfl⟩ : ∃ k, n = k + 1 := ⟨n - 1, by omega⟩
    refine ⟨s, ?_⟩
    rw [confidantlaw16_RngTells.l0.eq_2, if_neg (by omega)]
  | succ d ih =>
    intro n s i hs h0 hi hd hn
    obtain ⟨n, rfl⟩ : ∃ k, n = k + 1 := ⟨n - 1, by omega⟩
    obtain ⟨s', h1, h3⟩ := rt_step K l j n s i hl hs h0 (by omega) h2
    obtain ⟨s2, h4⟩ := ih n s' (i + 1) h1 (by omega) (by omega) (by omega) (by omega)
    exact ⟨s2, h3.trans h4⟩

theorem RngTells : confidantlaw16_RngTells.Pure := by
  intro seed l s hseed _ hl hs
  have us := U_of hseed
  refine ⟨1000, ?_⟩
  unfold confidantlaw16_RngTells.f
  simp only [known_f, new_f, b1, if_true, lt]
  by_cases h : (l.length : Int) > 40
  · rw [if_pos h]
  · rw [if_neg h]
    have hm : (if seed = 0 then (1 : Int) else seed) = mx seed 1 := by
      unfold mx U at *
      by_cases h0 : seed = 0
      · subst h0; rfl
      · rw [if_neg h0, if_neg (by omega)]
    have hcase : ∀ (F : Int → Option Bool), (if seed = 0 then F 1 else F seed) = F (mx seed 1) := by
      intro F; rw [← hm]; split <;> rfl
    refine (hcase (fun w => confidantlaw16_RngTells.l0 1000 l _ 1000 (mx seed 1) w 0)).trans ?_
    obtain ⟨s', h3⟩ := rt_loop 1000 l _ hl (by omega) l.length 1000 (mx seed 1) 0 (mx_U us).1 (by omega) (by omega) (by omega) (by omega)
    refine h3.trans ?_
    rw [step_f 1000 (U_of hs), ref_f 1000 (U_of hs)]
    simp

end Go.Proofs.Ytepokhmomojcmaa.Pure
