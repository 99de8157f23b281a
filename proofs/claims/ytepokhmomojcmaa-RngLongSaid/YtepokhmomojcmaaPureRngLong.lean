import Derived.Test.YtepokhmomojcmaaRng
import Derived.Test.YtepokhmomojcmaaFwLaw
/- The same seed yields the same numbers. No condition. -/
set_option linter.unusedVariables false
set_option linter.unusedSimpArgs false
namespace Go.Proofs.Ytepokhmomojcmaa.Pure
open Go Go.Fw Go.RowKit Go.Proofs.Ytepokhmomojcmaa.G Go.Proofs.Ytepokhmomojcmaa.Rng


theorem loop (K : Nat) (m : Int) (hm : 0 ≤ m ∧ m ≤ 255) (j : Int → Int → Option Bool) (d : Nat) : ∀ (n : Nat) (s : Int) (i : Int), U s → V s ≠ 0#64 → 0 ≤ i → i ≤ m → m - i = d → d < n →
    ∃ s', U s' ∧ V s' ≠ 0#64 ∧ confidantlaw16_RngLong.l0 K m j n s s i = j s' s' := by
  have hw : IntKind.i64.wrap m = m := w64_id (by omega) (by omega)
  induction d with
  | zero =>
    intro n s i hs h0 hi hle hd hn
    obtain ⟨n, rfl⟩ : ∃ k, n = k + 1 := ⟨n - 1, by omega⟩
    refine ⟨s, hs, h0, ?_⟩
    rw [confidantlaw16_RngLong.l0.eq_2, hw, if_neg (by omega)]
  | succ d ih =>
    intro n s i hs h0 hi hle hd hn
    obtain ⟨n, rfl⟩ : ∃ k, n = k + 1 := ⟨n - 1, by omega⟩
    obtain ⟨s', h1, h2, h3⟩ := ih n (I (stp (V s))) (i + 1) (U_I _) (by rw [V_I]; exact fun h => h0 (stp_zero h)) (by omega) (by omega) (by omega) (by omega)
    refine ⟨s', h1, h2, ?_⟩
    rw [confidantlaw16_RngLong.l0.eq_2, hw, if_pos (by omega), next_f K hs]
    simp only [b2]
    rw [w64_id (by omega) (by omega)]
    exact h3

theorem RngLong : confidantlaw16_RngLong.Pure := by
  intro s n hs hn
  have us := U_of hs
  have un := is_u8 hn
  refine ⟨1000, ?_⟩
  unfold confidantlaw16_RngLong.f
  simp only [known_f, new_f, b1, if_true, lt]
  obtain ⟨s', h1, h2, h3⟩ := loop 1000 n un (fun x y => b2 (rng_Rng_Next.f 1000 y) fun t537 t538 => match some (mx t538 1) with
    | some a => if t538 = 0 then some false else b2 (rng_Rng_Next.f 1000 x) fun t547 t548 => if t538 = t548 then b2 (rng_Rng_Next.f 1000 a) fun t551 t552 => match rng_Step.f 1000 t538 with
        | some a => if t552 = a then b2 (rng_Rng_Next.f 1000 t537) fun t557 t558 => match rng_Step.f 1000 t538 with
            | some a => some (decide (t558 = a))
            | none => none
          else some false
        | none => none
      else some false
    | none => none) n.toNat 1000 (mx s 1) 0 (mx_U us).1 (mx_U us).2 (by omega) (by omega) (by omega) (by omega)
  refine h3.trans ?_
  have hz : stp (V s') ≠ 0#64 := fun h => h2 (stp_zero h)
  have ui := U_I (stp (V s'))
  have hmx : mx (I (stp (V s'))) 1 = I (stp (V s')) := by
    have : I (stp (V s')) ≠ 0 := fun h => hz (I_inj (h.trans rfl))
    unfold mx; unfold U at ui
    rw [if_neg (by omega)]
  have hne : ¬ I (stp (V s')) = 0 := fun h => hz (I_inj (h.trans rfl))
  simp only [next_f 1000 h1, b2, hmx, hne, if_false, if_true, next_f 1000 ui, step_f 1000 ui, decide_true]

end Go.Proofs.Ytepokhmomojcmaa.Pure
