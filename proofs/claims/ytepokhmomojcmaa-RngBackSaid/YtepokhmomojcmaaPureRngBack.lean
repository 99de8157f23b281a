import Derived.Test.YtepokhmomojcmaaRng
/- Step is injective and linear, and only nought comes to nought. No condition. -/
set_option linter.unusedVariables false
set_option linter.unusedSimpArgs false
namespace Go.Proofs.Ytepokhmomojcmaa.Pure
open Go Go.Fw Go.RowKit Go.Proofs.Ytepokhmomojcmaa.G Go.Proofs.Ytepokhmomojcmaa.Rng

theorem one_shift (n : Nat) (hn : n < 64) : V (sL .u64 1 (n : Int)) ≠ 0#64 := by
  rw [sL_V 1 n (by omega), V_I]
  intro h
  have : (V 1 <<< n).getLsbD n = (0#64).getLsbD n := by rw [h]
  rw [BitVec.getLsbD_shiftLeft] at this
  simp [hn] at this
  revert this
  decide

theorem RngBack : confidantlaw16_RngBack.Pure := by
  intro a b i ha hb hi
  have ua := U_of ha
  have ub := U_of hb
  have hi' : 0 ≤ i ∧ i ≤ 255 := by simpa [Lit.wf, IntKind.min, IntKind.max, IntKind.signed, IntKind.bits] using hi
  refine ⟨0, ?_⟩
  obtain ⟨n, hn⟩ : ∃ n : Nat, Int.tmod i 64 = (n : Int) ∧ n < 64 := ⟨(Int.tmod i 64).toNat, by rw [Int.tmod_eq_emod_of_nonneg hi'.1]; omega⟩
  unfold confidantlaw16_RngBack.f
  rw [known_f, hn.1]
  have hc : bX .u64 a (sL .u64 1 (n : Int)) = I (V a ^^^ V (sL .u64 1 (n : Int))) := bX_V _ _
  have hx : bX .u64 a b = I (V a ^^^ V b) := bX_V _ _
  have e1 : ∀ c : Int, U c → rng_Step.f 0 c = some (I (stp (V c))) := fun c hc => step_f 0 hc
  rw [hc, hx, e1 a ua, e1 b ub, e1 _ (U_I _), e1 _ (U_I _), V_I, V_I, stp_lin, stp_lin]
  have i4 : bX .u64 (I (stp (V a))) (I (stp (V b))) = I (stp (V a) ^^^ stp (V b)) := by rw [bX_V, V_I, V_I]
  have n0 : ¬ ((n : Int) < 0) := by omega
  have i1 : (I (stp (V a)) = I (stp (V b))) = (a = b) := by
    apply propext
    constructor
    · intro h; have := stp_inj (I_inj h); rw [← I_V ua, this, I_V ub]
    · intro h; rw [h]
  have i2 : (I (stp (V a)) = 0) = (a = 0) := by
    apply propext
    constructor
    · intro h
      have : stp (V a) = 0#64 := I_inj (h.trans rfl)
      rw [← I_V ua, stp_zero this]; rfl
    · intro h; rw [h]; rfl
  have i3 : ¬ (I (stp (V a)) = I (stp (V a) ^^^ stp (V (sL .u64 1 (n : Int))))) := by
    intro h
    have h2 := I_inj h
    have h3 : stp (V (sL .u64 1 (n : Int))) = 0#64 := by
      have : stp (V a) ^^^ stp (V a) = stp (V a) ^^^ (stp (V a) ^^^ stp (V (sL .u64 1 (n : Int)))) := congrArg (stp (V a) ^^^ ·) h2
      rw [← BitVec.xor_assoc, BitVec.xor_self, BitVec.zero_xor] at this
      exact this.symm
    exact one_shift n hn.2 (stp_zero h3)
  simp only [b1, i4, n0, i1, i2, i3, if_true, if_false, beq_self_eq_true, decide_true]
end Go.Proofs.Ytepokhmomojcmaa.Pure
