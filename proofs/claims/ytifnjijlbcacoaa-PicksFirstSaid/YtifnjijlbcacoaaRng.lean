import Derived.Test.YtifnjijlbcacoaaG1
import Derived.Test.YtifnjijlbcacoaaFwLaw
/- What the generator of numbers does, as bits. No conditions but those in the lemmas. -/
set_option linter.unusedVariables false
set_option linter.unusedSimpArgs false
namespace Go.Proofs.Ytifnjijlbcacoaa.Rng
open Go Go.Fw Go.RowKit Go.Proofs.Ytifnjijlbcacoaa.G

/-- a number of 64 bits -/
def U (x : Int) : Prop := 0 ≤ x ∧ x < 18446744073709551616
theorem U_of {x : Int} (h : (Lit.int .u64 x).wf = true) : U x := by
  simp [Lit.wf, IntKind.min, IntKind.max, IntKind.signed, IntKind.bits] at h
  unfold U; omega
def I (b : BitVec 64) : Int := (b.toNat : Int)
def V (x : Int) : BitVec 64 := BitVec.ofInt 64 x
theorem U_I (b : BitVec 64) : U (I b) := by
  have := b.isLt
  unfold U I; omega
theorem V_I (b : BitVec 64) : V (I b) = b := by
  unfold V I
  apply BitVec.eq_of_toNat_eq
  simp [BitVec.toNat_ofInt]
theorem I_V {x : Int} (h : U x) : I (V x) = x := by
  unfold V I
  unfold U at h
  simp [BitVec.toNat_ofInt]
  omega
theorem I_inj {a b : BitVec 64} (h : I a = I b) : a = b := by rw [← V_I a, h, V_I]
theorem wrap_V (z : Int) : IntKind.u64.wrap z = I (V z) := by
  unfold IntKind.wrap I V
  simp [IntKind.bits, IntKind.signed, BitVec.toNat_ofInt]
  omega
theorem bX_V (x y : Int) : bX .u64 x y = I (V x ^^^ V y) := by
  unfold bX
  rw [wrap_V]
  show I (V (I (V x ^^^ V y))) = _
  rw [V_I]
theorem V_mul (x : Int) (n : Nat) : V (x * 2 ^ n) = V x <<< n := by
  unfold V
  rw [BitVec.ofInt_mul, BitVec.shiftLeft_eq_mul_twoPow]
  congr 1
  apply BitVec.eq_of_toNat_eq
  rw [BitVec.toNat_twoPow, BitVec.toNat_ofInt]
  have : ((2 : Int) ^ n) = ((2 ^ n : Nat) : Int) := by simp
  rw [this]
  omega
theorem sL_V (x : Int) (n : Nat) (hn : n ≤ 64) : sL .u64 x (n : Int) = I (V x <<< n) := by
  unfold sL
  have e : min (n : Int).toNat IntKind.u64.bits = n := by simp [IntKind.bits]; omega
  rw [e, wrap_V, V_mul]
theorem sR_V {x : Int} (h : U x) (n : Nat) (hn : n ≤ 64) : sR .u64 x (n : Int) = I (V x >>> n) := by
  unfold sR
  have e : min (n : Int).toNat IntKind.u64.bits = n := by simp [IntKind.bits]; omega
  rw [e]
  have hx : x = ((x.toNat : Nat) : Int) := by unfold U at h; omega
  have hv : (V x).toNat = x.toNat := by unfold V U at *; simp [BitVec.toNat_ofInt]; omega
  have h2 : ((2 : Int) ^ n) = ((2 ^ n : Nat) : Int) := by simp
  unfold I
  rw [BitVec.toNat_ushiftRight, hv, Nat.shiftRight_eq_div_pow, h2]
  conv => lhs; rw [hx]
  rw [Int.fdiv_eq_ediv_of_nonneg _ (Int.natCast_nonneg _)]
  simp

/-- a step -/
def st1 (b : BitVec 64) : BitVec 64 := b ^^^ b <<< 13
def st2 (b : BitVec 64) : BitVec 64 := b ^^^ b >>> 7
def st3 (b : BitVec 64) : BitVec 64 := b ^^^ b <<< 17
def stp (b : BitVec 64) : BitVec 64 := st3 (st2 (st1 b))

theorem core {x : Int} (h : U x) : bX .u64 (bX .u64 (bX .u64 x (sL .u64 x 13)) (sR .u64 (bX .u64 x (sL .u64 x 13)) 7)) (sL .u64 (bX .u64 (bX .u64 x (sL .u64 x 13)) (sR .u64 (bX .u64 x (sL .u64 x 13)) 7)) 17) = I (stp (V x)) := by
  have e1 : bX .u64 x (sL .u64 x 13) = I (st1 (V x)) := by
    have := sL_V x 13 (by omega)
    rw [bX_V, show (13 : Int) = ((13 : Nat) : Int) from rfl, this, V_I]; rfl
  have e2 : bX .u64 (I (st1 (V x))) (sR .u64 (I (st1 (V x))) 7) = I (st2 (st1 (V x))) := by
    have := sR_V (U_I (st1 (V x))) 7 (by omega)
    rw [bX_V, show (7 : Int) = ((7 : Nat) : Int) from rfl, this, V_I, V_I]; rfl
  have e3 : bX .u64 (I (st2 (st1 (V x)))) (sL .u64 (I (st2 (st1 (V x)))) 17) = I (stp (V x)) := by
    have := sL_V (I (st2 (st1 (V x)))) 17 (by omega)
    rw [bX_V, show (17 : Int) = ((17 : Nat) : Int) from rfl, this, V_I, V_I]; rfl
  rw [e1, e2, e3]
theorem step_f (K : Nat) {x : Int} (h : U x) : rng_Step.f K x = some (I (stp (V x))) := by
  unfold rng_Step.f lt
  exact congrArg some (core h)
theorem ref_f (K : Nat) {x : Int} (h : U x) : confidantref15_Step.f K x = some (I (stp (V x))) := by
  unfold confidantref15_Step.f lt
  exact congrArg some (core h)

/-! ### the step is linear, and only nought comes to nought -/
theorem xor4 (a b c d : BitVec 64) : (a ^^^ b) ^^^ (c ^^^ d) = (a ^^^ c) ^^^ (b ^^^ d) := by
  rw [BitVec.xor_assoc, BitVec.xor_assoc, ← BitVec.xor_assoc b, BitVec.xor_comm b c, BitVec.xor_assoc c]
theorem st1_lin (a b : BitVec 64) : st1 (a ^^^ b) = st1 a ^^^ st1 b := by
  unfold st1; rw [BitVec.shiftLeft_xor_distrib]; exact xor4 _ _ _ _
theorem st2_lin (a b : BitVec 64) : st2 (a ^^^ b) = st2 a ^^^ st2 b := by
  unfold st2; rw [BitVec.ushiftRight_xor_distrib]; exact xor4 _ _ _ _
theorem st3_lin (a b : BitVec 64) : st3 (a ^^^ b) = st3 a ^^^ st3 b := by
  unfold st3; rw [BitVec.shiftLeft_xor_distrib]; exact xor4 _ _ _ _
theorem stp_lin (a b : BitVec 64) : stp (a ^^^ b) = stp a ^^^ stp b := by
  unfold stp; rw [st1_lin, st2_lin, st3_lin]
theorem shl_zero (k : Nat) (hk : 0 < k) (b : BitVec 64) (h : b = b <<< k) : b = 0#64 := by
  have key : ∀ i, b.getLsbD i = false := by
    intro i
    induction i using Nat.strongRecOn with
    | _ i ih =>
      rw [h, BitVec.getLsbD_shiftLeft]
      by_cases hi : i < k
      · simp [hi]
      · simp [ih (i - k) (by omega)]
  apply BitVec.eq_of_getLsbD_eq
  intro i hi
  rw [key]; simp
theorem shr_zero (k : Nat) (hk : 0 < k) (b : BitVec 64) (h : b = b >>> k) : b = 0#64 := by
  have key : ∀ n i, 64 - i ≤ n → b.getLsbD i = false := by
    intro n
    induction n with
    | zero => intro i hi; exact BitVec.getLsbD_of_ge b i (by omega)
    | succ n ih =>
      intro i hi
      rw [h, BitVec.getLsbD_ushiftRight]
      by_cases h64 : 64 ≤ i
      · exact BitVec.getLsbD_of_ge b _ (by omega)
      · exact ih _ (by omega)
  apply BitVec.eq_of_getLsbD_eq
  intro i hi
  rw [key 64 i (by omega)]; simp
theorem xor_zero {a b : BitVec 64} (h : a ^^^ b = 0#64) : a = b := by
  have : a ^^^ b ^^^ b = 0#64 ^^^ b := by rw [h]
  rwa [BitVec.xor_assoc, BitVec.xor_self, BitVec.xor_zero, BitVec.zero_xor] at this
theorem stp_zero {b : BitVec 64} (h : stp b = 0#64) : b = 0#64 := by
  have h3 := shl_zero 17 (by omega) _ (xor_zero (show st2 (st1 b) ^^^ st2 (st1 b) <<< 17 = 0#64 from h))
  have h2 := shr_zero 7 (by omega) _ (xor_zero (show st1 b ^^^ st1 b >>> 7 = 0#64 from h3))
  exact shl_zero 13 (by omega) _ (xor_zero (show b ^^^ b <<< 13 = 0#64 from h2))
theorem stp_inj {a b : BitVec 64} (h : stp a = stp b) : a = b := by
  apply xor_zero
  apply stp_zero
  rw [stp_lin, h, BitVec.xor_self]
theorem stp_0 : stp 0#64 = 0#64 := by decide
theorem next_f (K : Nat) {x : Int} (h : U x) : rng_Rng_Next.f K x = some (I (stp (V x)), I (stp (V x))) := by
  unfold rng_Rng_Next.f
  rw [step_f K h]
  rfl
theorem new_f (K : Nat) (x : Int) : rng_New.f K x = some (mx x 1) := rfl
theorem mx_U {x : Int} (h : U x) : U (mx x 1) ∧ V (mx x 1) ≠ 0#64 := by
  have e : mx x 1 = if x = 0 then 1 else x := by
    unfold mx U at *
    by_cases h0 : x = 0
    · subst h0; rfl
    · rw [if_neg h0, if_neg (by omega)]
  rw [e]
  by_cases h0 : x = 0
  · rw [if_pos h0]; exact ⟨by unfold U; omega, by decide⟩
  · rw [if_neg h0]
    refine ⟨h, fun hv => h0 ?_⟩
    rw [← I_V h, hv]; rfl
end Go.Proofs.Ytifnjijlbcacoaa.Rng
