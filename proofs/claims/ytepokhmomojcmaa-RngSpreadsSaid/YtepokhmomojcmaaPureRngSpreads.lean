import Derived.Test.YtepokhmomojcmaaRng
import Derived.Test.YtepokhmomojcmaaFwLaw
/- Choices are below what they are to be below, and hang on the state alone. No condition. -/
set_option linter.unusedVariables false
set_option linter.unusedSimpArgs false
namespace Go.Proofs.Ytepokhmomojcmaa.Pure
open Go Go.Fw Go.RowKit Go.Proofs.Ytepokhmomojcmaa.G Go.Proofs.Ytepokhmomojcmaa.Rng

theorem rs_below (K : Nat) {s v : Int} (hs : U s) (hv : v < 9223372036854775808) : rng_Rng_Below.f K s v = if v < 1 then some (s, 0) else some (I (stp (V s)), IntKind.i64.wrap (Int.tmod (I (stp (V s))) v)) := by
  unfold rng_Rng_Below.f
  by_cases h : v < 1
  · rw [if_pos h, if_pos h]
  · rw [if_neg h, if_neg h, next_f K hs]
    simp only [b2]
    rw [wu64_id (by omega) (by omega), if_neg (by omega)]

/-- so many steps -/
def far : Nat → Int → Int
  | 0, s => s
  | n + 1, s => I (stp (V (far n s)))
theorem far_U {s : Int} (hs : U s) : ∀ n, U (far n s)
  | 0 => hs
  | n + 1 => U_I _
theorem far_succ (s : Int) : ∀ n, far (n + 1) s = far n (I (stp (V s)))
  | 0 => rfl
  | n + 1 => by rw [far, far_succ s n]; rfl

theorem rs_in (K : Nat) (m : Int) (hm : m ≤ 100) (j : Int → Option Bool) (d : Nat) : ∀ (n : Nat) (s i : Int), U s → 0 ≤ i → i ≤ m → m - i = d → d < n → confidantlaw16_RngSpreads.l1 K m j n s i = j (far d s) := by
  induction d with
  | zero =>
    intro n s i hs h0 hi hd hn
    obtain ⟨n, rfl⟩ : ∃ k, n = k + 1 := ⟨n - 1, by omega⟩
    rw [confidantlaw16_RngSpreads.l1.eq_2, if_neg (by omega)]
    rfl
  | succ d ih =>
    intro n s i hs h0 hi hd hn
    obtain ⟨n, rfl⟩ : ∃ k, n = k + 1 := ⟨n - 1, by omega⟩
    rw [confidantlaw16_RngSpreads.l1.eq_2, if_pos (by omega), next_f K hs]
    simp only [b2]
    rw [w64_id (x := i + 1) (by omega) (by omega), ih n _ (i + 1) (U_I _) (by omega) (by omega) (by omega) (by omega), ← far_succ]

theorem rs_step (K : Nat) (hK : 200 ≤ K) (k seed m : Int) (hk : 0 ≤ k ∧ k ≤ 255) (hm : 0 ≤ m ∧ m ≤ 65535) (hseed : U seed) (j : Int → Option Bool) (n : Nat) (i : Int) (h0 : 0 ≤ i) (h1 : i < k % 50) :
    confidantlaw16_RngSpreads.l0 K k seed m j (n + 1) (far i.toNat (mx seed 1)) i = confidantlaw16_RngSpreads.l0 K k seed m j n (far (i + 1).toNat (mx seed 1)) (i + 1) := by
  have us := mx_U hseed
  have e1 : IntKind.i64.wrap (Int.tmod k 50) = k % 50 := by rw [Int.tmod_eq_emod_of_nonneg (by omega)]; exact w64_id (by omega) (by omega)
  have e2 : IntKind.i64.wrap ((IntKind.i64.wrap m) + 1) = m + 1 := by rw [w64_id (x := m) (by omega) (by omega)]; exact w64_id (by omega) (by omega)
  have e3 : IntKind.u64.wrap (m + 1) = m + 1 := wu64_id (by omega) (by omega)
  rw [confidantlaw16_RngSpreads.l0.eq_2, e1, if_pos h1]
  simp only [lt, new_f, b1, e2, e3]
  rw [rs_in K i (by omega) _ i.toNat K (mx seed 1) 0 us.1 (by omega) (by omega) (by omega) (by omega)]
  have uf := far_U us.1 i.toNat
  rw [next_f K uf]
  simp only [b2]
  rw [if_neg (by omega), rs_below K uf (by omega), if_neg (by omega)]
  simp only []
  have ui := U_I (stp (V (far i.toNat (mx seed 1))))
  have e4 : far (i + 1).toNat (mx seed 1) = I (stp (V (far i.toNat (mx seed 1)))) := by
    have : (i + 1).toNat = i.toNat + 1 := by omega
    rw [this]; rfl
  rw [e4]
  generalize I (stp (V (far i.toNat (mx seed 1)))) = t at ui ⊢
  unfold U at ui
  have e5 : Int.tmod t (m + 1) = t % (m + 1) := Int.tmod_eq_emod_of_nonneg (by omega)
  have r1 := Int.emod_nonneg t (show m + 1 ≠ 0 by omega)
  have r2 := Int.emod_lt_of_pos t (show 0 < m + 1 by omega)
  rw [e5]
  have e6 : IntKind.i64.wrap (t % (m + 1)) = t % (m + 1) := w64_id (by omega) (by omega)
  have e7 : IntKind.u64.wrap (t % (m + 1)) = t % (m + 1) := wu64_id (by omega) (by omega)
  rw [e6, if_neg (by omega), if_neg (by omega), e7, w64_id (x := i + 1) (by omega) (by omega)]
  simp

theorem rs_out (K : Nat) (hK : 200 ≤ K) (k seed m : Int) (hk : 0 ≤ k ∧ k ≤ 255) (hm : 0 ≤ m ∧ m ≤ 65535) (hseed : U seed) (j : Int → Option Bool) (d : Nat) : ∀ (n : Nat) (i : Int), 0 ≤ i → i ≤ k % 50 → k % 50 - i = d → d < n →
    ∃ s', U s' ∧ confidantlaw16_RngSpreads.l0 K k seed m j n (far i.toNat (mx seed 1)) i = j s' := by
  have us := mx_U hseed
  have e1 : IntKind.i64.wrap (Int.tmod k 50) = k % 50 := by rw [Int.tmod_eq_emod_of_nonneg (by omega)]; exact w64_id (by omega) (by omega)
  induction d with
  | zero =>
    intro n i h0 hi hd hn
    obtain ⟨n, rfl⟩ : ∃ k, n = k + 1 := ⟨n - 1, by omega⟩
    refine ⟨_, far_U us.1 i.toNat, ?_⟩
    rw [confidantlaw16_RngSpreads.l0.eq_2, e1, if_neg (by omega)]
  | succ d ih =>
    intro n i h0 hi hd hn
    obtain ⟨n, rfl⟩ : ∃ k, n = k + 1 := ⟨n - 1, by omega⟩
    obtain ⟨s', u', h3⟩ := ih n (i + 1) (by omega) (by omega) (by omega) (by omega)
    refine ⟨s', u', ?_⟩
    rw [rs_step K hK k seed m hk hm hseed j n i h0 (by omega)]
    exact h3

theorem RngSpreads : confidantlaw16_RngSpreads.Pure := by
  intro seed m k hseed hm hk
  have us := U_of hseed
  have um := is_u16 hm
  have uk := is_u8 hk
  refine ⟨1000, ?_⟩
  unfold confidantlaw16_RngSpreads.f
  simp only [known_f, new_f, b1, if_true, lt]
  obtain ⟨s', u', h3⟩ := rs_out 1000 (by omega) k seed m uk um us _ (k % 50).toNat 1000 0 (by omega) (by omega) (by omega) (by omega)
  refine h3.trans ?_
  rw [rs_below 1000 u' (by omega), if_pos (by omega)]
  simp only [b2, if_true]
  rw [rs_below 1000 u' (by omega), if_neg (by omega)]
  have : Int.tmod (I (stp (V s'))) 1 = 0 := by rw [Int.tmod_one]
  simp [this]
  decide

end Go.Proofs.Ytepokhmomojcmaa.Pure
