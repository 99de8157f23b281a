import Derived.Test.YtlcnkngpankkpaaG3
import Derived.Test.YtlcnkngpankkpaaTask
/- Where a task goes on behind a jump. No condition. -/
set_option linter.unusedVariables false
set_option linter.unusedSimpArgs false
namespace Go.Proofs.Ytlcnkngpankkpaa.Pure
open Go Go.Fw Go.RowKit Go.Proofs.Ytlcnkngpankkpaa.G Go.Proofs.Ytlcnkngpankkpaa.Task

theorem tj_known : ∃ K, 20 ≤ K ∧ confidantlaw10_known.f K = some true := ⟨20, Nat.le_refl _, by kernel_rfl⟩

theorem tj_l0 (K : Nat) (a8 : Int) (g : List S32 → Option Bool) (k : Nat) (hk : IntKind.i64.wrap (Int.tmod a8 6) = (k : Int)) (h5 : k ≤ 5) : ∀ (d n b : Nat) (c : List S32), b + d = k → d < n → c.length + d ≤ 100 →
    confidantlaw10_TaskJumps.l0 K a8 g n c (b : Int) = g (c ++ List.replicate d (⟨2, 0⟩ : S32)) := by
  intro d
  induction d with
  | zero =>
    intro n b c hb hn hc
    obtain ⟨n, rfl⟩ : ∃ m, n = m + 1 := ⟨n - 1, by omega⟩
    rw [confidantlaw10_TaskJumps.l0.eq_2, hk, if_neg (by omega)]
    simp
  | succ d ih =>
    intro n b c hb hn hc
    obtain ⟨n, rfl⟩ : ∃ m, n = m + 1 := ⟨n - 1, by omega⟩
    rw [confidantlaw10_TaskJumps.l0.eq_2, hk, if_pos (by omega)]
    simp only [lt, List.length_singleton]
    rw [if_pos (by omega), w64_id (by omega) (by omega)]
    have e := ih n (b + 1) (c ++ [(⟨2, 0⟩ : S32)]) (by omega) (by omega) (by rw [List.length_append, List.length_singleton]; omega)
    rw [Int.natCast_add] at e
    rw [show (1 : Int) = ((1 : Nat) : Int) from rfl, e, List.append_assoc]
    rfl

theorem tj_step (v a : Int) (k : Nat) (o : Int) (ho : o = 10 ∨ o = 11) (h5 : k ≤ 5) (x0 x1 : Int) :
    stepP ⟨0, 0, (k : Int), [5, v], ⟨0, 0, 0, 0⟩, 0, 0, 0, 0⟩ [List.replicate k (⟨2, 0⟩ : S32) ++ [⟨o, a⟩]] = doP ⟨0, 0, (k : Int), [5, v], ⟨0, 0, 0, 0⟩, 0, 0, 0, 0⟩ o a := by
  have hat : atP ⟨0, 0, (k : Int), [5, v], ⟨0, 0, 0, 0⟩, 0, 0, 0, 0⟩ [List.replicate k (⟨2, 0⟩ : S32) ++ [⟨o, a⟩]] = some ⟨o, a⟩ := by
    unfold atP
    rw [if_pos (by simp; omega)]
    congr 1
    simp
  have hm : mayP ⟨0, 0, (k : Int), [5, v], ⟨0, 0, 0, 0⟩, 0, 0, 0, 0⟩ ⟨o, a⟩ = true := by
    unfold mayP
    rcases ho with rfl | rfl
    · have := pops_at 10 10 rfl (by omega); have := arg_at 10 10 rfl (by omega); simp_all
    · have := pops_at 11 11 rfl (by omega); have := arg_at 11 11 rfl (by omega); simp_all
  unfold stepP
  rw [hat]
  simp only [hm, if_true]

theorem TaskJumps : confidantlaw10_TaskJumps.Pure := by
  intro v a always n hv ha hn
  obtain ⟨K, hK, hk⟩ := tj_known
  refine ⟨K, ?_⟩
  have ua := is_u8 ha
  have un := is_u8 hn
  have hmod : 0 ≤ Int.tmod n 6 ∧ Int.tmod n 6 ≤ 5 := by rw [Int.tmod_eq_emod_of_nonneg un.1]; omega
  obtain ⟨k, hk2⟩ : ∃ k : Nat, IntKind.i64.wrap (Int.tmod n 6) = (k : Int) := ⟨(Int.tmod n 6).toNat, by rw [w64_id (by omega) (by omega)]; omega⟩
  have h5 : k ≤ 5 := by rw [w64_id (by omega) (by omega)] at hk2; omega
  have wa : IntKind.i32.wrap a = a := w32_id (by omega) (by omega)
  have wa64 : IntKind.i64.wrap a = a := w64_id (by omega) (by omega)
  unfold confidantlaw10_TaskJumps.f
  rw [hk]
  have L := fun (g : List S32 → Option Bool) => tj_l0 K n g k hk2 h5 k K 0 [] (by omega) (by omega) (by simp; omega)
  simp only [Int.natCast_zero] at L
  simp only [b1_some, lt, if_true, L, List.nil_append, wa, wa64, hk2, List.length_replicate, List.length_singleton, zS58, zS55]
  cases always with
  | true =>
    simp only [if_true]
    rw [if_pos (by omega), step_eq K _ _ (by simp)]
    have e := tj_step v a k 10 (.inl rfl) h5 0 0
    rw [e]
    simp only [b2]
    rw [show doP ⟨0, 0, (k : Int), [5, v], ⟨0, 0, 0, 0⟩, 0, 0, 0, 0⟩ 10 a = (went, ⟨0, 0, a, [5, v], ⟨0, 0, 0, 0⟩, 0, 0, 0, 0⟩) from by simp [doP, dropP, wa64, mn, mx]]
    simp [went]
  | false =>
    simp only [Bool.false_eq_true, if_false]
    rw [if_pos (by omega), step_eq K _ _ (by simp)]
    have e := tj_step v a k 11 (.inr rfl) h5 0 0
    rw [e]
    have e2 : IntKind.i64.wrap ((k : Int) + 1) = (k : Int) + 1 := w64_id (by omega) (by omega)
    simp only [b2]
    by_cases q : v = 0
    · subst q
      rw [show doP ⟨0, 0, (k : Int), [5, 0], ⟨0, 0, 0, 0⟩, 0, 0, 0, 0⟩ 11 a = (went, ⟨0, 0, a, [5], ⟨0, 0, 0, 0⟩, 0, 0, 0, 0⟩) from by simp [doP, dropP, topP, wa64, mn, mx]]
      simp [went]
    · rw [show doP ⟨0, 0, (k : Int), [5, v], ⟨0, 0, 0, 0⟩, 0, 0, 0, 0⟩ 11 a = (went, ⟨0, 0, (k : Int) + 1, [5], ⟨0, 0, 0, 0⟩, 0, 0, 0, 0⟩) from by simp [doP, dropP, topP, wa64, mn, mx, q, e2]]
      simp [went, q, e2]
end Go.Proofs.Ytlcnkngpankkpaa.Pure
