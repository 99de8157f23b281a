import Derived.Test.YtlcnkngpankkpaaG0
import Derived.Test.YtlcnkngpankkpaaG4
import Derived.Test.YtlcnkngpankkpaaFwLaw
/- Wherever code goes it must find what it takes. No condition. -/
set_option linter.unusedVariables false
set_option linter.unusedSimpArgs false
namespace Go.Proofs.Ytlcnkngpankkpaa.Pure
open Go Go.Fw Go.RowKit Go.Proofs.Ytlcnkngpankkpaa.G

theorem vj_l0 (K : Nat) (a a' : Int) (h : Int.tmod a 4 = Int.tmod a' 4) (d : List S32 → Option Bool) : ∀ n b i, confidantlaw8_VerifyJumps.l0 K a d n b i = confidantlaw8_VerifyJumps.l0 K a' d n b i := by
  intro n
  induction n with
  | zero => intro b i; rfl
  | succ n ih => intro b i; rw [confidantlaw8_VerifyJumps.l0.eq_2, confidantlaw8_VerifyJumps.l0.eq_2, h]; simp only [ih]
theorem vj_l1 (K : Nat) (a a' : Int) (h : Int.tmod a 4 = Int.tmod a' 4) (d : List S32 → Option Bool) : ∀ n b i, confidantlaw8_VerifyJumps.l1 K a d n b i = confidantlaw8_VerifyJumps.l1 K a' d n b i := by
  intro n
  induction n with
  | zero => intro b i; rfl
  | succ n ih => intro b i; rw [confidantlaw8_VerifyJumps.l1.eq_2, confidantlaw8_VerifyJumps.l1.eq_2, h]; simp only [ih]
theorem vj_same (K : Nat) (a a' b b' : Int) (c : Bool) (ha : Int.tmod a 4 = Int.tmod a' 4) (hb : Int.tmod b 4 = Int.tmod b' 4) : confidantlaw8_VerifyJumps.f K a b c = confidantlaw8_VerifyJumps.f K a' b' c := by
  unfold confidantlaw8_VerifyJumps.f
  simp only [ha, hb, vj_l0 K a a' ha, vj_l1 K b b' hb]
theorem vj_all : ∀ x : Fin 4, ∀ y : Fin 4, ∀ c : Bool, confidantlaw8_VerifyJumps.f 200 (x.val : Int) (y.val : Int) c = some true := by decide +kernel
theorem VerifyJumps : confidantlaw8_VerifyJumps.Pure := by
  intro a b c ha hb
  have ua := is_u8 ha
  have ub := is_u8 hb
  refine ⟨200, ?_⟩
  have h1 : ∀ a : Int, 0 ≤ a → Int.tmod a 4 = Int.tmod (((⟨(a % 4).toNat, by omega⟩ : Fin 4)).val : Int) 4 := by
    intro a h
    rw [Int.tmod_eq_emod_of_nonneg h, Int.tmod_eq_emod_of_nonneg (by omega)]
    simp only
    omega
  rw [vj_same 200 a _ b _ c (h1 a ua.1) (h1 b ub.1)]
  exact vj_all _ _ c
end Go.Proofs.Ytlcnkngpankkpaa.Pure
