import Derived.Test.YtlcnkngpankkpaaG6
import Derived.Test.YtlcnkngpankkpaaFwLaw
/- Each argument must be within what there is. No condition. -/
set_option linter.unusedVariables false
set_option linter.unusedSimpArgs false
namespace Go.Proofs.Ytlcnkngpankkpaa.Pure
open Go Go.Fw Go.RowKit Go.Proofs.Ytlcnkngpankkpaa.G

theorem vb_same (K : Nat) (a a' b b' c c' d d' e e' : Int) (ha : Int.tmod a 5 = Int.tmod a' 5) (hb : Int.tmod b 12 = Int.tmod b' 12) (hc : Int.tmod c 10 = Int.tmod c' 10) (hd : Int.tmod d 10 = Int.tmod d' 10) (he : Int.tmod e 10 = Int.tmod e' 10) :
    confidantlaw8_VerifyBounds.f K a b c d e = confidantlaw8_VerifyBounds.f K a' b' c' d' e' := by
  unfold confidantlaw8_VerifyBounds.f
  simp only [ha, hb, hc, hd, he]
theorem tm (m : Nat) (hm : 0 < m) (a : Int) (h : 0 ≤ a) : ∃ x : Nat, x < m ∧ Int.tmod a (m : Int) = Int.tmod (x : Int) (m : Int) := by
  refine ⟨(a % (m : Int)).toNat, ?_, ?_⟩
  · have := Int.emod_nonneg a (show (m : Int) ≠ 0 by omega)
    have := Int.emod_lt_of_pos a (show (0 : Int) < m by omega)
    omega
  · have h1 := Int.emod_nonneg a (show (m : Int) ≠ 0 by omega)
    have h2 := Int.emod_lt_of_pos a (show (0 : Int) < m by omega)
    rw [Int.tmod_eq_emod_of_nonneg h, Int.tmod_eq_emod_of_nonneg (by omega), Int.toNat_of_nonneg h1, Int.emod_emod]
theorem vb0 (n : Nat) (hn : n < 12) (c d e : Int) : confidantlaw8_VerifyBounds.f 200 0 (n : Int) c d e = some true := by
  rcases (by omega : n = 0 ∨ n = 1 ∨ n = 2 ∨ n = 3 ∨ n = 4 ∨ n = 5 ∨ n = 6 ∨ n = 7 ∨ n = 8 ∨ n = 9 ∨ n = 10 ∨ n = 11) with rfl | rfl | rfl | rfl | rfl | rfl | rfl | rfl | rfl | rfl | rfl | rfl
  all_goals kernel_rfl
theorem vb1 (n : Nat) (hn : n < 12) (c d e : Int) : confidantlaw8_VerifyBounds.f 200 1 (n : Int) c d e = some true := by
  rcases (by omega : n = 0 ∨ n = 1 ∨ n = 2 ∨ n = 3 ∨ n = 4 ∨ n = 5 ∨ n = 6 ∨ n = 7 ∨ n = 8 ∨ n = 9 ∨ n = 10 ∨ n = 11) with rfl | rfl | rfl | rfl | rfl | rfl | rfl | rfl | rfl | rfl | rfl | rfl
  all_goals kernel_rfl
theorem vb2 (n : Nat) (hn : n < 12) (c e : Int) (d : Nat) (hd : d < 10) : confidantlaw8_VerifyBounds.f 200 2 (n : Int) c (d : Int) e = some true := by
  rcases (by omega : n = 0 ∨ n = 1 ∨ n = 2 ∨ n = 3 ∨ n = 4 ∨ n = 5 ∨ n = 6 ∨ n = 7 ∨ n = 8 ∨ n = 9 ∨ n = 10 ∨ n = 11) with rfl | rfl | rfl | rfl | rfl | rfl | rfl | rfl | rfl | rfl | rfl | rfl
  all_goals rcases (by omega : d = 0 ∨ d = 1 ∨ d = 2 ∨ d = 3 ∨ d = 4 ∨ d = 5 ∨ d = 6 ∨ d = 7 ∨ d = 8 ∨ d = 9) with rfl | rfl | rfl | rfl | rfl | rfl | rfl | rfl | rfl | rfl
  all_goals kernel_rfl
theorem vb3 (n : Nat) (hn : n < 12) (d e : Int) (c : Nat) (hd : c < 10) : confidantlaw8_VerifyBounds.f 200 3 (n : Int) (c : Int) d e = some true := by
  rcases (by omega : n = 0 ∨ n = 1 ∨ n = 2 ∨ n = 3 ∨ n = 4 ∨ n = 5 ∨ n = 6 ∨ n = 7 ∨ n = 8 ∨ n = 9 ∨ n = 10 ∨ n = 11) with rfl | rfl | rfl | rfl | rfl | rfl | rfl | rfl | rfl | rfl | rfl | rfl
  all_goals rcases (by omega : c = 0 ∨ c = 1 ∨ c = 2 ∨ c = 3 ∨ c = 4 ∨ c = 5 ∨ c = 6 ∨ c = 7 ∨ c = 8 ∨ c = 9) with rfl | rfl | rfl | rfl | rfl | rfl | rfl | rfl | rfl | rfl
  all_goals kernel_rfl
theorem vb4 (n : Nat) (hn : n < 12) (c d : Int) (e : Nat) (hd : e < 10) : confidantlaw8_VerifyBounds.f 200 4 (n : Int) c d (e : Int) = some true := by
  rcases (by omega : n = 0 ∨ n = 1 ∨ n = 2 ∨ n = 3 ∨ n = 4 ∨ n = 5 ∨ n = 6 ∨ n = 7 ∨ n = 8 ∨ n = 9 ∨ n = 10 ∨ n = 11) with rfl | rfl | rfl | rfl | rfl | rfl | rfl | rfl | rfl | rfl | rfl | rfl
  all_goals rcases (by omega : e = 0 ∨ e = 1 ∨ e = 2 ∨ e = 3 ∨ e = 4 ∨ e = 5 ∨ e = 6 ∨ e = 7 ∨ e = 8 ∨ e = 9) with rfl | rfl | rfl | rfl | rfl | rfl | rfl | rfl | rfl | rfl
  all_goals kernel_rfl
theorem VerifyBounds : confidantlaw8_VerifyBounds.Pure := by
  intro a b c d e ha hb hc hd he
  have ua := is_u8 ha
  have ub := is_u8 hb
  have uc := is_u8 hc
  have ud := is_u8 hd
  have ue := is_u8 he
  refine ⟨200, ?_⟩
  obtain ⟨x, hx, ex⟩ := tm 5 (by omega) a ua.1
  obtain ⟨n, hn, en⟩ := tm 12 (by omega) b ub.1
  obtain ⟨c', hc', ec⟩ := tm 10 (by omega) c uc.1
  obtain ⟨d', hd', ed⟩ := tm 10 (by omega) d ud.1
  obtain ⟨e', he', ee⟩ := tm 10 (by omega) e ue.1
  rw [vb_same 200 a x b n c c' d d' e e' ex en ec ed ee]
  match x, hx with
  | 0, _ => exact vb0 n hn _ _ _
  | 1, _ => exact vb1 n hn _ _ _
  | 2, _ => exact vb2 n hn _ _ d' hd'
  | 3, _ => exact vb3 n hn _ _ c' hc'
  | 4, _ => exact vb4 n hn _ _ e' he'
  | x + 5, h => omega
end Go.Proofs.Ytlcnkngpankkpaa.Pure
