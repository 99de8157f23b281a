import Derived.Test.YtipaaapbapijhaaDoorG1
import Derived.Test.YtipaaapbapijhaaDoorFwLaw
/- Names are what they are, letter by letter. No condition. -/
set_option linter.unusedVariables false
set_option linter.unusedSimpArgs false
namespace Go.Proofs.YtipaaapbapijhaaDoor.Pure
open Go Go.Fw Go.RowKit Go.Proofs.YtipaaapbapijhaaDoor.G

def theNames (K : Nat) : List ByteArray := (confidantref5_names.f K).getD []
theorem names_p : ops_names.f 100 = some (theNames 100) := by kernel_rfl
theorem names_r : confidantref5_names.f 100 = some (theNames 100) := by kernel_rfl
theorem names_l : (theNames 100).length = 26 := by kernel_rfl
def nm (i : Nat) : ByteArray := (theNames 100).getD i ⟨#[]⟩
theorem name_at : ∀ i : Fin 26, ops_Name.f 100 ((i : Nat) + 1 : Int) = some (nm i) := by decide +kernel
theorem name_size : ∀ i : Fin 26, 0 < (nm i).size ∧ (nm i).size ≤ 20 := by decide +kernel
theorem name_space : ∀ i : Fin 26, ops_Find.f 100 (nm i ++ (⟨#[32]⟩ : ByteArray)) = some (0, false) := by decide +kernel
theorem find_l (K : Nat) (l : List ByteArray) (hl : l.length ≤ 100) (s : ByteArray) : ∀ (d n i : Nat), i + d = l.length → d < n →
    (∃ k : Nat, k < l.length ∧ s.toList = (l.getD k ⟨#[]⟩).toList ∧ slices_Index_string_string.l0 K l s n (i : Int) = some (k : Int) ∧ confidantref5_Find.l0 K l s n (i : Int) = some ((k : Int) + 1, true)) ∨
    (slices_Index_string_string.l0 K l s n (i : Int) = some (-1) ∧ confidantref5_Find.l0 K l s n (i : Int) = some (0, false)) := by
  intro d
  induction d with
  | zero =>
    intro n i hd hn
    obtain ⟨n, rfl⟩ : ∃ k, n = k + 1 := ⟨n - 1, by omega⟩
    exact Or.inr ⟨by rw [slices_Index_string_string.l0.eq_2, if_neg (by omega)], by rw [confidantref5_Find.l0.eq_2, if_neg (by omega)]⟩
  | succ d ih =>
    intro n i hd hn
    obtain ⟨n, rfl⟩ : ∃ k, n = k + 1 := ⟨n - 1, by omega⟩
    have hw : IntKind.i64.wrap ((i : Int) + 1) = (i : Int) + 1 := w64_id (by omega) (by omega)
    have eP : slices_Index_string_string.l0 K l s (n + 1) (i : Int) = if (s.toList == (l.getD i ⟨#[]⟩).toList) = true then some (i : Int) else slices_Index_string_string.l0 K l s n ((i : Int) + 1) := by
      rw [slices_Index_string_string.l0.eq_2, if_pos (by omega), if_pos (by omega), Int.toNat_natCast, hw]
    have eR : confidantref5_Find.l0 K l s (n + 1) (i : Int) = if ((l.getD i ⟨#[]⟩).toList == s.toList) = true then some ((i : Int) + 1, true) else confidantref5_Find.l0 K l s n ((i : Int) + 1) := by
      rw [confidantref5_Find.l0.eq_2, if_pos (by omega), if_pos (by omega), Int.toNat_natCast, hw]
    rw [eP, eR]
    by_cases h : s.toList = (l.getD i ⟨#[]⟩).toList
    · rw [if_pos (beq_iff_eq.2 h), if_pos (beq_iff_eq.2 h.symm)]
      exact Or.inl ⟨i, by omega, h, rfl, rfl⟩
    · rw [if_neg (fun q => h (beq_iff_eq.1 q)), if_neg (fun q => h (beq_iff_eq.1 q).symm), show (i : Int) + 1 = ((i + 1 : Nat) : Int) by omega]
      exact ih n (i + 1) (by omega) (by omega)
theorem find_same (K : Nat) (hK : K = 100) (s : ByteArray) : ∃ (a : Int) (b : Bool), ops_Find.f K s = some (a, b) ∧ confidantref5_Find.f K s = some (a, b) ∧ (b = true → ∃ k : Fin 26, a = (k : Nat) + 1 ∧ s.toList = (nm k).toList) := by
  have hp : ops_names.f K = some (theNames 100) := by rw [hK]; exact names_p
  have hr : confidantref5_names.f K = some (theNames 100) := by rw [hK]; exact names_r
  have hl := names_l
  unfold ops_Find.f confidantref5_Find.f slices_Index_string_string.f
  rw [hp, hr]
  simp only [b1]
  rcases find_l K (theNames 100) (by omega) s 26 K 0 (by omega) (by omega) with ⟨k, hk, h0, h1, h2⟩ | ⟨h1, h2⟩
  · rw [show ((0 : Nat) : Int) = 0 from rfl] at h1 h2
    rw [h1, h2]
    simp only
    rw [if_neg (by omega), w64_id (by omega) (by omega), show (1 : Int) + (k : Int) = (k : Int) + 1 by omega]
    exact ⟨_, _, rfl, rfl, fun _ => ⟨⟨k, by omega⟩, rfl, h0⟩⟩
  · rw [show ((0 : Nat) : Int) = 0 from rfl] at h1 h2
    rw [h1, h2]
    simp only
    rw [if_pos (by omega)]
    exact ⟨_, _, rfl, rfl, fun h => nomatch h⟩
theorem names (K : Nat) (hK : K = 100) (hk : confidantlaw5_known.f K = some true) (a at_ c : Int) (ha : (Lit.int .u8 a).wf = true) (hat : (Lit.int .u8 at_).wf = true) : confidantlaw5_OpsNames.f K a at_ c = some true := by
  have ua := is_u8 ha
  have ut := is_u8 hat
  obtain ⟨i, hi⟩ : ∃ i : Fin 26, IntKind.i64.wrap (Int.tmod (IntKind.i64.wrap a) 26 + 1) = ((i : Nat) : Int) + 1 := by
    refine ⟨⟨(a % 26).toNat, by omega⟩, ?_⟩
    show _ = (((a % 26).toNat : Nat) : Int) + 1
    rw [w64_id (x := a) (by omega) (by omega), Int.tmod_eq_emod_of_nonneg ua.1, w64_id (by omega) (by omega)]
    omega
  have hn : ops_Name.f K (((i : Nat) : Int) + 1) = some (nm i) := by rw [hK]; exact name_at i
  have hs : ops_Find.f K (nm i ++ (⟨#[32]⟩ : ByteArray)) = some (0, false) := by rw [hK]; exact name_space i
  have hz := name_size i
  unfold confidantlaw5_OpsNames.f
  rw [hk]
  simp only [b1, hi]
  rw [if_pos trivial, hn]
  simp only [lt]
  have hl := bytesL_len (nm i)
  have hw : IntKind.i64.wrap at_ = at_ := w64_id (by omega) (by omega)
  have hm : 0 ≤ Int.tmod at_ ((bytesL (nm i)).length : Int) ∧ Int.tmod at_ ((bytesL (nm i)).length : Int) < ((bytesL (nm i)).length : Int) := by
    rw [Int.tmod_eq_emod_of_nonneg ut.1]
    exact ⟨Int.emod_nonneg _ (by omega), Int.emod_lt_of_pos _ (by omega)⟩
  rw [if_neg (by omega), if_pos (by omega), if_neg (by omega), hw, if_pos hm.1, if_pos hm.2]
  generalize bStr ((bytesL (nm i)).set (Int.tmod at_ ((bytesL (nm i)).length : Int)).toNat c) = x
  obtain ⟨p, b, h1, h2, h3⟩ := find_same K hK x
  rw [h1, h2]
  simp only [b2]
  have h32 : (⟨#[32]⟩ : ByteArray).size = 1 := rfl
  rw [if_pos (by rw [h32]; omega), hs]
  simp only
  rw [if_pos trivial, if_pos (beq_self_eq_true b), if_neg (by simp)]
  cases b with
  | false => rw [if_neg (by simp)]
  | true =>
    rw [if_pos rfl]
    obtain ⟨k, rfl, hx⟩ := h3 rfl
    have hq : ops_Name.f K (((k : Nat) : Int) + 1) = some (nm k) := by rw [hK]; exact name_at k
    rw [hq, hx]
    simp only
    rw [beq_self_eq_true]
theorem OpsNames : confidantlaw5_OpsNames.Pure := by
  intro a at_ c ha hat hc
  exact ⟨100, names 100 rfl (by kernel_rfl) a at_ c ha hat⟩
end Go.Proofs.YtipaaapbapijhaaDoor.Pure
