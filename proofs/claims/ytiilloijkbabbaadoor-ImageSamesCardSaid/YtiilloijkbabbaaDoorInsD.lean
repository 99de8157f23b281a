import Derived.Test.YtiilloijkbabbaaDoorInsC
/- The document's reading of texts and bytes. Conditions: in the lemmas. -/
set_option linter.unusedVariables false
set_option linter.unusedSimpArgs false
namespace Go.Proofs.YtiilloijkbabbaaDoor.Ins
open Go Go.Fw Go.RowKit Go.Proofs.YtiilloijkbabbaaDoor.G Go.Proofs.YtiilloijkbabbaaDoor.Pack Go.Proofs.YtiilloijkbabbaaDoor.Txt

/-! ### bytes -/
theorem arg_nn : ∀ i : Fin 26, 0 ≤ argT ((i : Nat) + 1 : Int) := by decide +kernel
theorem argT_nn (op : Int) : 0 ≤ argT op := by
  by_cases h : Kn op
  · obtain ⟨i, rfl⟩ := fin_of op h; exact arg_nn i
  · rw [argT_un op h]; omega
/-! ### names -/
/-! ### texts -/
theorem split_at (s : ByteArray) : ∃ (A R : List UInt8), (cutA s ⟨#[32]⟩).data.toList = A ∧ (cutB s ⟨#[32]⟩).data.toList = R ∧ (32 : UInt8) ∉ A ∧ s.data.toList.take A.length = A ∧ s.data.toList.drop (A.length + 1) = R ∧ A.length ≤ s.data.toList.length ∧ (A.length = s.data.toList.length ∨ s.data.toList[A.length]? = some 32) := by
  rcases split_sp s.data.toList with h | ⟨a, r, h, ha⟩
  · obtain ⟨c1, c2⟩ := cut_miss s h
    refine ⟨_, _, c1, c2, h, ?_, ?_, Nat.le_refl _, .inl rfl⟩
    · exact List.take_length ..
    · exact List.drop_eq_nil_of_le (by omega)
  · obtain ⟨c1, c2⟩ := cut_hit s a r h ha
    refine ⟨_, _, c1, c2, ha, ?_, ?_, ?_, .inr ?_⟩
    · rw [h]; exact List.take_left ..
    · rw [h, show a ++ 32 :: r = (a ++ [32]) ++ r by simp, show a.length + 1 = (a ++ [32]).length by simp]; exact List.drop_left ..
    · rw [h]; simp
    · rw [h]; simp
theorem sAt_eq (s : ByteArray) (j : Nat) (c : UInt8) (h : s.data.toList[j]? = some c) : sAt s (j : Int) = (c.toNat : Int) := by
  unfold sAt
  rw [Int.toNat_natCast, List.getD_eq_getElem?_getD, h]
  rfl
theorem nDigits_le : ∀ (m u : Nat), u < 10 ^ (m + 1) → Lib.nDigits u ≤ m + 1
  | 0, u, h => by rw [Lib.nDigits_small (by omega)]; omega
  | m + 1, u, h => by
    by_cases h1 : u < 10
    · rw [Lib.nDigits_small h1]; omega
    · rw [Lib.nDigits_big h1]
      have := nDigits_le m (u / 10) (by rw [Nat.pow_succ] at h; omega)
      omega
theorem itoa_len (n : Int) (h : i32r n) : (Lib.itoa n).length ≤ 11 := by
  unfold i32r at h
  have e : (10 : Nat) ^ (9 + 1) = 10000000000 := by decide
  unfold Lib.itoa
  split
  · have := nDigits_le 9 n.natAbs (by omega)
    rw [List.length_cons, Lib.decDigits_length]
    omega
  · have := nDigits_le 9 n.toNat (by omega)
    rw [Lib.decDigits_length]
    omega
/-- does this number make that text? -/
def Pm (op : Int) (s : ByteArray) (x : Int) : Prop := i32r x ∧ (if Rt op x then textL op x else (⟨#[]⟩ : ByteArray)).data.toList = s.data.toList
instance (op : Int) (s : ByteArray) (x : Int) : Decidable (Pm op s x) := by unfold Pm; infer_instance
theorem pm_of (op : Int) (s : ByteArray) (x : Int) (hne : s.data.toList ≠ []) (h : Pm op s x) : i32r x ∧ Rt op x ∧ textL op x = s := by
  refine ⟨h.1, ?_⟩
  have h2 := h.2
  by_cases hr : Rt op x
  · rw [if_pos hr] at h2; exact ⟨hr, eq_of_list h2⟩
  · rw [if_neg hr] at h2; exact absurd h2.symm hne
end Go.Proofs.YtiilloijkbabbaaDoor.Ins
