import Derived.Test.YtepokhmomojcmaaG2
import Derived.Test.YtepokhmomojcmaaFwLaw
/- Sums, products, quotients, truths. No condition. -/
set_option linter.unusedVariables false
set_option linter.unusedSimpArgs false
namespace Go.Proofs.Ytepokhmomojcmaa.Pure
open Go Go.Fw Go.RowKit Go.Proofs.Ytepokhmomojcmaa.G

theorem wt_known (K : Nat) : confidantlaw9_known.f K = some true := by kernel_rfl
theorem wt_getD {l : List Int} {P : Int → Prop} (h : ∀ x ∈ l, P x) (h0 : P 0) (n : Nat) : P (l.getD n 0) := by
  unfold List.getD
  cases hn : l[n]? with
  | none => exact h0
  | some x => exact h x (List.mem_of_getElem? hn)

def In32 (x : Int) : Prop := -2147483648 ≤ x ∧ x ≤ 2147483647

theorem wt_div (K : Nat) {x y : Int} (hx : In32 x) (hy : In32 y) : confidantref9_Div.f K x y = word_Div.f K x y := by
  obtain ⟨x1, x2⟩ := hx
  obtain ⟨y1, y2⟩ := hy
  unfold confidantref9_Div.f word_Div.f
  by_cases h : y = 0
  · rw [if_pos h, if_pos h]
  · rw [if_neg h, if_neg h]
    have e1 : IntKind.i64.wrap x = x := w64_id (by omega) (by omega)
    have e2 : IntKind.i64.wrap y = y := w64_id (by omega) (by omega)
    rw [e1, e2, if_neg h]
    have hq := Int.natAbs_tdiv_le_natAbs x y
    have e3 : IntKind.i64.wrap (Int.tdiv x y) = Int.tdiv x y := w64_id (by omega) (by omega)
    rw [e3]
    rfl

theorem wt_add {x y : Int} (hx : In32 x) (hy : In32 y) : IntKind.i32.wrap (x + y) = IntKind.i32.wrap (IntKind.u32.wrap (IntKind.i64.wrap ((IntKind.i64.wrap x) + (IntKind.i64.wrap y)))) := by
  obtain ⟨x1, x2⟩ := hx
  obtain ⟨y1, y2⟩ := hy
  simp only [w32, wu32, w64]
  omega
theorem wt_sub {x y : Int} (hx : In32 x) (hy : In32 y) : IntKind.i32.wrap (x - y) = IntKind.i32.wrap (IntKind.u32.wrap (IntKind.i64.wrap ((IntKind.i64.wrap x) - (IntKind.i64.wrap y)))) := by
  obtain ⟨x1, x2⟩ := hx
  obtain ⟨y1, y2⟩ := hy
  simp only [w32, wu32, w64]
  omega
theorem wt_mul {x y : Int} (hx : In32 x) (hy : In32 y) : IntKind.i32.wrap (x * y) = IntKind.i32.wrap (IntKind.u32.wrap (IntKind.u64.wrap (IntKind.i64.wrap ((IntKind.i64.wrap x) * (IntKind.i64.wrap y))))) := by
  obtain ⟨x1, x2⟩ := hx
  obtain ⟨y1, y2⟩ := hy
  have e1 : IntKind.i64.wrap x = x := w64_id (by omega) (by omega)
  have e2 : IntKind.i64.wrap y = y := w64_id (by omega) (by omega)
  rw [e1, e2]
  generalize x * y = p
  simp only [w32, wu32, wu64, w64]
  omega

theorem WordTells : confidantlaw9_WordTells.Pure := by
  intro a b i j ha hb hi hj
  have ua := is_i32 ha
  have ub := is_i32 hb
  have ui := is_u8 hi
  have uj := is_u8 hj
  refine ⟨0, ?_⟩
  unfold confidantlaw9_WordTells.f
  simp only [wt_known, b1, if_true, lt]
  have e1 : IntKind.i64.wrap i = i := w64_id (by omega) (by omega)
  have e2 : IntKind.i64.wrap j = j := w64_id (by omega) (by omega)
  rw [e1, e2, Int.tmod_eq_emod_of_nonneg (by omega), Int.tmod_eq_emod_of_nonneg (by omega)]
  have hl : (([a, b, 0, 1, -1, 2147483647, -2147483648, 46341, 7] : List Int).length : Int) = 9 := rfl
  rw [hl, if_pos (by omega), if_pos (by omega), if_pos (by omega), if_pos (by omega)]
  have hall : ∀ x ∈ ([a, b, 0, 1, -1, 2147483647, -2147483648, 46341, 7] : List Int), In32 x := by
    intro x hx
    simp only [List.mem_cons, List.mem_nil_iff, or_false] at hx
    unfold In32
    rcases hx with h | h | h | h | h | h | h | h | h <;> omega
  have hx := wt_getD hall ⟨by omega, by omega⟩ (i % 9).toNat
  have hy := wt_getD hall ⟨by omega, by omega⟩ (j % 9).toNat
  generalize ([a, b, 0, 1, -1, 2147483647, -2147483648, 46341, 7] : List Int).getD (i % 9).toNat 0 = x at hx ⊢
  generalize ([a, b, 0, 1, -1, 2147483647, -2147483648, 46341, 7] : List Int).getD (j % 9).toNat 0 = y at hy ⊢
  rw [wt_div 0 hx hy]
  obtain ⟨⟨q, t⟩, hq⟩ : ∃ r, word_Div.f 0 x y = some r := by
    unfold word_Div.f; split <;> exact ⟨_, rfl⟩
  rw [hq]
  simp only [b2]
  have e3 : word_Add.f 0 x y = some (IntKind.i32.wrap (x + y)) := rfl
  have e4 : word_Sub.f 0 x y = some (IntKind.i32.wrap (x - y)) := rfl
  have e5 : word_Mul.f 0 x y = some (IntKind.i32.wrap (x * y)) := rfl
  rw [e3, e4, e5]
  simp only []
  rw [if_pos (wt_add hx hy), if_pos (wt_sub hx hy), if_pos (wt_mul hx hy)]
  simp only [if_true, beq_self_eq_true]
  have e6 : ∀ c : Bool, word_truth.f 0 c = confidantref9_Truth.f 0 c := fun c => rfl
  obtain ⟨u, hu⟩ : ∃ u, confidantref9_Truth.f 0 (decide (x < y)) = some u := by unfold confidantref9_Truth.f; split <;> exact ⟨_, rfl⟩
  obtain ⟨v, hv⟩ : ∃ u, confidantref9_Truth.f 0 (decide (x = y)) = some u := by unfold confidantref9_Truth.f; split <;> exact ⟨_, rfl⟩
  have e7 : word_Less.f 0 x y = some u := by unfold word_Less.f word_num_less.f; rw [e6, hu]; rfl
  have e8 : word_Eq.f 0 x y = some v := by unfold word_Eq.f word_num_eq.f; rw [e6, hv]; rfl
  rw [e7, e8, hu, hv]
  simp

end Go.Proofs.Ytepokhmomojcmaa.Pure
