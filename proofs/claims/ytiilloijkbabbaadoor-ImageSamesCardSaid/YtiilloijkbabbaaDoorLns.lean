import Derived.Test.YtiilloijkbabbaaDoorFwStr
import Derived.Test.YtiilloijkbabbaaDoorFwLaw
import Derived.Lib.SplitLaws
/- A text's lines. Conditions: in the lemmas. -/
set_option linter.unusedVariables false
set_option linter.unusedSimpArgs false
namespace Go.Proofs.YtiilloijkbabbaaDoor.Lns
open Go Go.Fw Go.RowKit

def lns : List UInt8 → List (List UInt8)
  | [] => [[]]
  | c :: l => if c = 10 then [] :: lns l else match lns l with
    | h :: t => (c :: h) :: t
    | [] => [[c]]
theorem lns_c (c : UInt8) (l : List UInt8) : lns (c :: l) = if c = 10 then [] :: lns l else match lns l with
    | h :: t => (c :: h) :: t
    | [] => [[c]] := rfl
theorem lns_ne : ∀ l, lns l ≠ []
  | [] => by simp [lns]
  | c :: l => by
    rw [lns_c]
    split
    · simp
    · split <;> simp
theorem lns_cons : ∀ (a r : List UInt8), (10 : UInt8) ∉ a → lns (a ++ 10 :: r) = a :: lns r
  | [], r, _ => by show lns (10 :: r) = _; rw [lns_c, if_pos rfl]
  | c :: a, r, h => by
    have hc : c ≠ 10 := fun e => h (e ▸ List.mem_cons_self ..)
    have ih := lns_cons a r (fun m => h (List.mem_cons_of_mem _ m))
    show lns (c :: (a ++ 10 :: r)) = _
    rw [lns_c, if_neg hc, ih]
theorem lns_one : ∀ (a : List UInt8), (10 : UInt8) ∉ a → lns a = [a]
  | [], _ => rfl
  | c :: a, h => by
    have hc : c ≠ 10 := fun e => h (e ▸ List.mem_cons_self ..)
    have ih := lns_one a (fun m => h (List.mem_cons_of_mem _ m))
    rw [lns_c, if_neg hc, ih]
theorem lns_len : ∀ l : List UInt8, (lns l).length ≤ l.length + 1
  | [] => by simp [lns]
  | c :: l => by
    have ih := lns_len l
    rw [lns_c]
    split
    · simp only [List.length_cons]; omega
    · split
      · rename_i h t e
        rw [e] at ih
        simp only [List.length_cons] at ih ⊢
        omega
      · simp
theorem split_nl : ∀ l : List UInt8, (10 : UInt8) ∉ l ∨ ∃ a r, l = a ++ 10 :: r ∧ (10 : UInt8) ∉ a
  | [] => .inl (by simp)
  | c :: l => by
    by_cases hc : c = 10
    · exact .inr ⟨[], l, by rw [hc]; rfl, by simp⟩
    · rcases split_nl l with h | ⟨a, r, rfl, ha⟩
      · exact .inl (fun m => (List.mem_cons.1 m).elim (fun e => hc e.symm) h)
      · exact .inr ⟨c :: a, r, rfl, fun m => (List.mem_cons.1 m).elim (fun e => hc e.symm) ha⟩
theorem index_nl : ∀ (a r : List UInt8), (10 : UInt8) ∉ a → Lib.index (a ++ 10 :: r) [10] = (a.length : Int)
  | [], r, _ => by unfold Lib.index; rfl
  | c :: a, r, h => by
    have hc : c ≠ 10 := fun e => h (e ▸ List.mem_cons_self ..)
    have ih := index_nl a r (fun m => h (List.mem_cons_of_mem _ m))
    show Lib.index (c :: (a ++ 10 :: r)) [10] = _
    unfold Lib.index
    have hp : [(10 : UInt8)].isPrefixOf (c :: (a ++ 10 :: r)) = false := by
      simp only [List.isPrefixOf, Bool.and_eq_false_iff]
      exact .inl (beq_eq_false_iff_ne.2 (Ne.symm hc))
    rw [hp, ih]
    have : ((a.length : Int) == -1) = false := beq_eq_false_iff_ne.2 (by omega)
    rw [this]
    simp
theorem index_nn : ∀ (a : List UInt8), (10 : UInt8) ∉ a → Lib.index a [10] = -1
  | [], _ => rfl
  | c :: a, h => by
    have hc : c ≠ 10 := fun e => h (e ▸ List.mem_cons_self ..)
    have ih := index_nn a (fun m => h (List.mem_cons_of_mem _ m))
    unfold Lib.index
    have hp : [(10 : UInt8)].isPrefixOf (c :: a) = false := by
      simp only [List.isPrefixOf, Bool.and_eq_false_iff]
      exact .inl (beq_eq_false_iff_ne.2 (Ne.symm hc))
    rw [hp, ih]
    rfl
theorem size_list (b : ByteArray) : b.data.toList.length = b.size := by rw [Array.length_toList]; rfl
theorem split_lns : ∀ (n : Nat) (s : ByteArray), s.size ≤ n → (splitL s ⟨#[10]⟩).map (·.data.toList) = lns s.data.toList := by
  have h1 : 1 ≤ (⟨#[10]⟩ : ByteArray).size := by decide
  have hz : (⟨#[10]⟩ : ByteArray).size = 1 := rfl
  intro n
  induction n with
  | zero =>
    intro s hs
    have hl := size_list s
    have : s.data.toList = [] := List.eq_nil_of_length_eq_zero (by omega)
    have hi : Lib.indexB s ⟨#[10]⟩ = -1 := by show Lib.index s.data.toList [10] = -1; rw [this]; rfl
    unfold splitL
    rw [Lib.countB_miss s _ hi, Lib.splitB_zero, this]
    simp [lns, this]
  | succ n ih =>
    intro s hs
    have hl := size_list s
    rcases split_nl s.data.toList with h | ⟨a, r, h, ha⟩
    · have hi : Lib.indexB s ⟨#[10]⟩ = -1 := index_nn _ h
      unfold splitL
      rw [Lib.countB_miss s _ hi, Lib.splitB_zero, lns_one _ h]
      rfl
    · have hi : Lib.indexB s ⟨#[10]⟩ = (a.length : Int) := by show Lib.index s.data.toList [10] = _; rw [h]; exact index_nl a r ha
      have hlen : s.data.toList.length = a.length + (1 + r.length) := by rw [h]; simp; omega
      have e1 : (s.extract 0 (a.length + 0)).data.toList = a := by
        rw [Lib.extract_data, List.drop_zero, h]
        simp
      have e2 : (s.extract (a.length + 1) s.size).data.toList = r := by
        rw [Lib.extract_data, h, show a ++ 10 :: r = (a ++ [10]) ++ r by simp, show a.length + 1 = (a ++ [10]).length by simp, List.drop_left]
        exact List.take_of_length_le (by simp; omega)
      have e3 : (s.extract (a.length + 1) s.size).size ≤ n := by rw [← size_list, e2]; omega
      have ih' := ih _ e3
      unfold splitL at ih' ⊢
      rw [Lib.countB_hit s _ a.length h1 hi, Nat.add_comm 1, Lib.splitB_hit _ _ _ s a.length hi]
      rw [hz]
      simp only [List.map_cons]
      rw [e1, ih', e2, h, lns_cons a r ha]
def ofL (l : List UInt8) : ByteArray := ⟨l.toArray⟩
theorem ofL_data (l : List UInt8) : (ofL l).data.toList = l := by unfold ofL; simp
theorem eq_ofL (s : ByteArray) : s = ofL s.data.toList := by
  apply ByteArray.ext
  unfold ofL
  simp
theorem splitL_eq (s : ByteArray) : splitL s ⟨#[10]⟩ = (lns s.data.toList).map ofL := by
  rw [← split_lns s.size s (Nat.le_refl _), List.map_map]
  conv => lhs; rw [← List.map_id (splitL s ⟨#[10]⟩)]
  exact List.map_congr_left fun x _ => eq_ofL x
theorem splitL_len (s : ByteArray) : (splitL s ⟨#[10]⟩).length ≤ s.size + 1 := by
  rw [splitL_eq, List.length_map]
  have := lns_len s.data.toList
  have := size_list s
  omega
theorem lns_mem : ∀ (l x : List UInt8), x ∈ lns l → x.length ≤ l.length
  | [], x, h => by simp [lns] at h; subst h; simp
  | c :: l, x, h => by
    rw [lns_c] at h
    split at h
    · rcases List.mem_cons.1 h with rfl | h
      · simp
      · have := lns_mem l x h; simp; omega
    · split at h
      · rename_i y t e
        rcases List.mem_cons.1 h with rfl | h
        · have := lns_mem l y (by rw [e]; exact List.mem_cons_self ..)
          simp; omega
        · have := lns_mem l x (by rw [e]; exact List.mem_cons_of_mem _ h)
          simp; omega
      · simp at h; subst h; simp
theorem splitL_mem (s x : ByteArray) (h : x ∈ splitL s ⟨#[10]⟩) : x.size ≤ s.size := by
  rw [splitL_eq] at h
  obtain ⟨l, hl, rfl⟩ := List.mem_map.1 h
  have := lns_mem _ _ hl
  rw [← size_list, ← size_list, ofL_data]
  exact this
end Go.Proofs.YtiilloijkbabbaaDoor.Lns
