import Derived.Test.YtlcnkngpankkpaaVtCode
import Derived.Test.YtlcnkngpankkpaaG2
/- The program's walk and the document's go side by side. Conditions: in the lemmas. -/
set_option linter.unusedVariables false
set_option linter.unusedSimpArgs false
namespace Go.Proofs.Ytlcnkngpankkpaa.Vt
open Go Go.Fw Go.RowKit Go.Proofs.Ytlcnkngpankkpaa.G

/-- what is known of a kind of instruction -/
def Kn (K : Nat) (o : Int) : Prop := ∃ c q a : Int, ops_Pops.f K o = some c ∧ confidantref5_Pops.f K o = some c ∧ ops_Pushes.f K o = some q ∧ confidantref5_Pushes.f K o = some q ∧ confidantref5_Arg.f K o = some a ∧ 0 ≤ c ∧ c ≤ 2 ∧ 0 ≤ q ∧ q ≤ 2 ∧ (a = 2 ↔ o = 10 ∨ o = 11)
/-- what is known of bounds -/
def My (K : Nat) (o x c F L G : Int) : Prop := ∃ b, verify_may.f K o x c F L G = some b ∧ confidantref5_within.f K o x c F L G = some b ∧ (b = true → (o = 10 ∨ o = 11) → 0 ≤ x ∧ IntKind.i64.wrap x < c)
theorem my_n {K : Nat} {o x c F L G : Int} (h : verify_may.f K o x c F L G = some true) (h2 : confidantref5_within.f K o x c F L G = some true) (ho : o ≠ 10 ∧ o ≠ 11) : My K o x c F L G := ⟨true, h, h2, fun _ h => absurd h (by omega)⟩
theorem my_0 {K : Nat} {o x c F L G : Int} (h : verify_may.f K o x c F L G = if decide (x = 0) = true then some true else some false) (h2 : confidantref5_within.f K o x c F L G = if decide (x = 0) = true then some true else some false) (ho : o ≠ 10 ∧ o ≠ 11) : My K o x c F L G := by
  unfold My
  rw [h, h2]
  cases decide (x = 0) with
  | true => exact ⟨true, rfl, rfl, fun _ h => absurd h (by omega)⟩
  | false => exact ⟨false, rfl, rfl, fun h => nomatch h⟩
theorem my_b {K : Nat} {o x c F L G : Int} (B : Int) (h : verify_may.f K o x c F L G = if decide (x ≥ 0) = true then some (decide (IntKind.i64.wrap x < B)) else some false) (h2 : confidantref5_within.f K o x c F L G = if decide (x ≥ 0) = true then some (decide (IntKind.i64.wrap x < B)) else some false) (ho : o = 10 ∨ o = 11 → B = c) : My K o x c F L G := by
  unfold My
  rw [h, h2]
  by_cases hx : x ≥ 0
  · rw [if_pos (decide_eq_true hx)]
    exact ⟨_, rfl, rfl, fun hb ho2 => ⟨hx, ho ho2 ▸ of_decide_eq_true hb⟩⟩
  · rw [if_neg (by simpa using hx)]
    exact ⟨false, rfl, rfl, fun h => nomatch h⟩

theorem kn1 (K : Nat) : Kn K 1 := ⟨0, 1, 1, by kernel_rfl, by kernel_rfl, by kernel_rfl, by kernel_rfl, by kernel_rfl, by omega, by omega, by omega, by omega, by omega⟩
theorem my1 (K : Nat) (x c F L G : Int) : My K 1 x c F L G := my_n (by kernel_rfl) (by kernel_rfl) (by omega)
theorem kn2 (K : Nat) : Kn K 2 := ⟨1, 0, 0, by kernel_rfl, by kernel_rfl, by kernel_rfl, by kernel_rfl, by kernel_rfl, by omega, by omega, by omega, by omega, by omega⟩
theorem my2 (K : Nat) (x c F L G : Int) : My K 2 x c F L G := my_0 (by kernel_rfl) (by kernel_rfl) (by omega)
theorem kn3 (K : Nat) : Kn K 3 := ⟨1, 2, 0, by kernel_rfl, by kernel_rfl, by kernel_rfl, by kernel_rfl, by kernel_rfl, by omega, by omega, by omega, by omega, by omega⟩
theorem my3 (K : Nat) (x c F L G : Int) : My K 3 x c F L G := my_0 (by kernel_rfl) (by kernel_rfl) (by omega)
theorem kn4 (K : Nat) : Kn K 4 := ⟨2, 1, 0, by kernel_rfl, by kernel_rfl, by kernel_rfl, by kernel_rfl, by kernel_rfl, by omega, by omega, by omega, by omega, by omega⟩
theorem my4 (K : Nat) (x c F L G : Int) : My K 4 x c F L G := my_0 (by kernel_rfl) (by kernel_rfl) (by omega)
theorem kn5 (K : Nat) : Kn K 5 := ⟨2, 1, 0, by kernel_rfl, by kernel_rfl, by kernel_rfl, by kernel_rfl, by kernel_rfl, by omega, by omega, by omega, by omega, by omega⟩
theorem my5 (K : Nat) (x c F L G : Int) : My K 5 x c F L G := my_0 (by kernel_rfl) (by kernel_rfl) (by omega)
theorem kn6 (K : Nat) : Kn K 6 := ⟨2, 1, 0, by kernel_rfl, by kernel_rfl, by kernel_rfl, by kernel_rfl, by kernel_rfl, by omega, by omega, by omega, by omega, by omega⟩
theorem my6 (K : Nat) (x c F L G : Int) : My K 6 x c F L G := my_0 (by kernel_rfl) (by kernel_rfl) (by omega)
theorem kn7 (K : Nat) : Kn K 7 := ⟨2, 1, 0, by kernel_rfl, by kernel_rfl, by kernel_rfl, by kernel_rfl, by kernel_rfl, by omega, by omega, by omega, by omega, by omega⟩
theorem my7 (K : Nat) (x c F L G : Int) : My K 7 x c F L G := my_0 (by kernel_rfl) (by kernel_rfl) (by omega)
theorem kn8 (K : Nat) : Kn K 8 := ⟨2, 1, 0, by kernel_rfl, by kernel_rfl, by kernel_rfl, by kernel_rfl, by kernel_rfl, by omega, by omega, by omega, by omega, by omega⟩
theorem my8 (K : Nat) (x c F L G : Int) : My K 8 x c F L G := my_0 (by kernel_rfl) (by kernel_rfl) (by omega)
theorem kn9 (K : Nat) : Kn K 9 := ⟨2, 1, 0, by kernel_rfl, by kernel_rfl, by kernel_rfl, by kernel_rfl, by kernel_rfl, by omega, by omega, by omega, by omega, by omega⟩
theorem my9 (K : Nat) (x c F L G : Int) : My K 9 x c F L G := my_0 (by kernel_rfl) (by kernel_rfl) (by omega)
theorem kn10 (K : Nat) : Kn K 10 := ⟨0, 0, 2, by kernel_rfl, by kernel_rfl, by kernel_rfl, by kernel_rfl, by kernel_rfl, by omega, by omega, by omega, by omega, by omega⟩
theorem my10 (K : Nat) (x c F L G : Int) : My K 10 x c F L G := my_b c (by kernel_rfl) (by kernel_rfl) (by omega)
theorem kn11 (K : Nat) : Kn K 11 := ⟨1, 0, 2, by kernel_rfl, by kernel_rfl, by kernel_rfl, by kernel_rfl, by kernel_rfl, by omega, by omega, by omega, by omega, by omega⟩
theorem my11 (K : Nat) (x c F L G : Int) : My K 11 x c F L G := my_b c (by kernel_rfl) (by kernel_rfl) (by omega)
theorem kn12 (K : Nat) : Kn K 12 := ⟨0, 1, 3, by kernel_rfl, by kernel_rfl, by kernel_rfl, by kernel_rfl, by kernel_rfl, by omega, by omega, by omega, by omega, by omega⟩
theorem my12 (K : Nat) (x c F L G : Int) : My K 12 x c F L G := my_b 4 (by kernel_rfl) (by kernel_rfl) (by omega)
theorem kn13 (K : Nat) : Kn K 13 := ⟨1, 0, 3, by kernel_rfl, by kernel_rfl, by kernel_rfl, by kernel_rfl, by kernel_rfl, by omega, by omega, by omega, by omega, by omega⟩
theorem my13 (K : Nat) (x c F L G : Int) : My K 13 x c F L G := my_b 4 (by kernel_rfl) (by kernel_rfl) (by omega)
theorem kn14 (K : Nat) : Kn K 14 := ⟨0, 1, 0, by kernel_rfl, by kernel_rfl, by kernel_rfl, by kernel_rfl, by kernel_rfl, by omega, by omega, by omega, by omega, by omega⟩
theorem my14 (K : Nat) (x c F L G : Int) : My K 14 x c F L G := my_0 (by kernel_rfl) (by kernel_rfl) (by omega)
theorem kn15 (K : Nat) : Kn K 15 := ⟨0, 0, 4, by kernel_rfl, by kernel_rfl, by kernel_rfl, by kernel_rfl, by kernel_rfl, by omega, by omega, by omega, by omega, by omega⟩
theorem my15 (K : Nat) (x c F L G : Int) : My K 15 x c F L G := my_b L (by kernel_rfl) (by kernel_rfl) (by omega)
theorem kn16 (K : Nat) : Kn K 16 := ⟨1, 1, 4, by kernel_rfl, by kernel_rfl, by kernel_rfl, by kernel_rfl, by kernel_rfl, by omega, by omega, by omega, by omega, by omega⟩
theorem my16 (K : Nat) (x c F L G : Int) : My K 16 x c F L G := my_b L (by kernel_rfl) (by kernel_rfl) (by omega)
theorem kn17 (K : Nat) : Kn K 17 := ⟨1, 1, 4, by kernel_rfl, by kernel_rfl, by kernel_rfl, by kernel_rfl, by kernel_rfl, by omega, by omega, by omega, by omega, by omega⟩
theorem my17 (K : Nat) (x c F L G : Int) : My K 17 x c F L G := my_b L (by kernel_rfl) (by kernel_rfl) (by omega)
theorem kn18 (K : Nat) : Kn K 18 := ⟨1, 1, 0, by kernel_rfl, by kernel_rfl, by kernel_rfl, by kernel_rfl, by kernel_rfl, by omega, by omega, by omega, by omega, by omega⟩
theorem my18 (K : Nat) (x c F L G : Int) : My K 18 x c F L G := my_0 (by kernel_rfl) (by kernel_rfl) (by omega)
theorem kn19 (K : Nat) : Kn K 19 := ⟨2, 0, 0, by kernel_rfl, by kernel_rfl, by kernel_rfl, by kernel_rfl, by kernel_rfl, by omega, by omega, by omega, by omega, by omega⟩
theorem my19 (K : Nat) (x c F L G : Int) : My K 19 x c F L G := my_0 (by kernel_rfl) (by kernel_rfl) (by omega)
theorem kn20 (K : Nat) : Kn K 20 := ⟨2, 1, 5, by kernel_rfl, by kernel_rfl, by kernel_rfl, by kernel_rfl, by kernel_rfl, by omega, by omega, by omega, by omega, by omega⟩
theorem my20 (K : Nat) (x c F L G : Int) : My K 20 x c F L G := my_b F (by kernel_rfl) (by kernel_rfl) (by omega)
theorem kn21 (K : Nat) : Kn K 21 := ⟨1, 1, 0, by kernel_rfl, by kernel_rfl, by kernel_rfl, by kernel_rfl, by kernel_rfl, by omega, by omega, by omega, by omega, by omega⟩
theorem my21 (K : Nat) (x c F L G : Int) : My K 21 x c F L G := my_0 (by kernel_rfl) (by kernel_rfl) (by omega)
theorem kn22 (K : Nat) : Kn K 22 := ⟨1, 0, 4, by kernel_rfl, by kernel_rfl, by kernel_rfl, by kernel_rfl, by kernel_rfl, by omega, by omega, by omega, by omega, by omega⟩
theorem my22 (K : Nat) (x c F L G : Int) : My K 22 x c F L G := my_b L (by kernel_rfl) (by kernel_rfl) (by omega)
theorem kn23 (K : Nat) : Kn K 23 := ⟨1, 1, 6, by kernel_rfl, by kernel_rfl, by kernel_rfl, by kernel_rfl, by kernel_rfl, by omega, by omega, by omega, by omega, by omega⟩
theorem my23 (K : Nat) (x c F L G : Int) : My K 23 x c F L G := my_b G (by kernel_rfl) (by kernel_rfl) (by omega)
theorem kn24 (K : Nat) : Kn K 24 := ⟨0, 2, 6, by kernel_rfl, by kernel_rfl, by kernel_rfl, by kernel_rfl, by kernel_rfl, by omega, by omega, by omega, by omega, by omega⟩
theorem my24 (K : Nat) (x c F L G : Int) : My K 24 x c F L G := my_b G (by kernel_rfl) (by kernel_rfl) (by omega)
theorem kn25 (K : Nat) : Kn K 25 := ⟨1, 0, 0, by kernel_rfl, by kernel_rfl, by kernel_rfl, by kernel_rfl, by kernel_rfl, by omega, by omega, by omega, by omega, by omega⟩
theorem my25 (K : Nat) (x c F L G : Int) : My K 25 x c F L G := my_0 (by kernel_rfl) (by kernel_rfl) (by omega)
theorem kn26 (K : Nat) : Kn K 26 := ⟨0, 0, 1, by kernel_rfl, by kernel_rfl, by kernel_rfl, by kernel_rfl, by kernel_rfl, by omega, by omega, by omega, by omega, by omega⟩
theorem my26 (K : Nat) (x c F L G : Int) : My K 26 x c F L G := my_n (by kernel_rfl) (by kernel_rfl) (by omega)
theorem kn (K : Nat) (o : Int) (h : 1 ≤ o ∧ o ≤ 26) : Kn K o := by
  rcases (by omega : o = 1 ∨ o = 2 ∨ o = 3 ∨ o = 4 ∨ o = 5 ∨ o = 6 ∨ o = 7 ∨ o = 8 ∨ o = 9 ∨ o = 10 ∨ o = 11 ∨ o = 12 ∨ o = 13 ∨ o = 14 ∨ o = 15 ∨ o = 16 ∨ o = 17 ∨ o = 18 ∨ o = 19 ∨ o = 20 ∨ o = 21 ∨ o = 22 ∨ o = 23 ∨ o = 24 ∨ o = 25 ∨ o = 26) with rfl | rfl | rfl | rfl | rfl | rfl | rfl | rfl | rfl | rfl | rfl | rfl | rfl | rfl | rfl | rfl | rfl | rfl | rfl | rfl | rfl | rfl | rfl | rfl | rfl | rfl
  · exact kn1 K
  · exact kn2 K
  · exact kn3 K
  · exact kn4 K
  · exact kn5 K
  · exact kn6 K
  · exact kn7 K
  · exact kn8 K
  · exact kn9 K
  · exact kn10 K
  · exact kn11 K
  · exact kn12 K
  · exact kn13 K
  · exact kn14 K
  · exact kn15 K
  · exact kn16 K
  · exact kn17 K
  · exact kn18 K
  · exact kn19 K
  · exact kn20 K
  · exact kn21 K
  · exact kn22 K
  · exact kn23 K
  · exact kn24 K
  · exact kn25 K
  · exact kn26 K
theorem my_in (K : Nat) (o x c F L G : Int) (h : 1 ≤ o ∧ o ≤ 26) : My K o x c F L G := by
  rcases (by omega : o = 1 ∨ o = 2 ∨ o = 3 ∨ o = 4 ∨ o = 5 ∨ o = 6 ∨ o = 7 ∨ o = 8 ∨ o = 9 ∨ o = 10 ∨ o = 11 ∨ o = 12 ∨ o = 13 ∨ o = 14 ∨ o = 15 ∨ o = 16 ∨ o = 17 ∨ o = 18 ∨ o = 19 ∨ o = 20 ∨ o = 21 ∨ o = 22 ∨ o = 23 ∨ o = 24 ∨ o = 25 ∨ o = 26) with rfl | rfl | rfl | rfl | rfl | rfl | rfl | rfl | rfl | rfl | rfl | rfl | rfl | rfl | rfl | rfl | rfl | rfl | rfl | rfl | rfl | rfl | rfl | rfl | rfl | rfl
  · exact my1 K x c F L G
  · exact my2 K x c F L G
  · exact my3 K x c F L G
  · exact my4 K x c F L G
  · exact my5 K x c F L G
  · exact my6 K x c F L G
  · exact my7 K x c F L G
  · exact my8 K x c F L G
  · exact my9 K x c F L G
  · exact my10 K x c F L G
  · exact my11 K x c F L G
  · exact my12 K x c F L G
  · exact my13 K x c F L G
  · exact my14 K x c F L G
  · exact my15 K x c F L G
  · exact my16 K x c F L G
  · exact my17 K x c F L G
  · exact my18 K x c F L G
  · exact my19 K x c F L G
  · exact my20 K x c F L G
  · exact my21 K x c F L G
  · exact my22 K x c F L G
  · exact my23 K x c F L G
  · exact my24 K x c F L G
  · exact my25 K x c F L G
  · exact my26 K x c F L G
theorem my_out (K : Nat) (o x c F L G : Int) (h : o < 1 ∨ 26 < o) : verify_may.f K o x c F L G = some false ∧ confidantref5_within.f K o x c F L G = some false := by
  have kp : ops_Known.f K o = some false := by
    unfold ops_Known.f
    rcases h with h | h
    · rw [if_neg (by omega)]
    · rw [if_pos (by omega), decide_eq_false (by omega)]
  have kr : confidantref5_Known.f K o = some false := by
    unfold confidantref5_Known.f
    rcases h with h | h
    · rw [if_neg (by omega)]
    · rw [if_pos (by omega), decide_eq_false (by omega)]
  have ap : ops_Arg.f K o = some 0 := by
    unfold ops_Arg.f ops_of.f
    rw [kp]
    rfl
  have ar : confidantref5_Arg.f K o = some 0 := by
    unfold confidantref5_Arg.f
    simp only [lt]
    rw [if_neg (by omega), decide_eq_false (by omega), if_neg (by simp), if_neg (by omega), decide_eq_false (by omega), if_neg (by simp), if_neg (by omega), decide_eq_false (by omega), if_neg (by simp), if_neg (by omega), if_neg (by omega), if_neg (by omega), decide_eq_false (by omega), if_neg (by simp), if_neg (by omega), if_neg (by omega), decide_eq_false (by omega), if_neg (by simp)]
  constructor
  · unfold verify_may.f instr_Right.f
    simp only [lt, ap, kp, b1]
    rfl
  · unfold confidantref5_within.f confidantref5_Right.f
    simp only [lt, ar, kr, b1]
    rfl
theorem may_same (K : Nat) (o x c F L G : Int) : ∃ b, verify_may.f K o x c F L G = some b ∧ confidantref5_within.f K o x c F L G = some b ∧ (b = true → (1 ≤ o ∧ o ≤ 26) ∧ ((o = 10 ∨ o = 11) → 0 ≤ x ∧ IntKind.i64.wrap x < c)) := by
  by_cases h : 1 ≤ o ∧ o ≤ 26
  · obtain ⟨b, h1, h2, h3⟩ := my_in K o x c F L G h
    exact ⟨b, h1, h2, fun hb => ⟨h, h3 hb⟩⟩
  · obtain ⟨h1, h2⟩ := my_out K o x c F L G (by omega)
    exact ⟨false, h1, h2, fun h => nomatch h⟩

/-! ### the least that is bad -/
def least : List Bool → Nat
  | [] => 0
  | b :: l => if b = true then 0 else least l + 1
theorem least_set : ∀ (l : List Bool) (i : Nat), i < l.length → least (l.set i true) = min (least l) i
  | [], i, h => by simp at h
  | b :: l, 0, h => by
    rw [List.set_cons_zero]
    unfold least
    rw [if_pos rfl, Nat.min_zero]
  | b :: l, i + 1, h => by
    rw [List.set_cons_succ]
    have ih := least_set l i (by simpa using h)
    unfold least
    cases b with
    | true => rw [if_pos rfl, if_pos rfl]; omega
    | false => rw [if_neg (by simp), if_neg (by simp), ih]; omega
theorem least_le : ∀ l : List Bool, least l ≤ l.length
  | [] => Nat.le_refl _
  | b :: l => by
    have := least_le l
    unfold least
    rw [List.length_cons]
    split <;> omega
theorem least_no : ∀ n : Nat, least (List.replicate n false) = n
  | 0 => rfl
  | n + 1 => by
    rw [List.replicate_succ]
    unfold least
    rw [if_neg (by simp), least_no n]
theorem least_at : ∀ (l : List Bool) (i : Nat), i ≤ least l → i < l.length → (l.getD i false = true ↔ i = least l)
  | [], i, _, h => by simp at h
  | b :: l, 0, _, _ => by
    unfold least
    cases b <;> simp
  | b :: l, i + 1, h, h2 => by
    unfold least at h ⊢
    cases b with
    | true => rw [if_pos rfl] at h; omega
    | false =>
      rw [if_neg (by simp)] at h ⊢
      have := least_at l i (by omega) (by simpa using h2)
      rw [List.getD_cons_succ, this]
      omega
theorem mn_least (a b : Nat) : mn (a : Int) (b : Int) = ((min a b : Nat) : Int) := by unfold mn; split <;> omega

/-! ### how many are not reached -/
def neg (D : List Int) : Nat := D.countP (fun x => decide (x < 0))
theorem neg_set (D : List Int) (i : Nat) (v : Int) (h : i < D.length) (hv : 0 ≤ v) (hD : D.getD i 0 < 0) : neg (D.set i v) + 1 = neg D := by
  unfold neg
  have hD : D[i] < 0 := by rw [List.getD_eq_getElem?_getD, List.getElem?_eq_getElem h] at hD; exact hD
  have hpos : 0 < D.countP (fun x => decide (x < 0)) := List.countP_pos_iff.2 ⟨D[i], List.getElem_mem h, decide_eq_true hD⟩
  rw [List.countP_set h, if_pos (decide_eq_true hD), if_neg (by simp; omega)]
  omega

/-! ### where it goes on -/
def nx (o x : Int) (i : Int) : List Int := (if o = 25 ∨ o = 26 ∨ o = 10 then [] else [i + 1]) ++ (if o = 10 ∨ o = 11 then [IntKind.i64.wrap x] else [])
theorem nx_len (o x i : Int) : (nx o x i).length ≤ 2 := by
  unfold nx
  rw [List.length_append]
  split <;> split <;> simp
theorem next_same (K : Nat) (f : List S32) (hf : f.length ≤ 512) (i : Nat) (hi : i < f.length) : verify_next.f K f (i : Int) = some (nx (f.getD i zS32).f0 (f.getD i zS32).f1 (i : Int)) := by
  have e : IntKind.i64.wrap ((i : Int) + 1) = (i : Int) + 1 := w64_id (by omega) (by omega)
  unfold verify_next.f ops_Ends.f nx
  rw [if_pos (by omega), if_pos (by omega), Int.toNat_natCast]
  generalize (f.getD i zS32).f0 = o
  generalize (f.getD i zS32).f1 = x
  simp only [lt, e]
  by_cases h25 : o = 25
  · subst h25; rfl
  by_cases h26 : o = 26
  · subst h26; rfl
  by_cases h10 : o = 10
  · subst h10; rfl
  by_cases h11 : o = 11
  · subst h11; rfl
  simp [h25, h26, h10, h11, b1]
/-- the document's way to what comes next -/
theorem next_ref {α : Type} (K : Nat) (o x : Int) (i : Nat) (hi : i ≤ 512) (h : 1 ≤ o ∧ o ≤ 26) (k : List Int → Option α) :
    (lt (fun (d6 : List Int) => (lt (fun (a5 : List Int) => (k a5)) fun o9 => (b1 (confidantref5_Arg.f K o) fun (p0 : Int) => (if p0 = 2 then (lt ([IntKind.i64.wrap x] : List Int) fun n5 => (if (d6.length + n5.length) * 8 ≤ 140737488355328 then (lt (d6 ++ n5) fun j0 => (o9 j0)) else none)) else (o9 d6))))) fun o7 => (lt (fun (n8 : Bool) => (if n8 = true then (lt ([IntKind.i64.wrap ((i : Int) + 1)] : List Int) fun n4 => (if (([] : List Int).length + n4.length) * 8 ≤ 140737488355328 then (lt (([] : List Int) ++ n4) fun i9 => (o7 i9)) else none)) else (o7 ([] : List Int)))) fun o8 => (b1 (confidantref5_Ends.f K o) fun (n7 : Bool) => (if n7 = true then (o8 false) else (o8 (!(decide (o = 10)))))))) = k (nx o x (i : Int)) := by
  have e : IntKind.i64.wrap ((i : Int) + 1) = (i : Int) + 1 := w64_id (by omega) (by omega)
  obtain ⟨c, q, a, _, _, _, _, ha, _, _, _, _, ha2⟩ := kn K o h
  unfold confidantref5_Ends.f nx
  simp only [lt, e, ha, b1]
  by_cases h25 : o = 25
  · have : a ≠ 2 := fun h => absurd (ha2.1 h) (by omega)
    simp [h25, this]
  by_cases h26 : o = 26
  · have : a ≠ 2 := fun h => absurd (ha2.1 h) (by omega)
    simp [h26, this]
  by_cases h10 : o = 10
  · have : a = 2 := ha2.2 (Or.inl h10)
    simp [h10, this]
  by_cases h11 : o = 11
  · have : a = 2 := ha2.2 (Or.inr h11)
    simp [h11, this]
  have : a ≠ 2 := fun h => absurd (ha2.1 h) (by omega)
  simp [h25, h26, h10, h11, this]


/-! ### one step -/
theorem l2_same (K : Nat) (f : List S32) (hf : f.length ≤ 512) (N W0 w0 : List Int) (n0 i : Nat) (a9 b4 v : Int) (hi : i < f.length) (hW0 : W0.getD n0 0 = (i : Int)) (hw0 : w0.getD 0 0 = (i : Int)) (hv : IntKind.i64.wrap (a9 + b4) = v) (hv0 : 0 ≤ v ∧ v ≤ 32) (hN : N.length ≤ 2) (hN0 : ∀ t ∈ N, 0 ≤ t) (g : List Int → List Int → Int → Option (List Int × Int)) (h : List Int → List Bool → List Int → Option (List Int × List Bool)) : ∀ (d k n : Nat) (w W D : List Int) (B : List Bool), k + d = N.length → d < n →
      D.length = f.length → B.length = f.length → (∀ x ∈ D, -1 ≤ x ∧ x ≤ 32) → w.length ≤ 600 → W.length ≤ 600 → w.length + d ≤ 600 → W.length + d ≤ 600 →
      ∃ (es D' : List Int) (B' : List Bool), D'.length = f.length ∧ B'.length = f.length ∧ (∀ x ∈ D', -1 ≤ x ∧ x ≤ 32) ∧ es.length + neg D' = neg D ∧ (∀ x ∈ es, 0 ≤ x ∧ x < (f.length : Int)) ∧
        verify_walk.l2 K N f w0 a9 b4 g n w D (least B : Int) (k : Int) = g (w ++ es) D' (least B' : Int) ∧ confidantref5_walk.l2 K N f W0 (n0 : Int) a9 b4 h n W B D (k : Int) = h (W ++ es) B' D' := by
  intro d
  induction d with
  | zero =>
    intro k n w W D B hk hn hD hB hb h1 h2 h3 h4
    obtain ⟨n, rfl⟩ : ∃ m, n = m + 1 := ⟨n - 1, by omega⟩
    refine ⟨[], D, B, hD, hB, hb, by simp, (fun x hx => nomatch hx), ?_, ?_⟩
    · rw [verify_walk.l2.eq_2, if_neg (by omega), List.append_nil]
    · rw [confidantref5_walk.l2.eq_2, if_neg (by omega), List.append_nil]
  | succ d ih =>
    intro k n w W D B hk hn hD hB hb h1 h2 h3 h4
    obtain ⟨n, rfl⟩ : ∃ m, n = m + 1 := ⟨n - 1, by omega⟩
    have hkN : k < N.length := by omega
    have hwk : IntKind.i64.wrap ((k : Int) + 1) = ((k + 1 : Nat) : Int) := by rw [w64_id (by omega) (by omega)]; omega
    have ht0 : 0 ≤ N.getD k 0 := by
      rw [List.getD_eq_getElem?_getD, List.getElem?_eq_getElem hkN]
      exact hN0 _ (List.getElem_mem hkN)
    obtain ⟨t, ht⟩ : ∃ t : Nat, N.getD k 0 = (t : Int) := ⟨(N.getD k 0).toNat, by omega⟩
    have eP : verify_walk.l2 K N f w0 a9 b4 g (n + 1) w D (least B : Int) (k : Int) = if (t : Int) ≥ (f.length : Int) then verify_walk.l2 K N f w0 a9 b4 g n w D (mn (least B : Int) (i : Int)) ((k + 1 : Nat) : Int) else if D.getD t 0 < 0 then verify_walk.l2 K N f w0 a9 b4 g n (w ++ [(t : Int)]) (D.set t v) (least B : Int) ((k + 1 : Nat) : Int) else if D.getD t 0 = v then verify_walk.l2 K N f w0 a9 b4 g n w D (least B : Int) ((k + 1 : Nat) : Int) else verify_walk.l2 K N f w0 a9 b4 g n w D (mn (least B : Int) (t : Int)) ((k + 1 : Nat) : Int) := by
      rw [verify_walk.l2.eq_2, if_pos (by omega)]
      simp only [lt, Int.toNat_natCast, hwk, hv, show (0 : Int).toNat = 0 from rfl, hw0, ht, List.length_singleton]
      rw [if_pos (by omega)]
      by_cases q1 : (t : Int) ≥ (f.length : Int)
      · rw [if_pos q1, if_pos q1]
      · rw [if_neg q1, if_neg q1, if_pos (by omega), if_pos (by omega), if_pos (c := (w.length + 1) * 8 ≤ 140737488355328) (by omega)]
    have eR : confidantref5_walk.l2 K N f W0 (n0 : Int) a9 b4 h (n + 1) W B D (k : Int) = if (t : Int) ≥ (f.length : Int) then confidantref5_walk.l2 K N f W0 (n0 : Int) a9 b4 h n W (B.set i true) D ((k + 1 : Nat) : Int) else if D.getD t 0 < 0 then confidantref5_walk.l2 K N f W0 (n0 : Int) a9 b4 h n (W ++ [(t : Int)]) B (D.set t v) ((k + 1 : Nat) : Int) else if D.getD t 0 = v then confidantref5_walk.l2 K N f W0 (n0 : Int) a9 b4 h n W B D ((k + 1 : Nat) : Int) else confidantref5_walk.l2 K N f W0 (n0 : Int) a9 b4 h n W (B.set t true) D ((k + 1 : Nat) : Int) := by
      rw [confidantref5_walk.l2.eq_2, if_pos (by omega)]
      simp only [lt, Int.toNat_natCast, hwk, hv, hW0, ht, List.length_singleton]
      rw [if_pos (by omega)]
      by_cases q1 : (t : Int) ≥ (f.length : Int)
      · rw [if_pos q1, if_pos q1, if_pos (by omega)]
      · rw [if_neg q1, if_neg q1, if_pos (by omega), if_pos (by omega), if_pos (c := (W.length + 1) * 8 ≤ 140737488355328) (by omega), if_pos (c := (t : Int) < (B.length : Int)) (by omega)]
    rw [eP, eR]
    by_cases q1 : (t : Int) ≥ (f.length : Int)
    · rw [if_pos q1, if_pos q1, mn_least, ← least_set B i (by omega)]
      exact ih (k + 1) n w W D (B.set i true) (by omega) (by omega) hD (by rw [List.length_set]; exact hB) hb h1 h2 (by omega) (by omega)
    · rw [if_neg q1, if_neg q1]
      by_cases q2 : D.getD t 0 < 0
      · rw [if_pos q2, if_pos q2]
        have hs := neg_set D t v (by omega) hv0.1 q2
        obtain ⟨es, D', B', r1, r2, r3, r4, r5, r6, r7⟩ := ih (k + 1) n (w ++ [(t : Int)]) (W ++ [(t : Int)]) (D.set t v) B (by omega) (by omega) (by rw [List.length_set]; exact hD) hB (fun x hx => by
          rcases List.mem_or_eq_of_mem_set hx with hx | hx
          · exact hb x hx
          · omega) (by simp; omega) (by simp; omega) (by simp; omega) (by simp; omega)
        refine ⟨(t : Int) :: es, D', B', r1, r2, r3, by rw [List.length_cons]; omega, ?_, ?_, ?_⟩
        · intro x hx
          rcases List.mem_cons.1 hx with rfl | hx
          · omega
          · exact r5 x hx
        · rw [r6, List.append_assoc]; rfl
        · rw [r7, List.append_assoc]; rfl
      · rw [if_neg q2, if_neg q2]
        by_cases q3 : D.getD t 0 = v
        · rw [if_pos q3, if_pos q3]
          exact ih (k + 1) n w W D B (by omega) (by omega) hD hB hb h1 h2 (by omega) (by omega)
        · rw [if_neg q3, if_neg q3, mn_least, ← least_set B t (by omega)]
          exact ih (k + 1) n w W D (B.set t true) (by omega) (by omega) hD (by rw [List.length_set]; exact hB) hb h1 h2 (by omega) (by omega)

/-! ### the walks -/
/-- the code is within its bounds -/
def Fit (f : List S32) : Prop := ∀ x ∈ f, (1 ≤ x.f0 ∧ x.f0 ≤ 26) ∧ ((x.f0 = 10 ∨ x.f0 = 11) → 0 ≤ IntKind.i64.wrap x.f1)
theorem l1_same (K : Nat) (hK : 4 ≤ K) (f : List S32) (hf : f.length ≤ 512) (hfit : Fit f) (g : List Int → List Int → Int → Option (List Int × Int)) (h : List Int → List Bool → List Int → Option (List Int × List Bool)) : ∀ (m n : Nat) (W D : List Int) (B : List Bool), 514 ≤ m + n → n ≤ W.length → W.length + neg D ≤ 512 →
      D.length = f.length → B.length = f.length → (∀ x ∈ D, -1 ≤ x ∧ x ≤ 32) → (∀ x ∈ W, 0 ≤ x ∧ x < (f.length : Int)) →
      ∃ (W' D' : List Int) (B' : List Bool), D'.length = f.length ∧ B'.length = f.length ∧
        verify_walk.l1 K f g m (W.drop n) D (least B : Int) = g [] D' (least B' : Int) ∧ confidantref5_walk.l1 K f h m W B D (n : Int) = h W' B' D' := by
  intro m
  induction m with
  | zero => intro n W D B hm hn hs; omega
  | succ m ih =>
    intro n W D B hm hn hs hD hB hb hW
    by_cases q : n = W.length
    · refine ⟨W, D, B, hD, hB, ?_, ?_⟩
      · rw [verify_walk.l1.eq_2, List.length_drop, if_neg (by omega), List.drop_eq_nil_of_le (by omega)]
      · rw [confidantref5_walk.l1.eq_2, if_neg (by omega)]
    have hnW : n < W.length := by omega
    have hg0 : (W.drop n).getD 0 0 = W.getD n 0 := by simp [List.getD]
    have hwn : IntKind.i64.wrap ((n : Int) + 1) = ((n + 1 : Nat) : Int) := by rw [w64_id (by omega) (by omega)]; omega
    have hat : 0 ≤ W.getD n 0 ∧ W.getD n 0 < (f.length : Int) := by
      rw [List.getD_eq_getElem?_getD, List.getElem?_eq_getElem hnW]
      exact hW _ (List.getElem_mem hnW)
    obtain ⟨i, hi⟩ : ∃ i : Nat, W.getD n 0 = (i : Int) := ⟨(W.getD n 0).toNat, by omega⟩
    have hif : i < f.length := by omega
    have hfi : f.getD i zS32 ∈ f := by
      rw [List.getD_eq_getElem?_getD, List.getElem?_eq_getElem hif]
      exact List.getElem_mem hif
    obtain ⟨ho, hx⟩ := hfit _ hfi
    obtain ⟨c, q, a, p1, p2, p3, p4, _, c1, c2, c3, c4, _⟩ := kn K _ ho
    have hdi : -1 ≤ D.getD i 0 ∧ D.getD i 0 ≤ 32 := by
      rw [List.getD_eq_getElem?_getD, List.getElem?_eq_getElem (by omega)]
      exact hb _ (List.getElem_mem _)
    have e2 : IntKind.i64.wrap (D.getD i 0 - c) = D.getD i 0 - c := w64_id (by omega) (by omega)
    have e3 : IntKind.i64.wrap (D.getD i 0 - c + q) = D.getD i 0 - c + q := w64_id (by omega) (by omega)
    have hdl : (W.drop n).length = W.length - n := List.length_drop
    have eP : verify_walk.l1 K f g (m + 1) (W.drop n) D (least B : Int) = if D.getD i 0 - c < 0 ∨ D.getD i 0 - c + q > 32 then verify_walk.l1 K f g m (W.drop (n + 1)) D (mn (least B : Int) (i : Int)) else verify_walk.l2 K (nx (f.getD i zS32).f0 (f.getD i zS32).f1 (i : Int)) f (W.drop n) (D.getD i 0 - c) q (fun e3 e0 e6 => if (1 : Int) ≤ (e3.length : Int) then verify_walk.l1 K f g m (e3.drop 1) e0 e6 else none) K (W.drop n) D (least B : Int) 0 := by
      rw [verify_walk.l1.eq_2, if_pos (by omega)]
      simp only [lt, show (0 : Int).toNat = 0 from rfl, hg0, hi, Int.toNat_natCast, p1, p3, b1, e2, e3, next_same K f hf i hif]
      rw [if_pos (by omega), if_pos (by omega), if_pos (by omega), if_pos (by omega)]
      have hlast : (if (1 : Int) ≤ ((W.drop n).length : Int) then verify_walk.l1 K f g m ((W.drop n).drop 1) D (mn (least B : Int) (i : Int)) else none) = verify_walk.l1 K f g m (W.drop (n + 1)) D (mn (least B : Int) (i : Int)) := by
        rw [if_pos (by omega), List.drop_drop]
      by_cases z1 : D.getD i 0 - c < 0
      · rw [if_pos z1, if_pos trivial, if_pos (Or.inl z1)]; exact hlast
      · rw [if_neg z1]
        by_cases z2 : D.getD i 0 - c + q > 32
        · rw [if_pos (decide_eq_true z2), if_pos (Or.inr z2)]; exact hlast
        · rw [if_neg (by simpa using z2), if_neg (by omega)]
    have eR : confidantref5_walk.l1 K f h (m + 1) W B D (n : Int) = if D.getD i 0 - c < 0 ∨ D.getD i 0 - c + q > 32 then confidantref5_walk.l1 K f h m W (B.set i true) D ((n + 1 : Nat) : Int) else confidantref5_walk.l2 K (nx (f.getD i zS32).f0 (f.getD i zS32).f1 (i : Int)) f W (n : Int) (D.getD i 0 - c) q (fun f6 f7 f8 => confidantref5_walk.l1 K f h m f6 f7 f8 ((n + 1 : Nat) : Int)) K W B D 0 := by
      rw [confidantref5_walk.l1.eq_2, if_pos (by omega)]
      have nr := next_ref (α := List Int × List Bool) K (f.getD i zS32).f0 (f.getD i zS32).f1 i (by omega) ho (fun a5 => confidantref5_walk.l2 K a5 f W (n : Int) (D.getD i 0 - c) q (fun f6 f7 f8 => confidantref5_walk.l1 K f h m f6 f7 f8 ((n + 1 : Nat) : Int)) K W B D 0)
      simp only [lt, hi, Int.toNat_natCast, p2, p4, b1, e2, e3, hwn] at nr ⊢
      rw [nr, if_pos (by omega), if_pos (by omega), if_pos (by omega), if_pos (by omega), if_pos (c := (i : Int) < (B.length : Int)) (by omega)]
      by_cases z1 : D.getD i 0 - c < 0
      · rw [if_pos z1, if_pos (Or.inl z1)]
      · rw [if_neg z1]
        by_cases z2 : D.getD i 0 - c + q > 32
        · rw [if_pos z2, if_pos (Or.inr z2)]
        · rw [if_neg z2, if_neg (by omega)]
    rw [eP, eR]
    by_cases z : D.getD i 0 - c < 0 ∨ D.getD i 0 - c + q > 32
    · rw [if_pos z, if_pos z, mn_least, ← least_set B i (by omega)]
      exact ih (n + 1) W D (B.set i true) (by omega) (by omega) hs hD (by rw [List.length_set]; exact hB) hb hW
    · rw [if_neg z, if_neg z]
      have hnx : ∀ t ∈ nx (f.getD i zS32).f0 (f.getD i zS32).f1 (i : Int), 0 ≤ t := by
        intro t ht
        unfold nx at ht
        rcases List.mem_append.1 ht with ht | ht
        · split at ht
          · exact nomatch ht
          · have := List.mem_singleton.1 ht; omega
        · split at ht
          · have := List.mem_singleton.1 ht
            rw [this]
            exact hx (by assumption)
          · exact nomatch ht
      obtain ⟨es, D', B', r1, r2, r3, r4, r5, r6, r7⟩ := l2_same K f hf (nx (f.getD i zS32).f0 (f.getD i zS32).f1 (i : Int)) W (W.drop n) n i (D.getD i 0 - c) q (D.getD i 0 - c + q) hif hi (by rw [hg0]; exact hi) e3 (by omega) (nx_len _ _ _) hnx (fun e3 e0 e6 => if (1 : Int) ≤ (e3.length : Int) then verify_walk.l1 K f g m (e3.drop 1) e0 e6 else none) (fun f6 f7 f8 => confidantref5_walk.l1 K f h m f6 f7 f8 ((n + 1 : Nat) : Int)) _ 0 K (W.drop n) W D B (Nat.zero_add _) (by have := nx_len (f.getD i zS32).f0 (f.getD i zS32).f1 (i : Int); omega) hD hB hb (by omega) (by omega) (by have := nx_len (f.getD i zS32).f0 (f.getD i zS32).f1 (i : Int); omega) (by have := nx_len (f.getD i zS32).f0 (f.getD i zS32).f1 (i : Int); omega)
      refine (?_ : ∃ (W' D' : List Int) (B' : List Bool), D'.length = f.length ∧ B'.length = f.length ∧ _ = g [] D' (least B' : Int) ∧ _ = h W' B' D')
      have r6' := r6
      rw [if_pos (by rw [List.length_append]; omega)] at r6'
      have hdd : (W.drop n ++ es).drop 1 = (W ++ es).drop (n + 1) := by
        rw [← List.drop_append_of_le_length (by omega), List.drop_drop]
      rw [hdd] at r6'
      obtain ⟨W2, D2, B2, s1, s2, s3, s4⟩ := ih (n + 1) (W ++ es) D' B' (by omega) (by rw [List.length_append]; omega) (by rw [List.length_append]; omega) r1 r2 r3 (fun x hx => (List.mem_append.1 hx).elim (hW x) (r5 x))
      exact ⟨W2, D2, B2, s1, s2, r6'.trans s3, r7.trans s4⟩
end Go.Proofs.Ytlcnkngpankkpaa.Vt
