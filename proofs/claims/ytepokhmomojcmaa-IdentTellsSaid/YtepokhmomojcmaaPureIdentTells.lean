import Derived.Test.YtepokhmomojcmaaIdent
/- Each identity, its parts, and which may be. No condition. -/
set_option linter.unusedVariables false
set_option linter.unusedSimpArgs false
namespace Go.Proofs.Ytepokhmomojcmaa.Pure
open Go Go.Fw Go.RowKit Go.Proofs.Ytepokhmomojcmaa.G

theorem it0_step (K : Nat) (l : List S35) (j : List S35 → Option Bool) (n : Nat) (i : Int) (h0 : 0 ≤ i) (h1 : i < (l.length : Int)) (h2 : i < 100) :
    confidantlaw11_IdentTells.l0 K l j (n + 1) i = confidantlaw11_IdentTells.l0 K l j n (i + 1) := by
  rw [confidantlaw11_IdentTells.l0]
  rw [if_pos h1, if_pos h0, of_ref]
  generalize l.getD i.toNat zS35 = s
  obtain ⟨a, b⟩ := s
  have hi : IntKind.i64.wrap (i + 1) = i + 1 := w64_id (by omega) (by omega)
  by_cases h : 0 ≤ a ∧ a < 16 ∧ 0 ≤ b ∧ b < 65536
  · obtain ⟨a0, a1, c0, c1⟩ := h
    simp only
    rw [of_in K a0 a1 c0 c1]
    simp only [b2, lt, if_true, beq_self_eq_true]
    rw [label_f K (by omega) (by omega), number_f K (by omega) (by omega)]
    have e1 : (if a * 65536 + b < 0 then (-1 : Int) else (a * 65536 + b) / 65536) = a := by rw [if_neg (by omega)]; omega
    have e2 : (if a * 65536 + b < 0 then (-1 : Int) else (a * 65536 + b) % 65536) = b := by rw [if_neg (by omega)]; omega
    rw [e1, e2, hi]
    simp [b1]
  · simp only
    rw [of_out K h]
    simp only [b2, lt, if_true, beq_self_eq_true]
    rw [hi]
    simp

theorem it0_end (K : Nat) (l : List S35) (j : List S35 → Option Bool) (n : Nat) (i : Int) (h1 : i = (l.length : Int)) : confidantlaw11_IdentTells.l0 K l j (n + 1) i = j l := by
  rw [confidantlaw11_IdentTells.l0]
  rw [if_neg (by omega)]

theorem it1_step (K : Nat) (l : List Int) (m k : Int) (n : Nat) (i : Int) (hl : ∀ x ∈ l, -2147483648 ≤ x ∧ x ≤ 2147483647) (h0 : 0 ≤ i) (h1 : i < (l.length : Int)) (h2 : i < 100) :
    confidantlaw11_IdentTells.l1 K l m k (n + 1) i = confidantlaw11_IdentTells.l1 K l m k n (i + 1) := by
  rw [confidantlaw11_IdentTells.l1]
  rw [if_pos h1, if_pos h0]
  have hx : -2147483648 ≤ l.getD i.toNat 0 ∧ l.getD i.toNat 0 ≤ 2147483647 := by
    unfold List.getD
    cases hn : l[i.toNat]? with
    | none => simp
    | some x => exact hl x (List.mem_of_getElem? hn)
  generalize l.getD i.toNat 0 = x at hx ⊢
  obtain ⟨x1, x2⟩ := hx
  have hi : IntKind.i64.wrap (i + 1) = i + 1 := w64_id (by omega) (by omega)
  rw [rlabel_f K x1 x2, rnumber_f K x1 x2, rvalid_f K x1 x2, rvalid_f K x1 x2, label_f K x1 x2, number_f K x1 x2, valid_f K x1 x2, valid_f K x1 x2, hi]
  simp [b1, lt]

theorem it1_end (K : Nat) (l : List Int) (m k : Int) (n : Nat) (i : Int) (h1 : i = (l.length : Int)) : confidantlaw11_IdentTells.l1 K l m k (n + 1) i = some true := by
  rw [confidantlaw11_IdentTells.l1]
  rw [if_neg (by omega)]

theorem IdentTells : confidantlaw11_IdentTells.Pure := by
  intro a p q m k ha hp hq hm hk
  have ua := is_i32 ha
  refine ⟨4, ?_⟩
  unfold confidantlaw11_IdentTells.f
  simp only [id_known, b1, if_true, lt]
  have l3 : ∀ (x y z : S35), (([x, y, z] : List S35).length : Int) = 3 := fun _ _ _ => rfl
  have i3 : ∀ (x y z : Int), (([x, y, z] : List Int).length : Int) = 3 := fun _ _ _ => rfl
  rw [it0_step 4 _ _ 3 0 (by omega) (by rw [l3]; omega) (by omega), it0_step 4 _ _ 2 _ (by omega) (by rw [l3]; omega) (by omega), it0_step 4 _ _ 1 _ (by omega) (by rw [l3]; omega) (by omega), it0_end 4 _ _ 0 _ (by rw [l3]; rfl)]
  have hall : ∀ x ∈ ([a, bA .i32 a 2097151, IntKind.i32.wrap (0 - a)] : List Int), -2147483648 ≤ x ∧ x ≤ 2147483647 := by
    intro x hx
    simp only [List.mem_cons, List.mem_nil_iff, or_false] at hx
    rcases hx with h | h | h
    · omega
    · rw [h]; exact w32_in _
    · rw [h]; exact w32_in _
  rw [it1_step 4 _ _ _ 3 0 hall (by omega) (by rw [i3]; omega) (by omega), it1_step 4 _ _ _ 2 _ hall (by omega) (by rw [i3]; omega) (by omega), it1_step 4 _ _ _ 1 _ hall (by omega) (by rw [i3]; omega) (by omega), it1_end 4 _ _ _ 0 _ (by rw [i3]; rfl)]

end Go.Proofs.Ytepokhmomojcmaa.Pure
