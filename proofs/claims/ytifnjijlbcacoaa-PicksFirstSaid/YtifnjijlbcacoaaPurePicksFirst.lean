import Derived.Test.YtifnjijlbcacoaaPicks
/- What is told is chosen first; what comes behind hangs on the seed alone. No condition. -/
set_option linter.unusedVariables false
set_option linter.unusedSimpArgs false
namespace Go.Proofs.Ytifnjijlbcacoaa.Pure
open Go Go.Fw Go.RowKit Go.Proofs.Ytifnjijlbcacoaa.G Go.Proofs.Ytifnjijlbcacoaa.Rng

theorem pf_k {a : Int} (h : 0 ≤ a ∧ a ≤ 255) : IntKind.i64.wrap ((IntKind.i64.wrap (Int.tmod a 8)) + 1) = a % 8 + 1 := by
  rw [Int.tmod_eq_emod_of_nonneg (by omega), w64_id (x := a % 8) (by omega) (by omega), w64_id (by omega) (by omega)]
theorem pf_mx {a : Int} (h : 0 ≤ a ∧ a ≤ 255) : mx (a % 8 + 1) 1 = a % 8 + 1 := by unfold mx; rw [if_neg (by omega)]

theorem pf_step (K : Nat) (l : List Int) (hl : B8 l) (hlen : (l.length : Int) ≤ 30) (a : Int) (ha : 0 ≤ a ∧ a ≤ 255) (j : List Int → Int → List Int → Int → Option Bool) (n : Nat) (p q i : Int) (hp : U p) (hq : U q) (h0 : 0 ≤ i) (h1 : i < (l.length : Int)) :
    confidantlaw17_PicksFirst.l0 K l a j (n + 1) (l.drop i.toNat) q (l.drop i.toNat) p i = confidantlaw17_PicksFirst.l0 K l a j n (l.drop (i + 1).toNat) q (l.drop (i + 1).toNat) p (i + 1) := by
  rw [confidantlaw17_PicksFirst.l0.eq_2, if_pos h1, pf_k ha]
  simp only [lt]
  have hd := hl.drop i.toNat
  rw [pn_f K hp hd (by omega), pn_f K hq hd (by omega), pf_mx ha]
  have hne : l.drop i.toNat ≠ [] := by
    intro he
    have := congrArg List.length he
    simp at this
    omega
  have e1 : (l.drop i.toNat).getD 0 0 = l.getD i.toNat 0 := by simp [List.getD, List.getElem?_drop]
  have e2 : (l.drop i.toNat).drop 1 = l.drop (i + 1).toNat := by
    rw [List.drop_drop]; congr 1; omega
  have e3 : ((l.drop (i + 1).toNat).length : Int) = (l.length : Int) - i - 1 := by simp; omega
  have hx := b8_0 hd
  rw [e1] at hx
  have e4 : IntKind.i64.wrap (l.getD i.toNat 0) = l.getD i.toNat 0 := w64_id (by omega) (by omega)
  have e5 : IntKind.i64.wrap (IntKind.i64.wrap ((l.length : Int) - i) - 1) = (l.length : Int) - i - 1 := by
    rw [w64_id (x := (l.length : Int) - i) (by omega) (by omega), w64_id (by omega) (by omega)]
  simp only [b3, b2, nS, nV, if_neg hne, e1, e2, e4, e5, left_f, e3, if_true]
  rw [if_pos h0, if_neg (by omega), w64_id (x := i + 1) (by omega) (by omega)]
  simp

theorem pf_loop (K : Nat) (l : List Int) (hl : B8 l) (hlen : (l.length : Int) ≤ 30) (a : Int) (ha : 0 ≤ a ∧ a ≤ 255) (j : List Int → Int → List Int → Int → Option Bool) (d : Nat) : ∀ (n : Nat) (p q i : Int), U p → U q → 0 ≤ i → i ≤ (l.length : Int) → (l.length : Int) - i = d → d < n →
    confidantlaw17_PicksFirst.l0 K l a j n (l.drop i.toNat) q (l.drop i.toNat) p i = j [] q [] p := by
  induction d with
  | zero =>
    intro n p q i hp hq h0 hi hd hn
    obtain ⟨n, rfl⟩ : ∃ k, n = k + 1 := ⟨n - 1, by omega⟩
    rw [confidantlaw17_PicksFirst.l0.eq_2, if_neg (by omega)]
    have : l.drop i.toNat = [] := List.drop_eq_nil_of_le (by omega)
    rw [this]
  | succ d ih =>
    intro n p q i hp hq h0 hi hd hn
    obtain ⟨n, rfl⟩ : ∃ k, n = k + 1 := ⟨n - 1, by omega⟩
    rw [pf_step K l hl hlen a ha j n p q i hp hq h0 (by omega)]
    exact ih n p q (i + 1) hp hq (by omega) (by omega) (by omega) (by omega)

theorem pf2_loop (K : Nat) (a : Int) (ha : 0 ≤ a ∧ a ≤ 255) (j : List Int → Int → List Int → Int → Option Bool) (d : Nat) : ∀ (n : Nat) (s i : Int), U s → 0 ≤ i → i ≤ 20 → 20 - i = d → d < n →
    ∃ s', confidantlaw17_PicksFirst.l1 K a j n [] s [] s i = j [] s' [] s' := by
  induction d with
  | zero =>
    intro n s i hs h0 hi hd hn
    obtain ⟨n, rfl⟩ : ∃ k, n = k + 1 := ⟨n - 1, by omega⟩
    refine ⟨s, ?_⟩
    rw [confidantlaw17_PicksFirst.l1.eq_2, if_neg (by omega)]
  | succ d ih =>
    intro n s i hs h0 hi hd hn
    obtain ⟨n, rfl⟩ : ∃ k, n = k + 1 := ⟨n - 1, by omega⟩
    have hnil : B8 [] := fun x hx => by simp at hx
    obtain ⟨s', h⟩ := ih n (nS [] s) (i + 1) (nS_U hs) (by omega) (by omega) (by omega) (by omega)
    refine ⟨s', ?_⟩
    rw [confidantlaw17_PicksFirst.l1.eq_2, if_pos (by omega), pf_k ha, pn_f K hs hnil (by omega), w64_id (x := i + 1) (by omega) (by omega)]
    simp only [b3, if_true]
    exact h

theorem PicksFirst : confidantlaw17_PicksFirst.Pure := by
  intro l seed a _ hl hseed ha
  have us := U_of hseed
  have ua := is_u8 ha
  refine ⟨1000, ?_⟩
  unfold confidantlaw17_PicksFirst.f
  simp only [pk_known, b1, if_true, lt]
  by_cases h : (l.length : Int) > 30
  · rw [if_pos h]
  · rw [if_neg h, pnew_f 1000 (by omega), pnew_f 1000 (by omega), pnew_f 1000 (by simp)]
    simp only [b2]
    have uq : U (IntKind.u64.wrap (seed + 1)) := by rw [wu64]; unfold U; omega
    refine (pf_loop 1000 l (B8_of hl) (by omega) a ua _ l.length 1000 (mx seed 1) (mx (IntKind.u64.wrap (seed + 1)) 1) 0 (mx_U us).1 (mx_U uq).1 (by omega) (by omega) (by omega) (by omega)).trans ?_
    obtain ⟨s', h3⟩ := pf2_loop 1000 a ua (fun x4113 x4116 x4117 x4120 => b2 (picks_Picks_Left.f 1000 x4117 x4120) fun t4321 t4322 => if t4322 = 0 then b2 (picks_Picks_Left.f 1000 [] (mx (IntKind.u64.wrap (seed + 1)) 1)) fun t4325 t4326 => some (decide (t4326 = 0)) else some false) 20 1000 (mx seed 1) 0 (mx_U us).1 (by omega) (by omega) (by omega) (by omega)
    refine h3.trans ?_
    simp [left_f, b2]

end Go.Proofs.Ytifnjijlbcacoaa.Pure
