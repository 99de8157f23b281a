import Derived.Test.YtiilloijkbabbaaDoorG0
import Derived.Test.YtiilloijkbabbaaDoorG1
import Derived.Test.YtiilloijkbabbaaDoorInsD
import Derived.Test.YtiilloijkbabbaaDoorImgP
/- The document's images: bytes, lines, sameness. Conditions: in the lemmas. -/
set_option linter.unusedVariables false
set_option linter.unusedSimpArgs false
namespace Go.Proofs.YtiilloijkbabbaaDoor.Img
open Go Go.Fw Go.RowKit Go.Proofs.YtiilloijkbabbaaDoor.G Go.Proofs.YtiilloijkbabbaaDoor.Pack Go.Proofs.YtiilloijkbabbaaDoor.Txt Go.Proofs.YtiilloijkbabbaaDoor.Ins Go.Proofs.YtiilloijkbabbaaDoor.Lns

/-! ### sameness -/
theorem eqb2 (x y : S27) : ((x.f0 == y.f0) && ((x.f1 == y.f1) && true)) = decide (x = y) := by
  obtain ⟨a, b⟩ := x
  obtain ⟨c, d⟩ := y
  simp only [Bool.and_true]
  by_cases h : a = c ∧ b = d
  · obtain ⟨rfl, rfl⟩ := h
    simp
  · have : ¬ (⟨a, b⟩ : S27) = ⟨c, d⟩ := fun e => h (by injection e with e1 e2; exact ⟨e1, e2⟩)
    rw [decide_eq_false this]
    by_cases h1 : a = c
    · have h2 : ¬ b = d := fun e => h ⟨h1, e⟩
      simp [h1, h2]
    · simp [h1]
/-! ### bytes read -/
def takeN : Nat → List Int → Int → List S27 → List Int × Int × List S27 × Bool
  | 0, l, e, f => (l, e, f, true)
  | r + 1, l, e, f => if (tkR (tk l e)).2.2.2.2 = true then takeN r (tkR (tk l e)).1 (tkR (tk l e)).2.1 (f ++ [⟨(tkR (tk l e)).2.2.1, (tkR (tk l e)).2.2.2.1⟩]) else ((tkR (tk l e)).1, (tkR (tk l e)).2.1, [], false)
def takeI : Nat → List Int → Int → Im → List Int × Int × Im × Bool
  | 0, l, e, m => (l, e, m, true)
  | r + 1, l, e, m => if (takeN (lookN l e 512).2.2.toNat (lookN l e 512).1 (lookN l e 512).2.1 []).2.2.2 = true then
      takeI r (takeN (lookN l e 512).2.2.toNat (lookN l e 512).1 (lookN l e 512).2.1 []).1 (takeN (lookN l e 512).2.2.toNat (lookN l e 512).1 (lookN l e 512).2.1 []).2.1 (m ++ [(takeN (lookN l e 512).2.2.toNat (lookN l e 512).1 (lookN l e 512).2.1 []).2.2.1])
    else ((takeN (lookN l e 512).2.2.toNat (lookN l e 512).1 (lookN l e 512).2.1 []).1, (takeN (lookN l e 512).2.2.toNat (lookN l e 512).1 (lookN l e 512).2.1 []).2.1, [], false)
def takeF (t : List Int × Int × Im × Bool) : List Int × Int × Im × Bool := if t.2.2.2 = true then (if t.2.1 = 0 then (t.1, t.2.1, t.2.2.1, true) else (t.1, t.2.1, [], false)) else (t.1, t.2.1, [], false)
theorem tkR_ok (l : List Int) (e : Int) (hB : IsB l) : (tkR (tk l e)).1.length ≤ l.length ∧ IsB (tkR (tk l e)).1 := by
  have h := tk_ok l e hB
  unfold tkR
  split
  · exact ⟨h.1, h.2.1⟩
  · exact ⟨h.1, h.2.1⟩
theorem takeN_ok : ∀ (r : Nat) (l : List Int) (e : Int) (f : List S27), IsB l → (takeN r l e f).1.length ≤ l.length ∧ IsB (takeN r l e f).1 ∧ (takeN r l e f).2.2.1.length ≤ f.length + r
  | 0, l, e, f, h => ⟨Nat.le_refl _, h, Nat.le_refl _⟩
  | r + 1, l, e, f, h => by
    have h1 := tkR_ok l e h
    unfold takeN
    split
    · have h2 := takeN_ok r (tkR (tk l e)).1 (tkR (tk l e)).2.1 (f ++ [⟨(tkR (tk l e)).2.2.1, (tkR (tk l e)).2.2.2.1⟩]) h1.2
      rw [List.length_append, List.length_singleton] at h2
      exact ⟨Nat.le_trans h2.1 h1.1, h2.2.1, by omega⟩
    · exact ⟨h1.1, h1.2, by simp⟩
theorem takeI_ok : ∀ (r : Nat) (l : List Int) (e : Int) (m : Im), IsB l → (∀ f ∈ m, f.length ≤ 512) → (takeI r l e m).1.length ≤ l.length ∧ IsB (takeI r l e m).1 ∧ (takeI r l e m).2.2.1.length ≤ m.length + r ∧ ∀ f ∈ (takeI r l e m).2.2.1, f.length ≤ 512
  | 0, l, e, m, h, hm => ⟨Nat.le_refl _, h, Nat.le_refl _, hm⟩
  | r + 1, l, e, m, h, hm => by
    have h0 := look_ok l e 512 h
    have hle := look_le l e 512 (by omega) h
    have h1 := takeN_ok (lookN l e 512).2.2.toNat (lookN l e 512).1 (lookN l e 512).2.1 [] h0.2.1
    unfold takeI
    split
    · have h2 := takeI_ok r _ (takeN (lookN l e 512).2.2.toNat (lookN l e 512).1 (lookN l e 512).2.1 []).2.1 (m ++ [(takeN (lookN l e 512).2.2.toNat (lookN l e 512).1 (lookN l e 512).2.1 []).2.2.1]) h1.2.1 (fun f hf => by
        rcases List.mem_append.1 hf with hf | hf
        · exact hm f hf
        · rw [List.mem_singleton.1 hf]
          have := h1.2.2
          simp only [List.length_nil] at this
          omega)
      rw [List.length_append, List.length_singleton] at h2
      exact ⟨by omega, h2.2.1, by omega, h2.2.2.2⟩
    · exact ⟨Nat.le_trans h1.1 h0.1, h1.2.1, by simp, fun f hf => by cases hf⟩
theorem take_l1 (K : Nat) (hK : 20000 < K) (d9 : List Int → Int → List S27 → Option (List Int × Int × Im × Bool)) : ∀ (r n : Nat) (l : List Int) (e : Int) (f : List S27), r < n → r ≤ 1000 → IsB l → l.length ≤ 20000 → f.length + r ≤ 100000 →
    image_Take.l1 K d9 n l e f (r : Int) = if (takeN r l e f).2.2.2 = true then d9 (takeN r l e f).1 (takeN r l e f).2.1 (takeN r l e f).2.2.1 else some ((takeN r l e f).1, (takeN r l e f).2.1, [], false) := by
  intro r
  induction r with
  | zero =>
    intro n l e f hn _ _ _ _
    obtain ⟨n, rfl⟩ : ∃ k, n = k + 1 := ⟨n - 1, by omega⟩
    rw [image_Take.l1.eq_2, if_neg (by omega)]
    rfl
  | succ r ih =>
    intro n l e f hn hr hB hl hf
    obtain ⟨n, rfl⟩ : ∃ k, n = k + 1 := ⟨n - 1, by omega⟩
    have hw : IntKind.u64.wrap (((r + 1 : Nat) : Int) - 1) = (r : Int) := by rw [wu64_id (by omega) (by omega)]; omega
    have h1 := tkR_ok l e hB
    rw [image_Take.l1.eq_2, if_pos (by omega), take_f K l e hB hl hK, hw]
    unfold takeN
    generalize tkR (tk l e) = t at *
    obtain ⟨t1, t2, t3, t4, t5⟩ := t
    simp only [b5, lt] at h1 ⊢
    cases t5 with
    | true =>
      rw [if_pos rfl, if_pos rfl, if_pos (by simp only [List.length_singleton]; omega)]
      exact ih n t1 t2 _ (by omega) (by omega) h1.2 (by omega) (by rw [List.length_append, List.length_singleton]; omega)
    | false => rw [if_neg (by simp), if_neg (by simp), if_neg (by simp)]
theorem take_l0 (K : Nat) (hK : 20000 < K) (d8 : List Int → Int → Im → Option (List Int × Int × Im × Bool)) : ∀ (r n : Nat) (l : List Int) (e : Int) (m : Im), r < n → r ≤ 1000 → IsB l → l.length ≤ 20000 → m.length + r ≤ 100000 →
    image_Take.l0 K d8 n l e m (r : Int) = if (takeI r l e m).2.2.2 = true then d8 (takeI r l e m).1 (takeI r l e m).2.1 (takeI r l e m).2.2.1 else some ((takeI r l e m).1, (takeI r l e m).2.1, [], false) := by
  intro r
  induction r with
  | zero =>
    intro n l e m hn _ _ _ _
    obtain ⟨n, rfl⟩ : ∃ k, n = k + 1 := ⟨n - 1, by omega⟩
    rw [image_Take.l0.eq_2, if_neg (by omega)]
    rfl
  | succ r ih =>
    intro n l e m hn hr hB hl hm
    obtain ⟨n, rfl⟩ : ∃ k, n = k + 1 := ⟨n - 1, by omega⟩
    have hw : IntKind.u64.wrap (((r + 1 : Nat) : Int) - 1) = (r : Int) := by rw [wu64_id (by omega) (by omega)]; omega
    have h0 := look_ok l e 512 hB
    have hle := look_le l e 512 (by omega) hB
    have hn1 := num_look K l e 512 (by omega) hB (by omega)
    have ht := takeN_ok (lookN l e 512).2.2.toNat (lookN l e 512).1 (lookN l e 512).2.1 [] h0.2.1
    rw [image_Take.l0.eq_2, if_pos (by omega), hw, hn1]
    unfold takeI
    obtain ⟨c, hc⟩ : ∃ c : Nat, (lookN l e 512).2.2 = (c : Int) := ⟨(lookN l e 512).2.2.toNat, by omega⟩
    have e1 : lookN l e 512 = ((lookN l e 512).1, (lookN l e 512).2.1, (c : Int)) := by rw [← hc]
    rw [e1]
    simp only [lt, b3, Int.toNat_natCast]
    rw [hc, Int.toNat_natCast] at ht
    rw [take_l1 K hK _ c K _ _ [] (by omega) (by omega) h0.2.1 (by omega) (by simp; omega)]
    generalize takeN c (lookN l e 512).1 (lookN l e 512).2.1 [] = t at *
    obtain ⟨t1, t2, t3, t4⟩ := t
    simp only at ht ⊢
    cases t4 with
    | true =>
      rw [if_pos rfl, if_pos rfl, if_pos (by simp only [List.length_singleton]; omega)]
      exact ih n t1 t2 _ (by omega) (by omega) ht.2.1 (by omega) (by rw [List.length_append, List.length_singleton]; omega)
    | false => rw [if_neg (by simp), if_neg (by simp), if_neg (by simp)]
def takeIm (l : List Int) : List Int × Int × Im × Bool := takeF (takeI (lookN l 0 64).2.2.toNat (lookN l 0 64).1 (lookN l 0 64).2.1 [])
theorem take_img (K : Nat) (hK : 20000 < K) (l : List Int) (hB : IsB l) (hl : l.length ≤ 20000) : image_Take.f K l 0 = some (takeIm l) := by
  have h0 := look_ok l 0 64 hB
  have hle := look_le l 0 64 (by omega) hB
  have hn1 := num_look K l 0 64 (by omega) hB (by omega)
  unfold image_Take.f takeIm
  rw [hn1]
  obtain ⟨c, hc⟩ : ∃ c : Nat, (lookN l 0 64).2.2 = (c : Int) := ⟨(lookN l 0 64).2.2.toNat, by omega⟩
  have e1 : lookN l 0 64 = ((lookN l 0 64).1, (lookN l 0 64).2.1, (c : Int)) := by rw [← hc]
  rw [e1]
  simp only [lt, b3, Int.toNat_natCast]
  rw [take_l0 K hK _ c K _ _ [] (by omega) (by omega) h0.2.1 (by omega) (by simp; omega)]
  generalize takeI c (lookN l 0 64).1 (lookN l 0 64).2.1 [] = t at *
  obtain ⟨t1, t2, t3, t4⟩ := t
  unfold takeF pack_Reader_Err.f
  cases t4 with
  | true =>
    simp only
    rw [if_pos trivial, if_pos trivial]
    by_cases h : t2 = 0
    · rw [if_pos h, if_pos h]
    · rw [if_neg h, if_neg h]
  | false => simp
theorem takeIm_ok (l : List Int) (hB : IsB l) : (takeIm l).2.2.1.length ≤ 64 ∧ ∀ f ∈ (takeIm l).2.2.1, f.length ≤ 512 := by
  have h0 := look_ok l 0 64 hB
  have hle := look_le l 0 64 (by omega) hB
  have h1 := takeI_ok (lookN l 0 64).2.2.toNat (lookN l 0 64).1 (lookN l 0 64).2.1 [] h0.2.1 (fun f hf => by cases hf)
  unfold takeIm takeF
  split
  · split
    · exact ⟨by have := h1.2.2.1; simp only [List.length_nil] at this; simp only; omega, h1.2.2.2⟩
    · exact ⟨by simp, fun f hf => by cases hf⟩
  · exact ⟨by simp, fun f hf => by cases hf⟩
end Go.Proofs.YtiilloijkbabbaaDoor.Img
