import Derived.Test.YtjfnejcanlkknaaTable
/- Which tables may be, whose each round is, how many are whose. No condition. -/
set_option linter.unusedVariables false
set_option linter.unusedSimpArgs false
namespace Go.Proofs.Ytjfnejcanlkknaa.Pure
open Go Go.Fw Go.RowKit Go.Proofs.Ytjfnejcanlkknaa.G

/-! ### which may be -/
def okFrom (t : List Int) (m : Int) : Nat → Nat → Bool
  | 0, _ => true
  | d + 1, i => decide (0 ≤ t.getD i 0) && decide (t.getD i 0 < m) && okFrom t m d (i + 1)
def okR (t : List Int) (m : Int) : Bool := decide (1 ≤ t.length) && decide (t.length ≤ 64) && okFrom t m t.length 0

theorem right_l (K : Nat) {t : List Int} (hL2 : t.length ≤ 100) (m : Int) : ∀ (d n i : Nat), i + d = t.length → d < n →
    table_Right.l0 K t (fun _ x => some (!(decide (x ≥ 0)))) n m (i : Int) = some (okFrom t m d i)
  | 0, n, i, hd, hn => by
    obtain ⟨n, rfl⟩ : ∃ k, n = k + 1 := ⟨n - 1, by omega⟩
    rw [table_Right.l0.eq_2, if_neg (by omega)]
    rfl
  | d + 1, n, i, hd, hn => by
    obtain ⟨n, rfl⟩ : ∃ k, n = k + 1 := ⟨n - 1, by omega⟩
    have ih := right_l K hL2 m d n (i + 1) (by omega) (by omega)
    have e4 : IntKind.i64.wrap ((i : Int) + 1) = ((i + 1 : Nat) : Int) := by rw [w64_id (by omega) (by omega)]; omega
    rw [table_Right.l0.eq_2, if_pos (by omega), if_pos (by omega), e4, Int.toNat_natCast]
    unfold table_Right_1.f
    simp only [okFrom]
    by_cases h : t.getD i 0 < 0
    · rw [if_pos h, decide_eq_false (show ¬ 0 ≤ t.getD i 0 by omega)]
      simp [b2]
    · rw [if_neg h, decide_eq_true (show 0 ≤ t.getD i 0 by omega)]
      simp only [b2]
      by_cases h2 : t.getD i 0 < m
      · rw [decide_eq_false (show ¬ t.getD i 0 ≥ m by omega), decide_eq_true h2, ih]
        rfl
      · rw [decide_eq_true (show t.getD i 0 ≥ m by omega), decide_eq_false h2]
        simp

theorem right_f (K : Nat) (hK : 1000 ≤ K) {t : List Int} (hL2 : t.length ≤ 100) (m : Int) : table_Right.f K t m = some (okR t m) := by
  unfold table_Right.f okR
  by_cases h1 : 1 ≤ t.length
  · rw [if_pos (by omega), decide_eq_true h1]
    by_cases h2 : t.length ≤ 64
    · rw [if_pos (by omega), decide_eq_true h2]
      simp only [lt]
      refine Eq.trans (right_l K hL2 m t.length K 0 (by omega) (by omega)) ?_
      simp
    · rw [if_neg (by omega), decide_eq_false h2]; rfl
  · rw [if_neg (by omega), decide_eq_false h1]; rfl

theorem rright_l (K : Nat) {t : List Int} (hL2 : t.length ≤ 100) (m : Int) (j : Option Bool) : ∀ (d n i : Nat), i + d = t.length → d < n →
    confidantref15_TableRight.l0 K t m j n (i : Int) = if okFrom t m d i = true then j else some false
  | 0, n, i, hd, hn => by
    obtain ⟨n, rfl⟩ : ∃ k, n = k + 1 := ⟨n - 1, by omega⟩
    rw [confidantref15_TableRight.l0.eq_2, if_neg (by omega)]
    simp [okFrom]
  | d + 1, n, i, hd, hn => by
    obtain ⟨n, rfl⟩ : ∃ k, n = k + 1 := ⟨n - 1, by omega⟩
    have ih := rright_l K hL2 m j d n (i + 1) (by omega) (by omega)
    have e4 : IntKind.i64.wrap ((i : Int) + 1) = ((i + 1 : Nat) : Int) := by rw [w64_id (by omega) (by omega)]; omega
    rw [confidantref15_TableRight.l0.eq_2, if_pos (by omega)]
    simp only [lt]
    rw [if_pos (by omega), e4, Int.toNat_natCast, ih]
    rw [show okFrom t m (d + 1) i = (decide (0 ≤ t.getD i 0) && decide (t.getD i 0 < m) && okFrom t m d (i + 1)) from rfl]
    by_cases h : t.getD i 0 < 0
    · rw [if_pos h, decide_eq_false (show ¬ 0 ≤ t.getD i 0 by omega)]
      simp
    · rw [if_neg h, decide_eq_true (show 0 ≤ t.getD i 0 by omega)]
      by_cases h2 : t.getD i 0 < m
      · rw [decide_eq_false (show ¬ t.getD i 0 ≥ m by omega), decide_eq_true h2]
        simp
      · rw [decide_eq_true (show t.getD i 0 ≥ m by omega), decide_eq_false h2]
        simp

theorem rright_f (K : Nat) (hK : 1000 ≤ K) {t : List Int} (hL2 : t.length ≤ 100) (m : Int) : confidantref15_TableRight.f K t m = some (okR t m) := by
  unfold confidantref15_TableRight.f okR
  simp only [lt]
  have h := rright_l K hL2 m (if (t.length : Int) ≥ 1 then some (decide ((t.length : Int) ≤ 64)) else some false) t.length K 0 (by omega) (by omega)
  refine Eq.trans h ?_
  by_cases h0 : okFrom t m t.length 0 = true
  · rw [if_pos h0, h0, Bool.and_true]
    by_cases h1 : 1 ≤ t.length
    · rw [if_pos (by omega), decide_eq_true h1]
      by_cases h2 : t.length ≤ 64
      · rw [decide_eq_true h2, decide_eq_true (by omega)]; rfl
      · rw [decide_eq_false h2, decide_eq_false (by omega)]; rfl
    · rw [if_neg (by omega), decide_eq_false h1]; rfl
  · rw [if_neg h0]
    have : okFrom t m t.length 0 = false := by simpa using h0
    rw [this, Bool.and_false]

/-! ### is each label in it -/
theorem pig : ∀ (m : Nat) (t : List Int), (∀ x : Nat, x < m → (x : Int) ∈ t) → m ≤ t.length
  | 0, _, _ => Nat.zero_le _
  | m + 1, t, h => by
    have hm := h m (by omega)
    have := pig m (t.erase (m : Int)) fun x hx => by
      have hne : (x : Int) ≠ (m : Int) := by omega
      exact (List.mem_erase_of_ne hne).2 (h x (by omega))
    rw [List.length_erase_of_mem hm] at this
    have : 0 < t.length := List.length_pos_of_mem hm
    omega

theorem least (t : List Int) : ∀ k : Nat, (∀ x : Nat, x < k → (x : Int) ∈ t) ∨ ∃ m : Nat, m < k ∧ (m : Int) ∉ t ∧ ∀ x : Nat, x < m → (x : Int) ∈ t
  | 0 => .inl fun x hx => by omega
  | k + 1 => by
    rcases least t k with h | ⟨m, h1, h2, h3⟩
    · by_cases hk : (k : Int) ∈ t
      · refine .inl fun x hx => ?_
        by_cases hxk : x = k
        · subst hxk; exact hk
        · exact h x (by omega)
      · exact .inr ⟨k, by omega, hk, h⟩
    · exact .inr ⟨m, by omega, h2, h3⟩

theorem missing (t : List Int) : ∃ m : Nat, m ≤ t.length ∧ (m : Int) ∉ t ∧ ∀ x : Nat, x < m → (x : Int) ∈ t := by
  rcases least t (t.length + 1) with h | ⟨m, h1, h2, h3⟩
  · have := pig _ t h; omega
  · exact ⟨m, by omega, h2, h3⟩

theorem mem_of_at {t : List Int} {i : Nat} (h : i < t.length) : t.getD i 0 ∈ t := by simp [List.getD, h]

theorem index_l (K : Nat) {t : List Int} (hL2 : t.length ≤ 100) (c : Int) : ∀ (d n i : Nat), i + d = t.length → d < n →
    ∃ r : Int, slices_Index_int_int.l0 K t c n (i : Int) = some r ∧ (r ≥ 0 ↔ ∃ k, k < d ∧ t.getD (i + k) 0 = c)
  | 0, n, i, hd, hn => by
    obtain ⟨n, rfl⟩ : ∃ k, n = k + 1 := ⟨n - 1, by omega⟩
    refine ⟨-1, by rw [slices_Index_int_int.l0.eq_2, if_neg (by omega)], by omega, ?_⟩
    rintro ⟨k, hk, _⟩; omega
  | d + 1, n, i, hd, hn => by
    obtain ⟨n, rfl⟩ : ∃ k, n = k + 1 := ⟨n - 1, by omega⟩
    obtain ⟨r, h1, h2⟩ := index_l K hL2 c d n (i + 1) (by omega) (by omega)
    have e4 : IntKind.i64.wrap ((i : Int) + 1) = ((i + 1 : Nat) : Int) := by rw [w64_id (by omega) (by omega)]; omega
    rw [slices_Index_int_int.l0.eq_2, if_pos (by omega), if_pos (by omega), e4, Int.toNat_natCast]
    by_cases h : c = t.getD i 0
    · rw [if_pos h]
      exact ⟨_, rfl, fun _ => ⟨0, by omega, h.symm⟩, fun _ => by omega⟩
    · rw [if_neg h, h1]
      refine ⟨r, rfl, h2.trans ⟨?_, ?_⟩⟩
      · rintro ⟨k, hk, e⟩; exact ⟨k + 1, by omega, by rwa [show i + (k + 1) = i + 1 + k from by omega]⟩
      · rintro ⟨k, hk, e⟩
        cases k with
        | zero => exact absurd e.symm h
        | succ k => exact ⟨k, by omega, by rwa [show i + 1 + k = i + (k + 1) from by omega]⟩

theorem ex_mem {t : List Int} {c : Int} : (∃ k, k < t.length ∧ t.getD (0 + k) 0 = c) ↔ c ∈ t := by
  constructor
  · rintro ⟨k, hk, e⟩; rw [← e, Nat.zero_add]; exact mem_of_at hk
  · intro h
    obtain ⟨k, hk, e⟩ := List.getElem_of_mem h
    exact ⟨k, hk, by simp [List.getD, hk, e]⟩

theorem contains_f (K : Nat) (hK : 1000 ≤ K) {t : List Int} (hL2 : t.length ≤ 100) (c : Int) : slices_Contains_int_int.f K t c = some (decide (c ∈ t)) := by
  unfold slices_Contains_int_int.f slices_Index_int_int.f
  obtain ⟨r, h1, h2⟩ := index_l K hL2 c t.length K 0 (by omega) (by omega)
  have h1' : slices_Index_int_int.l0 K t c K 0 = some r := h1
  rw [h1']
  simp only [b1]
  congr 1
  rw [ex_mem] at h2
  by_cases h : c ∈ t
  · rw [decide_eq_true h, decide_eq_true (h2.2 h)]
  · rw [decide_eq_false h, decide_eq_false (fun hr => h (h2.1 hr))]

theorem all_l (K : Nat) (hK : 1000 ≤ K) {t : List Int} (hL2 : t.length ≤ 100) (lab : Int) (j : Option Bool) {m : Nat} (hm : m ≤ t.length) (h1 : (m : Int) ∉ t) (h2 : ∀ x : Nat, x < m → (x : Int) ∈ t) : ∀ (d n i : Nat), i + d = m → (i : Int) ≤ lab ∨ i = 0 → d < n →
    table_All.l0 K lab t j n (i : Int) = if (m : Int) < lab then some false else j
  | 0, n, i, hd, hi, hn => by
    obtain ⟨n, rfl⟩ : ∃ k, n = k + 1 := ⟨n - 1, by omega⟩
    have : i = m := by omega
    subst this
    rw [table_All.l0.eq_2]
    by_cases h : (i : Int) < lab
    · rw [if_pos h, if_pos h, contains_f K hK hL2, decide_eq_false h1]; rfl
    · rw [if_neg h, if_neg h]
  | d + 1, n, i, hd, hi, hn => by
    obtain ⟨n, rfl⟩ : ∃ k, n = k + 1 := ⟨n - 1, by omega⟩
    have e4 : IntKind.i64.wrap ((i : Int) + 1) = ((i + 1 : Nat) : Int) := by rw [w64_id (by omega) (by omega)]; omega
    rw [table_All.l0.eq_2]
    by_cases h : (i : Int) < lab
    · rw [if_pos h, contains_f K hK hL2, decide_eq_true (h2 i (by omega)), e4]
      exact all_l K hK hL2 lab j hm h1 h2 d n (i + 1) (by omega) (.inl (by omega)) (by omega)
    · rw [if_neg h, if_neg (by omega)]

theorem in_l (K : Nat) {t : List Int} (hL2 : t.length ≤ 100) (c : Int) (j : Bool → Option Bool) : ∀ (d n i : Nat) (b : Bool), i + d = t.length → d < n → (b = true ↔ ∃ k, k < i ∧ t.getD k 0 = c) →
    ∃ b' : Bool, confidantref15_TableAll.l1 K t c j n b (i : Int) = j b' ∧ (b' = true ↔ ∃ k, k < t.length ∧ t.getD k 0 = c)
  | 0, n, i, b, hd, hn, hb => by
    obtain ⟨n, rfl⟩ : ∃ k, n = k + 1 := ⟨n - 1, by omega⟩
    have : i = t.length := by omega
    subst this
    exact ⟨b, by rw [confidantref15_TableAll.l1.eq_2, if_neg (by omega)], hb⟩
  | d + 1, n, i, b, hd, hn, hb => by
    obtain ⟨n, rfl⟩ : ∃ k, n = k + 1 := ⟨n - 1, by omega⟩
    have e4 : IntKind.i64.wrap ((i : Int) + 1) = ((i + 1 : Nat) : Int) := by rw [w64_id (by omega) (by omega)]; omega
    rw [confidantref15_TableAll.l1.eq_2, if_pos (by omega)]
    simp only [lt]
    rw [e4, Int.toNat_natCast, if_pos (show 0 ≤ (i : Int) by omega)]
    cases b with
    | true =>
      rw [if_pos rfl]
      refine in_l K hL2 c j d n (i + 1) true (by omega) (by omega) ⟨fun _ => ?_, fun _ => rfl⟩
      obtain ⟨k, hk, e⟩ := hb.1 rfl
      exact ⟨k, by omega, e⟩
    | false =>
      rw [if_neg (by simp)]
      refine in_l K hL2 c j d n (i + 1) _ (by omega) (by omega) ⟨fun h => ?_, fun ⟨k, hk, e⟩ => ?_⟩
      · exact ⟨i, by omega, of_decide_eq_true h⟩
      · by_cases hki : k = i
        · subst hki; exact decide_eq_true e
        · have := hb.2 ⟨k, by omega, e⟩; cases this

theorem rall_l (K : Nat) (hK : 1000 ≤ K) {t : List Int} (hL2 : t.length ≤ 100) (lab : Int) (j : Option Bool) {m : Nat} (hm : m ≤ t.length) (h1 : (m : Int) ∉ t) (h2 : ∀ x : Nat, x < m → (x : Int) ∈ t) : ∀ (d n i : Nat), i + d = m → i ≤ 65 → d < n →
    confidantref15_TableAll.l0 K t j lab n (i : Int) = if (m : Int) < lab ∧ m < 65 then some false else j
  | 0, n, i, hd, hi, hn => by
    obtain ⟨n, rfl⟩ : ∃ k, n = k + 1 := ⟨n - 1, by omega⟩
    have : i = m := by omega
    subst this
    rw [confidantref15_TableAll.l0.eq_2]
    simp only [lt]
    by_cases h : (i : Int) < lab
    · rw [if_pos h]
      by_cases h5 : (i : Int) < 65
      · rw [decide_eq_true h5, if_pos rfl, if_pos ⟨h, by omega⟩]
        obtain ⟨b', e1, e2⟩ := in_l K hL2 (i : Int) (fun x9930 => if x9930 = true then confidantref15_TableAll.l0 K t j lab n (IntKind.i64.wrap ((i : Int) + 1)) else some false) t.length K 0 false (by omega) (by omega) ⟨fun h => (by cases h), fun ⟨k, hk, _⟩ => (by omega)⟩
        refine Eq.trans e1 ?_
        have : b' = false := by
          cases b' with
          | false => rfl
          | true =>
            obtain ⟨k, hk, e⟩ := e2.1 rfl
            exact absurd (e ▸ mem_of_at hk) h1
        rw [this]; rfl
      · rw [decide_eq_false h5, if_neg Bool.false_ne_true, if_neg (by omega)]
    · rw [if_neg h, if_neg Bool.false_ne_true, if_neg (by omega)]
  | d + 1, n, i, hd, hi, hn => by
    obtain ⟨n, rfl⟩ : ∃ k, n = k + 1 := ⟨n - 1, by omega⟩
    have e4 : IntKind.i64.wrap ((i : Int) + 1) = ((i + 1 : Nat) : Int) := by rw [w64_id (by omega) (by omega)]; omega
    rw [confidantref15_TableAll.l0.eq_2]
    simp only [lt]
    by_cases h : (i : Int) < lab
    · rw [if_pos h]
      by_cases h5 : (i : Int) < 65
      · rw [decide_eq_true h5, if_pos rfl]
        obtain ⟨b', e1, e2⟩ := in_l K hL2 (i : Int) (fun x9930 => if x9930 = true then confidantref15_TableAll.l0 K t j lab n (IntKind.i64.wrap ((i : Int) + 1)) else some false) t.length K 0 false (by omega) (by omega) ⟨fun h => (by cases h), fun ⟨k, hk, _⟩ => (by omega)⟩
        refine Eq.trans e1 ?_
        have : b' = true := e2.2 (by
          obtain ⟨k, hk, e⟩ := ex_mem.2 (h2 i (by omega))
          exact ⟨k, hk, by rwa [Nat.zero_add] at e⟩)
        rw [this, if_pos rfl, e4]
        exact rall_l K hK hL2 lab j hm h1 h2 d n (i + 1) (by omega) (by omega) (by omega)
      · rw [decide_eq_false h5, if_neg Bool.false_ne_true, if_neg (by omega)]
    · rw [if_neg h, if_neg Bool.false_ne_true, if_neg (by omega)]

theorem all_eq (K : Nat) (hK : 1000 ≤ K) {t : List Int} (hL2 : t.length ≤ 100) (lab : Int) : ∃ b, table_All.f K t lab = some b ∧ confidantref15_TableAll.f K t lab = some b := by
  obtain ⟨m, hm, h1, h2⟩ := missing t
  have a1 := all_l K hK hL2 lab (some (okR t lab)) hm h1 h2 m K 0 (by omega) (.inr rfl) (by omega)
  have a2 := rall_l K hK hL2 lab (some (okR t lab)) hm h1 h2 m K 0 (by omega) (by omega) (by omega)
  have f1 : table_All.f K t lab = if (m : Int) < lab then some false else some (okR t lab) := by
    unfold table_All.f
    rw [right_f K hK hL2]
    exact a1
  have f2 : confidantref15_TableAll.f K t lab = if (m : Int) < lab ∧ m < 65 then some false else some (okR t lab) := by
    unfold confidantref15_TableAll.f
    rw [rright_f K hK hL2]
    exact a2
  rw [f1, f2]
  by_cases h : (m : Int) < lab
  · rw [if_pos h]
    by_cases h5 : m < 65
    · rw [if_pos ⟨h, h5⟩]; exact ⟨_, rfl, rfl⟩
    · rw [if_neg (by omega)]
      have : okR t lab = false := by
        unfold okR
        rw [decide_eq_false (show ¬ t.length ≤ 64 by omega)]
        simp
      rw [this]; exact ⟨_, rfl, rfl⟩
  · rw [if_neg h, if_neg (by omega)]; exact ⟨_, rfl, rfl⟩

/-! ### rounds -/
theorem mx_mx (a : Int) : mx (mx a 0) 0 = mx a 0 := by unfold mx; by_cases h : 0 > a <;> simp [h]
theorem rat_f (K : Nat) (t : List Int) (a : Int) : confidantref15_At.f K t a = table_At.f K t a := rfl
theorem at_some (K : Nat) (t : List Int) (a : Int) : ∃ x, table_At.f K t a = some x := by
  by_cases hL : t.length = 0
  · exact ⟨-1, by unfold table_At.f; rw [if_pos (by omega)]⟩
  · by_cases ha : a ≤ 0
    · exact ⟨_, at_neg K (by omega) ha⟩
    · exact ⟨_, by rw [show a = ((a.toNat : Nat) : Int) from by omega]; exact at_f K (by omega) _⟩

theorem rnext_l (K : Nat) {t : List Int} (hL : 0 < t.length) (hL2 : t.length ≤ 1000) (c : Int) (r : Nat) (hr : r < 1000000000000) : ∀ (d n i : Nat), i + d = t.length → d < n → confidantref15_NextRound.l0 K t (r : Int) c n (i : Int) = some (nx t c d (r + i))
  | 0, n, i, hd, hn => by
    obtain ⟨n, rfl⟩ : ∃ k, n = k + 1 := ⟨n - 1, by omega⟩
    rw [confidantref15_NextRound.l0.eq_2, if_neg (by omega)]
    rfl
  | d + 1, n, i, hd, hn => by
    obtain ⟨n, rfl⟩ : ∃ k, n = k + 1 := ⟨n - 1, by omega⟩
    have e3 : IntKind.i64.wrap ((r : Int) + (i : Int)) = ((r + i : Nat) : Int) := by rw [w64_id (by omega) (by omega)]; omega
    have e4 : IntKind.i64.wrap ((i : Int) + 1) = ((i + 1 : Nat) : Int) := by rw [w64_id (by omega) (by omega)]; omega
    rw [confidantref15_NextRound.l0.eq_2, if_pos (by omega), mx_nat, e3, e4, rat_f, at_f K hL]
    simp only [b1, nx]
    by_cases h : rd t (r + i) = c
    · rw [if_pos h, if_pos h]
    · rw [if_neg h, if_neg h]
      exact rnext_l K hL hL2 c r hr d n (i + 1) (by omega) (by omega)

theorem next_eq (K : Nat) (hK : 1000 ≤ K) {t : List Int} (hL2 : t.length ≤ 100) (c : Int) {a : Int} (ha : a < 1000000000) : ∃ x, table_Next.f K t c a = some x ∧ confidantref15_NextRound.f K t c a = some x := by
  unfold table_Next.f confidantref15_NextRound.f
  obtain ⟨n, rfl⟩ : ∃ k, K = k + 1 := ⟨K - 1, by omega⟩
  by_cases hL : t.length = 0
  · rw [table_Next.l0.eq_2, confidantref15_NextRound.l0.eq_2, if_neg (by omega), if_neg (by omega)]
    exact ⟨_, rfl, rfl⟩
  · have g1 : table_Next.l0 (n + 1) t a c (n + 1) 0 = table_Next.l0 (n + 1) t (mx a 0) c (n + 1) 0 := by
      have : ∀ (k : Nat) (i : Int), table_Next.l0 (n + 1) t a c k i = table_Next.l0 (n + 1) t (mx a 0) c k i := by
        intro k
        induction k with
        | zero => intro i; rfl
        | succ k ih => intro i; rw [table_Next.l0.eq_2, table_Next.l0.eq_2, mx_mx, ih]
      exact this _ _
    have g2 : confidantref15_NextRound.l0 (n + 1) t a c (n + 1) 0 = confidantref15_NextRound.l0 (n + 1) t (mx a 0) c (n + 1) 0 := by
      have : ∀ (k : Nat) (i : Int), confidantref15_NextRound.l0 (n + 1) t a c k i = confidantref15_NextRound.l0 (n + 1) t (mx a 0) c k i := by
        intro k
        induction k with
        | zero => intro i; rfl
        | succ k ih => intro i; rw [confidantref15_NextRound.l0.eq_2, confidantref15_NextRound.l0.eq_2, mx_mx, ih]
      exact this _ _
    obtain ⟨r, hr⟩ : ∃ r : Nat, mx a 0 = (r : Int) := ⟨(mx a 0).toNat, by unfold mx; split <;> omega⟩
    have hr2 : r < 1000000000 := by unfold mx at hr; split at hr <;> omega
    rw [g1, g2, hr]
    exact ⟨_, next_l (n + 1) (by omega) (by omega) c r (by omega) t.length (n + 1) 0 (by omega) (by omega), rnext_l (n + 1) (by omega) (by omega) c r (by omega) t.length (n + 1) 0 (by omega) (by omega)⟩

theorem rcount_l (K : Nat) {t : List Int} (hL : 0 < t.length) (hL2 : t.length ≤ 100) (c : Int) (j : Int → Option Int) : ∀ (d n i : Nat), i + d = t.length → d < n →
    confidantref15_Slots.l0 K t c j n (G t c i) (i : Int) = j (G t c t.length)
  | 0, n, i, hd, hn => by
    obtain ⟨n, rfl⟩ : ∃ k, n = k + 1 := ⟨n - 1, by omega⟩
    rw [confidantref15_Slots.l0.eq_2, if_neg (by omega), show i = t.length from by omega]
  | d + 1, n, i, hd, hn => by
    obtain ⟨n, rfl⟩ : ∃ k, n = k + 1 := ⟨n - 1, by omega⟩
    have ih := rcount_l K hL hL2 c j d n (i + 1) (by omega) (by omega)
    have e4 : IntKind.i64.wrap ((i : Int) + 1) = ((i + 1 : Nat) : Int) := by rw [w64_id (by omega) (by omega)]; omega
    have e5 : t.getD (i : Int).toNat 0 = rd t i := by unfold rd; rw [Nat.mod_eq_of_lt (by omega)]; rfl
    rw [confidantref15_Slots.l0.eq_2, if_pos (by omega)]
    simp only [lt]
    rw [if_pos (by omega), e4, e5]
    have g1 := G_in t c i
    have s1 : G t c (i + 1) = G t c i + hit t c i := rfl
    rw [s1] at ih
    by_cases h : rd t i = c
    · have hh : hit t c i = 1 := by unfold hit; rw [if_pos h]
      rw [if_pos h, w64_id (x := G t c i + 1) (by omega) (by omega)]
      rw [hh] at ih; exact ih
    · have hh : hit t c i = 0 := by unfold hit; rw [if_neg h]
      rw [if_neg h]
      rw [hh, Int.add_zero] at ih; exact ih

theorem rtail_l (K : Nat) {t : List Int} (hL : 0 < t.length) (c : Int) {b : Nat} (hb : b < 1000000000000) : ∀ (d n i : Nat) (x : Int), i + d = b → d < n → -1 ≤ x → x + (d : Int) < 2000000000000 →
    confidantref15_Slots.l1 K (b : Int) t c n x (i : Int) = some (x + (G t c b - G t c i))
  | 0, n, i, x, hd, hn, _, _ => by
    obtain ⟨n, rfl⟩ : ∃ k, n = k + 1 := ⟨n - 1, by omega⟩
    rw [confidantref15_Slots.l1.eq_2, mx_nat, if_neg (by omega), show i = b from by omega]
    congr 1; omega
  | d + 1, n, i, x, hd, hn, hx, hx2 => by
    obtain ⟨n, rfl⟩ : ∃ k, n = k + 1 := ⟨n - 1, by omega⟩
    have e4 : IntKind.i64.wrap ((i : Int) + 1) = ((i + 1 : Nat) : Int) := by rw [w64_id (by omega) (by omega)]; omega
    rw [confidantref15_Slots.l1.eq_2, mx_nat, if_pos (by omega)]
    simp only [lt]
    rw [rat_f, at_f K hL, e4]
    simp only [b1]
    have s1 : G t c (i + 1) = G t c i + hit t c i := rfl
    by_cases h : rd t i = c
    · have hh : hit t c i = 1 := by unfold hit; rw [if_pos h]
      rw [if_pos h, w64_id (x := x + 1) (by omega) (by omega)]
      rw [rtail_l K hL c hb d n (i + 1) (x + 1) (by omega) (by omega) (by omega) (by omega), s1, hh]
      congr 1; omega
    · have hh : hit t c i = 0 := by unfold hit; rw [if_neg h]
      rw [if_neg h, rtail_l K hL c hb d n (i + 1) x (by omega) (by omega) hx (by omega), s1, hh]
      congr 1; omega

theorem slots_eq (K : Nat) (hK : 2000000 ≤ K) {t : List Int} (hL2 : t.length ≤ 100) (c : Int) {a b : Int} (ha : a < 1100000) (hb : b < 1100000) : ∃ x, table_Slots.f K t c a b = some x ∧ confidantref15_Slots.f K t c a b = some x := by
  by_cases hL : t.length = 0
  · refine ⟨0, ?_, ?_⟩
    · unfold table_Slots.f; simp only [lt]; rw [if_pos (by omega)]; rfl
    · unfold confidantref15_Slots.f; simp only [lt]; rw [if_pos (by omega)]; rfl
  obtain ⟨f, hf⟩ : ∃ r : Nat, mx a 0 = (r : Int) := ⟨(mx a 0).toNat, by unfold mx; split <;> omega⟩
  obtain ⟨o, ho⟩ : ∃ r : Nat, mx b 0 = (r : Int) := ⟨(mx b 0).toNat, by unfold mx; split <;> omega⟩
  have hf2 : f < 1100000 := by unfold mx at hf; split at hf <;> omega
  have ho2 : o < 1100000 := by unfold mx at ho; split at ho <;> omega
  have s1 : table_Slots.f K t c a b = table_Slots.f K t c (f : Int) (o : Int) := by
    unfold table_Slots.f
    rw [hf, ho, mx_nat, mx_nat]
  have s2 : confidantref15_Slots.f K t c a b = confidantref15_Slots.f K t c (f : Int) (o : Int) := by
    unfold confidantref15_Slots.f
    have : ∀ (k : Nat) (x i : Int), confidantref15_Slots.l1 K b t c k x i = confidantref15_Slots.l1 K (o : Int) t c k x i := by
      intro k
      induction k with
      | zero => intro x i; rfl
      | succ k ih =>
        intro x i
        rw [confidantref15_Slots.l1.eq_2, confidantref15_Slots.l1.eq_2, ho, mx_nat]
        simp only [ih]
    simp only [hf, ho, mx_nat, this]
  have hL' : 0 < t.length := by omega
  rw [s1, s2, slots_f K hL' hL2 (by omega) c f o (by omega) (by omega)]
  refine ⟨_, rfl, ?_⟩
  unfold confidantref15_Slots.f
  simp only [lt, mx_nat]
  rw [if_neg (by omega)]
  by_cases h : o ≤ f
  · rw [decide_eq_true (by omega), if_pos h]; rfl
  · rw [decide_eq_false (by omega), if_neg h]
    simp only [Bool.false_eq_true, if_false]
    refine Eq.trans (rcount_l K hL' hL2 c _ t.length K 0 (by omega) (by omega)) ?_
    rw [if_neg (by omega)]
    obtain ⟨dd, hdd⟩ : ∃ dd : Nat, o = f + dd := ⟨o - f, by omega⟩
    have e1 : IntKind.i64.wrap ((o : Int) - (f : Int)) = (dd : Int) := by rw [w64_id (by omega) (by omega)]; omega
    have e2 : Int.tdiv (dd : Int) (t.length : Int) = ((dd / t.length : Nat) : Int) := by rw [Int.tdiv_eq_ediv_of_nonneg (by omega)]; rfl
    rw [e1, e2, tmod_nat]
    have hm := Nat.mod_lt dd hL'
    have hmle := Nat.mod_le dd t.length
    have hdm := Nat.mod_add_div dd t.length
    rw [Nat.mul_comm] at hdm
    have hmul := G_mul t c f (dd / t.length)
    have hg := G_in t c t.length
    have hgo := G_in t c o
    have hgf := G_in t c f
    have hle : dd / t.length ≤ dd := Nat.div_le_self _ _
    have e3 : f + dd / t.length * t.length = o - dd % t.length := by omega
    rw [e3] at hmul
    have hgm := G_in t c (o - dd % t.length)
    generalize dd % t.length = md at hm hmle hmul hgm ⊢
    generalize dd / t.length = q at hle hmul ⊢
    rw [w64_id (x := (q : Int)) (by omega) (by omega)]
    have hq0 : 0 ≤ (q : Int) * G t c t.length := Int.mul_nonneg (by omega) hg.1
    generalize (q : Int) * G t c t.length = X at hmul hq0 ⊢
    rw [w64_id (x := X) (by omega) (by omega)]
    have e4 : IntKind.i64.wrap ((o : Int) - (md : Int)) = ((o - md : Nat) : Int) := by rw [w64_id (by omega) (by omega)]; omega
    rw [e4, rtail_l K hL' c (by omega) md K (o - md) X (by omega) (by omega) (by omega) (by omega)]
    congr 1
    omega

theorem tl_make (K : Nat) (l : List Int) (hl : ∀ x ∈ l, (Lit.int .u8 x).wf = true) (hlen : l.length ≤ 100) (j : List Int → Option Bool) : ∀ (d n i : Nat), i + d = l.length → d < n →
    confidantlaw18_TableTells.l0 K l j n (mk 5 (l.take i)) (i : Int) = j (mk 5 l)
  | 0, n, i, hd, hn => by
    obtain ⟨n, rfl⟩ : ∃ k, n = k + 1 := ⟨n - 1, by omega⟩
    rw [confidantlaw18_TableTells.l0.eq_2, if_neg (by omega), List.take_of_length_le (by omega)]
  | d + 1, n, i, hd, hn => by
    obtain ⟨n, rfl⟩ : ∃ k, n = k + 1 := ⟨n - 1, by omega⟩
    rw [confidantlaw18_TableTells.l0.eq_2, if_pos (by omega), if_pos (by omega)]
    simp only [lt]
    have e4 : IntKind.i64.wrap ((i : Int) + 1) = ((i + 1 : Nat) : Int) := by rw [w64_id (by omega) (by omega)]; omega
    have e5 : (mk 5 (l.take i)).length ≤ 100 := by rw [mk_len]; simp; omega
    rw [if_pos (by simp only [List.length_cons, List.length_nil]; omega), u8_mod hl _ 5 (by omega), e4, Int.toNat_natCast, mk_step i (by omega)]
    exact tl_make K l hl hlen j d n (i + 1) (by omega) (by omega)

theorem fuel2 : ∃ K, 2000000 ≤ K ∧ confidantlaw18_known.f K = some true := ⟨2000000, Nat.le_refl _, by kernel_rfl⟩

theorem tl_2 (K : Nat) (hK : 1000 ≤ K) (ns : List Int) (hns : ns.length = 2) (ts : List (List Int)) (x : Int) (hL : (ts.getD x.toNat []).length ≤ 100) (j : List Int → Option Bool) : ∀ (d n i : Nat), i + d = 2 → d < n →
    confidantlaw18_TableTells.l2 K ns ts x j n (i : Int) = j ns
  | 0, n, i, hd, hn => by
    obtain ⟨n, rfl⟩ : ∃ k, n = k + 1 := ⟨n - 1, by omega⟩
    rw [confidantlaw18_TableTells.l2.eq_2, if_neg (by omega)]
  | d + 1, n, i, hd, hn => by
    obtain ⟨n, rfl⟩ : ∃ k, n = k + 1 := ⟨n - 1, by omega⟩
    have ih := tl_2 K hK ns hns ts x hL j d n (i + 1) (by omega) (by omega)
    have e4 : IntKind.i64.wrap ((i : Int) + 1) = ((i + 1 : Nat) : Int) := by rw [w64_id (by omega) (by omega)]; omega
    rw [confidantlaw18_TableTells.l2.eq_2, if_pos (by omega), if_pos (by omega)]
    clear hd
    generalize ts.getD x.toNat [] = t at hL ⊢
    obtain ⟨b, h1, h2⟩ := all_eq K hK hL (ns.getD (i : Int).toNat 0)
    rw [right_f K hK hL, rright_f K hK hL, h1, h2, e4]
    simp only [b1, lt, beq_self_eq_true, if_true]
    exact ih

theorem tl_3 (K : Nat) (hK : 2000000 ≤ K) (cs : List Int) (hcs : cs.length = 2) (ts : List (List Int)) (x : Int) (hL : (ts.getD x.toNat []).length ≤ 100) (a b k : Int) (hk : 0 ≤ k ∧ k ≤ 255) (j : List Int → List Int → Option Bool) (tt : List Int) : ∀ (d n i : Nat), i + d = 2 → d < n →
    confidantlaw18_TableTells.l3 K cs ts x a b k j tt n (i : Int) = j cs tt
  | 0, n, i, hd, hn => by
    obtain ⟨n, rfl⟩ : ∃ k, n = k + 1 := ⟨n - 1, by omega⟩
    rw [confidantlaw18_TableTells.l3.eq_2, if_neg (by omega)]
  | d + 1, n, i, hd, hn => by
    obtain ⟨n, rfl⟩ : ∃ k, n = k + 1 := ⟨n - 1, by omega⟩
    have ih := tl_3 K hK cs hcs ts x hL a b k hk j tt d n (i + 1) (by omega) (by omega)
    have e4 : IntKind.i64.wrap ((i : Int) + 1) = ((i + 1 : Nat) : Int) := by rw [w64_id (by omega) (by omega)]; omega
    rw [confidantlaw18_TableTells.l3.eq_2, if_pos (by omega), if_pos (by omega), e4, ih]
    have hA : mn (mx a (-5)) 1048576 < 1100000 := by unfold mn; split <;> omega
    have hB : mn (mx b (-5)) 1048576 < 1100000 := by unfold mn; split <;> omega
    have hC : IntKind.i64.wrap k < 1100000 := by rw [w64_id (by omega) (by omega)]; omega
    have hD : IntKind.i64.wrap ((IntKind.i64.wrap k) + (IntKind.i64.wrap (IntKind.u8.wrap (Int.tdiv k 3)))) < 1100000 := by
      have h8 : 0 ≤ IntKind.u8.wrap (Int.tdiv k 3) ∧ IntKind.u8.wrap (Int.tdiv k 3) < 256 := by rw [wu8]; omega
      rw [w64_id (x := k) (by omega) (by omega), w64_id (x := IntKind.u8.wrap (Int.tdiv k 3)) (by omega) (by omega), w64_id (by omega) (by omega)]
      omega
    generalize mn (mx a (-5)) 1048576 = A at hA ⊢
    generalize mn (mx b (-5)) 1048576 = B at hB ⊢
    generalize IntKind.i64.wrap ((IntKind.i64.wrap k) + (IntKind.i64.wrap (IntKind.u8.wrap (Int.tdiv k 3)))) = D at hD ⊢
    generalize IntKind.i64.wrap k = C at hC ⊢
    generalize ts.getD x.toNat [] = t at hL ⊢
    generalize cs.getD (i : Int).toNat 0 = c
    obtain ⟨u, hu⟩ := at_some K t A
    obtain ⟨v, hv1, hv2⟩ := next_eq K (by omega) hL c (a := A) (by omega)
    obtain ⟨y, hy1, hy2⟩ := slots_eq K hK hL c hA hB
    obtain ⟨z, hz1, hz2⟩ := slots_eq K hK hL c hC hD
    rw [rat_f, hu, hv1, hv2, hy1, hy2, hz1, hz2]
    simp [b1, lt]

theorem TableTells : confidantlaw18_TableTells.Pure := by
  intro raw l lab label a b k _ _ _ hl _ _ _ _ hk0
  have hk := is_u8 hk0
  obtain ⟨K, hK, hknown⟩ := fuel2
  refine ⟨K, ?_⟩
  unfold confidantlaw18_TableTells.f
  simp only [hknown, b1, if_true, lt]
  by_cases h : (raw.length : Int) > 80
  · rw [if_pos h]
  rw [if_neg h]
  by_cases h2 : (l.length : Int) > 70
  · rw [decide_eq_true h2]; rfl
  rw [decide_eq_false h2]
  simp only [Bool.false_eq_true, if_false]
  refine Eq.trans (tl_make K l hl (by omega) _ l.length K 0 (by omega) (by omega)) ?_
  have hL2 : (mk 5 l).length ≤ 100 := by rw [mk_len]; omega
  generalize mk 5 l = t at hL2 ⊢
  have step : ∀ (n : Nat) (x : Int), 0 ≤ x → x < 2 → confidantlaw18_TableTells.l1 K [raw, t] label k a b lab (n + 1) x = confidantlaw18_TableTells.l1 K [raw, t] label k a b lab n (x + 1) := by
    intro n x h0 h1
    have hl2 : ((([raw, t] : List (List Int)).length : Nat) : Int) = 2 := rfl
    have hx : (([raw, t] : List (List Int)).getD x.toNat []).length ≤ 100 := by
      have : x = 0 ∨ x = 1 := by omega
      rcases this with rfl | rfl
      · show raw.length ≤ 100; omega
      · show t.length ≤ 100; exact hL2
    rw [confidantlaw18_TableTells.l1.eq_2, hl2, if_pos h1]
    simp only [lt]
    rw [if_pos h0, w64_id (x := x + 1) (by omega) (by omega)]
    refine Eq.trans (tl_2 K (by omega) _ rfl [raw, t] x hx _ 2 K 0 (by omega) (by omega)) ?_
    exact tl_3 K hK _ rfl [raw, t] x hx a b k hk _ _ 2 K 0 (by omega) (by omega)
  obtain ⟨n, hn⟩ : ∃ n, K = n + 3 := ⟨K - 3, by omega⟩
  have s0 := step (n + 2) 0 (by omega) (by omega)
  have s1 := step (n + 1) (0 + 1) (by omega) (by omega)
  have fin : ∀ m, m = n + 3 → confidantlaw18_TableTells.l1 K [raw, t] label k a b lab m 0 = some true := by
    intro m hm
    rw [hm, s0, s1, confidantlaw18_TableTells.l1.eq_2, if_neg (show ¬ ((0 : Int) + 1 + 1 < ((([raw, t] : List (List Int)).length : Nat) : Int)) from by show ¬ ((0 : Int) + 1 + 1 < 2); omega)]
  exact fin K hn

end Go.Proofs.Ytjfnejcanlkknaa.Pure
