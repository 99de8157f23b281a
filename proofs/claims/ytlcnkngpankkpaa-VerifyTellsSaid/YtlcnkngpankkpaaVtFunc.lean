import Derived.Test.YtlcnkngpankkpaaVtWalk
/- The program's answers about code are the document's. Conditions: in the lemmas. -/
set_option linter.unusedVariables false
set_option linter.unusedSimpArgs false
namespace Go.Proofs.Ytlcnkngpankkpaa.Vt
open Go Go.Fw Go.RowKit Go.Proofs.Ytlcnkngpankkpaa.G

theorem set_rep (n i : Nat) (h : i < n) : (List.replicate i (-1 : Int) ++ List.replicate (n - i) 0).set i (-1) = List.replicate (i + 1) (-1) ++ List.replicate (n - (i + 1)) 0 := by
  obtain ⟨m, hm⟩ : ∃ m, n - i = m + 1 := ⟨n - i - 1, by omega⟩
  have hm2 : n - (i + 1) = m := by omega
  rw [hm, hm2, List.set_append_right _ _ (by simp)]
  simp only [List.length_replicate, Nat.sub_self, List.replicate_succ, List.set_cons_zero]
  rw [← List.replicate_succ, List.replicate_succ', List.append_assoc]
  rfl
theorem fillP (K : Nat) (c5 : List Int) (hc : c5.length ≤ 512) (g : List Int → Option (List Int × Int)) : ∀ (d n i : Nat), i + d = c5.length → d < n → verify_walk.l0 K c5 g n (List.replicate i (-1) ++ List.replicate (c5.length - i) 0) (i : Int) = g (List.replicate c5.length (-1)) := by
  intro d
  induction d with
  | zero =>
    intro n i hd hn
    obtain ⟨n, rfl⟩ : ∃ k, n = k + 1 := ⟨n - 1, by omega⟩
    rw [verify_walk.l0.eq_2, if_neg (by omega), show i = c5.length by omega]
    simp
  | succ d ih =>
    intro n i hd hn
    obtain ⟨n, rfl⟩ : ∃ k, n = k + 1 := ⟨n - 1, by omega⟩
    rw [verify_walk.l0.eq_2, if_pos (by omega), if_pos (by omega), if_pos (by simp; omega), Int.toNat_natCast, set_rep _ _ (by omega)]
    simp only [lt]
    rw [w64_id (by omega) (by omega), show ((i : Int) + 1) = ((i + 1 : Nat) : Int) by omega]
    exact ih n (i + 1) (by omega) (by omega)
theorem fillR (K : Nat) (f : List S32) (hc : f.length ≤ 512) (g : List Int → Option (List Int × List Bool)) : ∀ (d n i : Nat), i + d = f.length → d < n → confidantref5_walk.l0 K f g n (List.replicate i (-1) ++ List.replicate (f.length - i) 0) (i : Int) = g (List.replicate f.length (-1)) := by
  intro d
  induction d with
  | zero =>
    intro n i hd hn
    obtain ⟨n, rfl⟩ : ∃ k, n = k + 1 := ⟨n - 1, by omega⟩
    rw [confidantref5_walk.l0.eq_2, if_neg (by omega), show i = f.length by omega]
    simp
  | succ d ih =>
    intro n i hd hn
    obtain ⟨n, rfl⟩ : ∃ k, n = k + 1 := ⟨n - 1, by omega⟩
    rw [confidantref5_walk.l0.eq_2, if_pos (by omega), if_pos (by omega), if_pos (by simp; omega), Int.toNat_natCast, set_rep _ _ (by omega)]
    simp only [lt]
    rw [w64_id (by omega) (by omega), show ((i : Int) + 1) = ((i + 1 : Nat) : Int) by omega]
    exact ih n (i + 1) (by omega) (by omega)

theorem walk_same (K : Nat) (hK : 1000 ≤ K) (f : List S32) (hf : f.length ≤ 512) (hf0 : 0 < f.length) (hfit : Fit f) : ∃ (D : List Int) (B : List Bool), D.length = f.length ∧ B.length = f.length ∧ verify_walk.f K f = some (D, if least B = f.length then -1 else (least B : Int)) ∧ confidantref5_walk.f K f = some (D, B) := by
  have hneg : ([0] : List Int).length + neg ((List.replicate f.length (-1 : Int)).set 0 0) ≤ 512 := by
    have h1 := neg_set (List.replicate f.length (-1 : Int)) 0 0 (by simpa using hf0) (Int.le_refl _) (by
      rw [List.getD_eq_getElem?_getD, List.getElem?_replicate, if_pos hf0]; simp)
    have h2 : neg (List.replicate f.length (-1 : Int)) ≤ f.length := by
      unfold neg
      exact Nat.le_trans (List.countP_le_length) (by simp)
    rw [List.length_singleton]
    omega
  have hall : ∀ x ∈ (List.replicate f.length (-1 : Int)).set 0 0, -1 ≤ x ∧ x ≤ 32 := by
    intro x hx
    rcases List.mem_or_eq_of_mem_set hx with hx | hx
    · have := List.eq_of_mem_replicate hx; omega
    · omega
  obtain ⟨W', D', B', s1, s2, s3, s4⟩ := l1_same K (by omega) f hf hfit (fun (j5 : List Int) (d2 : List Int) (d9 : Int) => if d9 = (f.length : Int) then some (d2, -1) else some (d2, d9)) (fun (p1 : List Int) (g6 : List Bool) (g7 : List Int) => some (g7, g6)) K 0 [0] ((List.replicate f.length (-1)).set 0 0) (List.replicate f.length false) (by omega) (Nat.zero_le _) hneg (by simp) (by simp) hall (fun x hx => by have := List.mem_singleton.1 hx; omega)
  refine ⟨D', B', s1, s2, ?_, ?_⟩
  · unfold verify_walk.f
    rw [if_pos (by omega), if_pos (by omega)]
    simp only [lt, Int.toNat_natCast]
    have h0 := fillP K (List.replicate f.length 0) (by simpa using hf)
    simp only [List.length_replicate] at h0
    refine Eq.trans (h0 _ f.length K 0 (by omega) (by omega)) ?_
    simp only [List.length_replicate]
    rw [if_pos (by omega)]
    rw [List.drop_zero, least_no] at s3
    refine Eq.trans s3 ?_
    by_cases hb : least B' = f.length
    · rw [if_pos hb, if_pos (by omega)]
    · rw [if_neg hb, if_neg (by omega)]
  · unfold confidantref5_walk.f
    rw [if_pos (by omega), if_pos (by omega)]
    simp only [lt, Int.toNat_natCast]
    rw [if_pos (by omega)]
    refine Eq.trans (fillR K f hf _ f.length K 0 (by omega) (by omega)) ?_
    simp only [List.length_replicate]
    rw [if_neg (by omega), if_pos (by omega)]
    exact s4

/-! ### Func -/
/-- code of 32 bits -/
def Rn (f : List S32) : Prop := ∀ x ∈ f, rng x
theorem l0_same (K : Nat) (f : List S32) (hf : f.length ≤ 512) (F L G : Int) (j k : Option (Int × Int)) : ∀ (d n i : Nat), i + d = f.length → d < n →
    (∃ e : Int, verify_Func.l0 K f F L G j n (i : Int) = some (e, 24) ∧ confidantref5_Func.l0 K f F L G k n (i : Int) = some (e, 24)) ∨
    (verify_Func.l0 K f F L G j n (i : Int) = j ∧ confidantref5_Func.l0 K f F L G k n (i : Int) = k ∧ ∀ m, i ≤ m → m < f.length → verify_may.f K (f.getD m zS32).f0 (f.getD m zS32).f1 (f.length : Int) F L G = some true) := by
  intro d
  induction d with
  | zero =>
    intro n i hd hn
    obtain ⟨n, rfl⟩ : ∃ k, n = k + 1 := ⟨n - 1, by omega⟩
    exact Or.inr ⟨by rw [verify_Func.l0.eq_2, if_neg (by omega)], by rw [confidantref5_Func.l0.eq_2, if_neg (by omega)], fun m h1 h2 => absurd h2 (by omega)⟩
  | succ d ih =>
    intro n i hd hn
    obtain ⟨n, rfl⟩ : ∃ k, n = k + 1 := ⟨n - 1, by omega⟩
    have hw : IntKind.i64.wrap ((i : Int) + 1) = ((i + 1 : Nat) : Int) := by rw [w64_id (by omega) (by omega)]; omega
    obtain ⟨b, h1, h2, _⟩ := may_same K (f.getD i zS32).f0 (f.getD i zS32).f1 (f.length : Int) F L G
    have eP : verify_Func.l0 K f F L G j (n + 1) (i : Int) = if b = true then verify_Func.l0 K f F L G j n ((i + 1 : Nat) : Int) else some ((i : Int), 24) := by
      rw [verify_Func.l0.eq_2, if_pos (by omega), if_pos (by omega), Int.toNat_natCast, h1, hw]
      rfl
    have eR : confidantref5_Func.l0 K f F L G k (n + 1) (i : Int) = if b = true then confidantref5_Func.l0 K f F L G k n ((i + 1 : Nat) : Int) else some ((i : Int), 24) := by
      rw [confidantref5_Func.l0.eq_2, if_pos (by omega), if_pos (by omega), Int.toNat_natCast, h2, hw]
      rfl
    rw [eP, eR]
    cases b with
    | false => exact Or.inl ⟨i, by rw [if_neg (by simp)], by rw [if_neg (by simp)]⟩
    | true =>
      rw [if_pos rfl, if_pos rfl]
      rcases ih n (i + 1) (by omega) (by omega) with h | ⟨g1, g2, g3⟩
      · exact Or.inl h
      · refine Or.inr ⟨g1, g2, fun m q1 q2 => ?_⟩
        by_cases hm : m = i
        · subst hm; exact h1
        · exact g3 m (by omega) q2
theorem bad_at (K : Nat) (f : List S32) (hf : f.length ≤ 512) (B : List Bool) (hB : B.length = f.length) : ∀ (d n i : Nat), i + d = f.length → d < n → i ≤ least B →
    confidantref5_Func.l1 K f B n (i : Int) = some (if least B = f.length then ((0 : Int), (0 : Int)) else ((least B : Int), 24)) := by
  have hle := least_le B
  intro d
  induction d with
  | zero =>
    intro n i hd hn hi
    obtain ⟨n, rfl⟩ : ∃ k, n = k + 1 := ⟨n - 1, by omega⟩
    rw [confidantref5_Func.l1.eq_2, if_neg (by omega), if_pos (by omega)]
  | succ d ih =>
    intro n i hd hn hi
    obtain ⟨n, rfl⟩ : ∃ k, n = k + 1 := ⟨n - 1, by omega⟩
    have hw : IntKind.i64.wrap ((i : Int) + 1) = ((i + 1 : Nat) : Int) := by rw [w64_id (by omega) (by omega)]; omega
    have ha := least_at B i hi (by omega)
    rw [confidantref5_Func.l1.eq_2, if_pos (by omega), if_pos (by omega), if_pos (by omega), Int.toNat_natCast, hw]
    by_cases hb : B.getD i false = true
    · rw [if_pos hb, if_neg (by have := ha.1 hb; omega), ← ha.1 hb]
    · rw [if_neg hb]
      exact ih n (i + 1) (by omega) (by omega) (by have : i ≠ least B := fun h => hb (ha.2 h); omega)
/-- both tell the same of a function -/
theorem func_same (K : Nat) (hK : 1000 ≤ K) (f : List S32) (hr : Rn f) (F L G : Int) : ∃ a e : Int, verify_Func.f K f F L G = some (a, e) ∧ confidantref5_Func.f K f F L G = some (a, e) ∧ (e = 0 → ∃ (D : List Int) (b : Int) (B : List Bool), D.length ≤ 512 ∧ verify_walk.f K f = some (D, b) ∧ confidantref5_walk.f K f = some (D, B)) := by
  unfold verify_Func.f confidantref5_Func.f
  by_cases h1 : (f.length : Int) > 512
  · rw [if_pos h1, if_pos h1]
    exact ⟨_, _, rfl, rfl, fun h => absurd h (by omega)⟩
  rw [if_neg h1, if_neg h1]
  by_cases h2 : (f.length : Int) = 0
  · rw [if_pos h2, if_pos h2]
    exact ⟨_, _, rfl, rfl, fun h => absurd h (by omega)⟩
  rw [if_neg h2, if_neg h2]
  simp only [lt]
  rcases l0_same K f (by omega) F L G (b2 (verify_walk.f K f) fun (b9 : List Int) (a2 : Int) => (if a2 ≥ 0 then (some (a2, 24)) else (some (0, 0)))) (b2 (confidantref5_walk.f K f) fun (c8 : List Int) (a8 : List Bool) => (confidantref5_Func.l1 K f a8 K 0)) f.length K 0 (by omega) (by omega) with ⟨e, g1, g2⟩ | ⟨g1, g2, g3⟩
  · exact ⟨_, _, g1, g2, fun h => absurd h (by omega)⟩
  have hfit : Fit f := by
    intro x hx
    obtain ⟨m, hm, rfl⟩ := List.getElem_of_mem hx
    have e := g3 m (Nat.zero_le _) hm
    rw [List.getD_eq_getElem?_getD, List.getElem?_eq_getElem hm, Option.getD_some] at e
    obtain ⟨b, q1, q2, q3⟩ := may_same K f[m].f0 f[m].f1 (f.length : Int) F L G
    rw [q1] at e
    have q4 := q3 (Option.some.inj e)
    have hg : rng f[m] := hr _ (List.getElem_mem hm)
    refine ⟨q4.1, fun h => ?_⟩
    have := q4.2 h
    unfold rng at hg
    rw [w64_id (by omega) (by omega)]
    omega
  obtain ⟨D, B, s1, s2, s3, s4⟩ := walk_same K hK f (by omega) (by omega) hfit
  have hle := least_le B
  refine ⟨(if least B = f.length then ((0 : Int), (0 : Int)) else ((least B : Int), 24)).1, (if least B = f.length then ((0 : Int), (0 : Int)) else ((least B : Int), 24)).2, g1.trans ?_, g2.trans ?_, fun _ => ⟨D, _, B, by omega, s3, s4⟩⟩
  · rw [s3]
    simp only [b2]
    by_cases hb : least B = f.length
    · rw [if_pos hb, if_pos hb, if_neg (by omega)]
    · rw [if_neg hb, if_neg hb, if_pos (by omega)]
  · rw [s4]
    simp only [b2]
    exact bad_at K f (by omega) B s2 f.length K 0 (by omega) (by omega) (Nat.zero_le _)

/-! ### Depths, Ints, Image -/
theorem depths_same (K : Nat) (hK : 1000 ≤ K) (f : List S32) (hr : Rn f) : ∃ D : List Int, D.length ≤ 512 ∧ verify_Depths.f K f = some D ∧ confidantref5_Depths.f K f = some D := by
  obtain ⟨a, e, h1, h2, h3⟩ := func_same K hK f hr 2147483648 2147483648 2147483648
  unfold verify_Depths.f confidantref5_Depths.f
  rw [h1, h2]
  simp only [b2]
  by_cases he : e = 0
  · obtain ⟨D, b, B, hD, q1, q2⟩ := h3 he
    rw [if_pos he, if_pos he, q1, q2]
    exact ⟨D, hD, rfl, rfl⟩
  · rw [if_neg he, if_neg he]
    exact ⟨[], by simp, rfl, rfl⟩
theorem ints_l (K : Nat) (D : List Int) (hD : D.length ≤ 512) : ∀ (d n i : Nat), i + d = D.length → d < n → confidanthelp_Ints.l0 K D D n (i : Int) = some true := by
  intro d
  induction d with
  | zero =>
    intro n i hd hn
    obtain ⟨n, rfl⟩ : ∃ k, n = k + 1 := ⟨n - 1, by omega⟩
    rw [confidanthelp_Ints.l0.eq_2, if_neg (by omega)]
  | succ d ih =>
    intro n i hd hn
    obtain ⟨n, rfl⟩ : ∃ k, n = k + 1 := ⟨n - 1, by omega⟩
    have hw : IntKind.i64.wrap ((i : Int) + 1) = ((i + 1 : Nat) : Int) := by rw [w64_id (by omega) (by omega)]; omega
    rw [confidanthelp_Ints.l0.eq_2, if_pos (by omega), if_pos (by omega), if_pos (by omega), if_pos rfl, hw]
    exact ih n (i + 1) (by omega) (by omega)
theorem ints_same (K : Nat) (hK : 1000 ≤ K) (D : List Int) (hD : D.length ≤ 512) : confidanthelp_Ints.f K D D = some true := by
  unfold confidanthelp_Ints.f
  rw [if_pos rfl]
  exact ints_l K D hD D.length K 0 (by omega) (by omega)
theorem image_l (K : Nat) (hK : 1000 ≤ K) (m : List (List S32)) (hm : m.length ≤ 64) (hr : ∀ c ∈ m, Rn c) (L G : Int) : ∀ (d n i : Nat), i + d = m.length → d < n → ∃ a b e : Int, verify_Image.l0 K m L G n (i : Int) = some (a, b, e) ∧ confidantref5_Image.l0 K m L G n (i : Int) = some (a, b, e) := by
  intro d
  induction d with
  | zero =>
    intro n i hd hn
    obtain ⟨n, rfl⟩ : ∃ k, n = k + 1 := ⟨n - 1, by omega⟩
    exact ⟨0, 0, 0, by rw [verify_Image.l0.eq_2, if_neg (by omega)], by rw [confidantref5_Image.l0.eq_2, if_neg (by omega)]⟩
  | succ d ih =>
    intro n i hd hn
    obtain ⟨n, rfl⟩ : ∃ k, n = k + 1 := ⟨n - 1, by omega⟩
    have hw : IntKind.i64.wrap ((i : Int) + 1) = ((i + 1 : Nat) : Int) := by rw [w64_id (by omega) (by omega)]; omega
    have hi : i < m.length := by omega
    obtain ⟨a, e, h1, h2, _⟩ := func_same K hK (m.getD i []) (by
      rw [List.getD_eq_getElem?_getD, List.getElem?_eq_getElem hi]
      exact hr _ (List.getElem_mem hi)) (m.length : Int) L G
    have eP : verify_Image.l0 K m L G (n + 1) (i : Int) = if e = 0 then verify_Image.l0 K m L G n ((i + 1 : Nat) : Int) else some ((i : Int), a, e) := by
      rw [verify_Image.l0.eq_2, if_pos (by omega), if_pos (by omega), Int.toNat_natCast, h1, hw]
      rfl
    have eR : confidantref5_Image.l0 K m L G (n + 1) (i : Int) = if e = 0 then confidantref5_Image.l0 K m L G n ((i + 1 : Nat) : Int) else some ((i : Int), a, e) := by
      rw [confidantref5_Image.l0.eq_2, if_pos (by omega), if_pos (by omega), Int.toNat_natCast, h2, hw]
      rfl
    rw [eP, eR]
    by_cases he : e = 0
    · rw [if_pos he, if_pos he]
      exact ih n (i + 1) (by omega) (by omega)
    · rw [if_neg he, if_neg he]
      exact ⟨_, _, _, rfl, rfl⟩
theorem image_same (K : Nat) (hK : 1000 ≤ K) (m : List (List S32)) (hr : ∀ c ∈ m, Rn c) (L G : Int) : ∃ a b e : Int, verify_Image.f K m L G = some (a, b, e) ∧ confidantref5_Image.f K m L G = some (a, b, e) := by
  unfold verify_Image.f confidantref5_Image.f
  by_cases h1 : (m.length : Int) > 64
  · rw [if_pos h1, if_pos h1]
    exact ⟨_, _, _, rfl, rfl⟩
  rw [if_neg h1, if_neg h1]
  by_cases h2 : (m.length : Int) = 0
  · rw [if_pos h2, if_pos h2]
    exact ⟨_, _, _, rfl, rfl⟩
  rw [if_neg h2, if_neg h2]
  exact image_l K hK m (by omega) hr L G m.length K 0 (by omega) (by omega)
end Go.Proofs.Ytlcnkngpankkpaa.Vt
