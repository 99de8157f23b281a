import Derived.Test.YtjfnejcanlkknaaRing
import Derived.Test.YtjfnejcanlkknaaG2
/- Any story of a ring comes to just what the document tells. No condition. -/
set_option linter.unusedVariables false
set_option linter.unusedSimpArgs false
namespace Go.Proofs.Ytjfnejcanlkknaa.Pure
open Go Go.Fw Go.RowKit Go.Proofs.Ytjfnejcanlkknaa.G Go.Proofs.Ytjfnejcanlkknaa.Ring

theorem lt_all {α β : Type} {e : α} {b : α → Option β} {r : Option β} (P : α → Prop) (he : P e) (hb : ∀ x, P x → b x = r) : lt e b = r := hb e he

theorem si_l (K : Nat) (l : List Int) (hl : l.length ≤ 1000000) : ∀ (d n i : Nat), i + d = l.length → d < n → confidantref9_SameInts.l0 K l l n (i : Int) = some true
  | 0, n, i, hd, hn => by
    obtain ⟨n, rfl⟩ : ∃ k, n = k + 1 := ⟨n - 1, by omega⟩
    rw [confidantref9_SameInts.l0.eq_2, if_neg (by omega)]
  | d + 1, n, i, hd, hn => by
    obtain ⟨n, rfl⟩ : ∃ k, n = k + 1 := ⟨n - 1, by omega⟩
    rw [confidantref9_SameInts.l0.eq_2, if_pos (by omega), if_pos (by omega), if_pos (by omega), if_pos rfl, w64_id (by omega) (by omega), show ((i : Int) + 1) = ((i + 1 : Nat) : Int) by omega]
    exact si_l K l hl d n (i + 1) (by omega) (by omega)
theorem same_f (K : Nat) (a0 a1 a2 : Int) (l : List Int) (c0 c1 c2 c3 a5 a6 a7 a8 : Int) (hl : l.length ≤ 1000) (hK : 2000 ≤ K) : confidantref9_Same.f K a0 a1 a2 l c0 c1 c2 c3 a5 a6 a7 a8 a0 a1 a2 l c0 c1 c2 c3 a5 a6 a7 a8 = some true := by
  unfold confidantref9_Same.f confidantref9_SameInts.f
  simp only [if_true, b1]
  rw [show (0 : Int) = ((0 : Nat) : Int) from rfl, si_l K l (by omega) l.length K 0 (by omega) (by omega)]
  simp
theorem sa_l (K : Nat) (xs : List S37) (hl : xs.length ≤ 1000) (hs : ∀ x ∈ xs, x.f3.length ≤ 1000) (hK : 2000 ≤ K) : ∀ (d n i : Nat), i + d = xs.length → d < n → confidantref9_SameAll.l0 K xs xs n (i : Int) = some true
  | 0, n, i, hd, hn => by
    obtain ⟨n, rfl⟩ : ∃ k, n = k + 1 := ⟨n - 1, by omega⟩
    rw [confidantref9_SameAll.l0.eq_2, if_neg (by omega)]
  | d + 1, n, i, hd, hn => by
    obtain ⟨n, rfl⟩ : ∃ k, n = k + 1 := ⟨n - 1, by omega⟩
    have hi : i < xs.length := by omega
    have e : xs.getD (i : Int).toNat zS37 = xs[i] := by simp [List.getD, hi]
    rw [confidantref9_SameAll.l0.eq_2, if_pos (by omega), if_pos (by omega), if_pos (by omega), e, same_f K _ _ _ _ _ _ _ _ _ _ _ _ (hs _ (List.getElem_mem hi)) hK]
    simp only [b1, if_true]
    rw [w64_id (by omega) (by omega), show ((i : Int) + 1) = ((i + 1 : Nat) : Int) by omega]
    exact sa_l K xs hl hs hK d n (i + 1) (by omega) (by omega)
theorem sameAll_f (K : Nat) (xs : List S37) (hl : xs.length ≤ 1000) (hs : ∀ x ∈ xs, x.f3.length ≤ 1000) (hK : 2000 ≤ K) : confidantref9_SameAll.f K xs xs = some true := by
  unfold confidantref9_SameAll.f
  rw [if_pos rfl]
  exact sa_l K xs hl hs hK xs.length K 0 (by omega) (by omega)

/-! ### the reference's ring -/
theorem rpush_f (K : Nat) (w : Nat) (xs : List S37) (hx : xs.length ≤ 64) (a0 a1 a2 : Int) (l3 : List Int) (c0 c1 c2 c3 a5 a6 a7 a8 : Int) : confidantref15_Ring_Push.f K (w : Int) xs a0 a1 a2 l3 c0 c1 c2 c3 a5 a6 a7 a8 = some ((w : Int), pushed w xs ⟨a0, a1, a2, l3, ⟨c0, c1, c2, c3⟩, a5, a6, a7, a8⟩, decide (xs.length < w)) := by
  unfold confidantref15_Ring_Push.f pushed
  by_cases h : xs.length < w
  · rw [if_neg (by omega), if_pos h, decide_eq_true h]
    simp only [lt, List.length_nil, Nat.zero_add, List.nil_append, List.length_singleton]
    rw [if_pos (by omega), if_pos (by omega)]
  · rw [if_pos (by omega), if_neg h, decide_eq_false h]
theorem rpop_f (K : Nat) (w : Int) (xs : List S37) (hx : xs.length ≤ 64) : confidantref15_Ring_Pop.f K w xs = some (w, xs.dropLast, (if xs = [] then zS37 else xs.getD (xs.length - 1) zS37), !xs.isEmpty) := by
  unfold confidantref15_Ring_Pop.f
  by_cases h0 : xs = []
  · subst h0
    have : IntKind.i64.wrap ((([] : List S37).length : Int) - 1) = -1 := by decide
    rw [this]; rfl
  · have hpos := List.length_pos_iff.2 h0
    have e : IntKind.i64.wrap ((xs.length : Int) - 1) = ((xs.length - 1 : Nat) : Int) := by rw [w64_id (by omega) (by omega)]; omega
    have hne : xs.isEmpty = false := by simpa using h0
    rw [e, if_neg (by omega), if_pos (by omega), if_pos (by omega), if_pos (by omega)]
    simp only [lt, Int.toNat_natCast]
    rw [eta, if_neg h0, hne, List.dropLast_eq_take]
    rfl
theorem rsteal_f (K : Nat) (w : Int) (xs : List S37) : confidantref15_Ring_Steal.f K w xs = some (w, xs.tail, (if xs = [] then zS37 else xs.getD 0 zS37), !xs.isEmpty) := by
  unfold confidantref15_Ring_Steal.f
  cases xs with
  | nil => rfl
  | cons x xs =>
    rw [if_neg (by simp; omega), if_pos (by simp), if_pos (by simp; omega)]
    rfl
theorem rhalf_f (K : Nat) (w : Int) (xs : List S37) (hx : xs.length ≤ 64) : confidantref15_Ring_Half.f K w xs = some (w, xs.drop ((xs.length + 1) / 2), xs.take ((xs.length + 1) / 2)) := by
  unfold confidantref15_Ring_Half.f
  have e : IntKind.i64.wrap (Int.tdiv (IntKind.i64.wrap ((xs.length : Int) + 1)) 2) = (((xs.length + 1) / 2 : Nat) : Int) := by
    rw [w64_id (x := (xs.length : Int) + 1) (by omega) (by omega), Int.tdiv_eq_ediv_of_nonneg (by omega), w64_id (by omega) (by omega)]; omega
  simp only [lt, e, Int.toNat_natCast, List.length_nil, Nat.zero_add, List.nil_append]
  rw [if_pos (by omega), if_pos (by omega), if_pos (by rw [List.length_take]; omega)]

theorem rp_1 (K : Nat) (hK : 2000 ≤ K) (s : List Int) (hs : ∀ x ∈ s, (Lit.int .u8 x).wf = true) (hl : s.length ≤ 100) (j : List S37 → Int → Int → Int → List S37 → Option Bool) (hj : ∀ l t n w xs, j l t n w xs = some true) : ∀ (d n i : Nat) (l : List S37) (t : Nat) (xs : List S37), i + d = s.length → d < n → Holds l t xs →
    confidantlaw15_RingPlays.l1 K s j n l (t : Int) (xs.length : Int) (l.length : Int) xs (i : Int) = some true
  | 0, n, i, l, t, xs, hd, hn, h => by
    obtain ⟨n, rfl⟩ : ∃ k, n = k + 1 := ⟨n - 1, by omega⟩
    rw [confidantlaw15_RingPlays.l1.eq_2, if_neg (by omega)]
    exact hj _ _ _ _ _
  | d + 1, n, i, l, t, xs, hd, hn, h => by
    obtain ⟨n, rfl⟩ : ∃ k, n = k + 1 := ⟨n - 1, by omega⟩
    have hle := h.le
    have hf := h.fits
    rw [confidantlaw15_RingPlays.l1.eq_2, if_pos (by omega)]
    refine lt_all (P := fun J => ∀ l' (t' : Nat) xs', Holds l' t' xs' → l'.length = l.length → J (l.length : Int) xs' l' (t' : Int) (xs'.length : Int) = some true) (fun l' t' xs' h' hl' => ?_) (fun J hJ => ?_)
    · have hle' := h'.le
      have hf' := h'.fits
      unfold ring_Ring_Len.f
      simp only [lt, b3, if_true]
      rw [all_f K h' (by omega)]
      simp only
      rw [sameAll_f K xs' (by omega) h'.small hK]
      simp only [b1, Bool.not_true, Bool.false_eq_true, if_false]
      rw [w64_id (by omega) (by omega), show ((i : Int) + 1) = ((i + 1 : Nat) : Int) by omega, ← hl']
      exact rp_1 K hK s hs hl j hj d n (i + 1) l' t' xs' (by omega) (by omega) h'
    · rw [if_pos (by omega)]
      have hi : i < s.length := by omega
      have e : s.getD (i : Int).toNat 0 = s[i] := by simp [List.getD, hi]
      have hu := is_u8 (hs _ (List.getElem_mem hi))
      rw [e]
      have push : ∀ a8 : Int, (b4 (ring_Ring_Push.f K l (t : Int) (xs.length : Int) (IntKind.i32.wrap (i : Int)) 0 0 [IntKind.i32.wrap (i : Int)] 0 0 0 0 0 0 0 a8) fun t73251 t73252 t73253 t73254 => b3 (confidantref15_Ring_Push.f K (l.length : Int) xs (IntKind.i32.wrap (i : Int)) 0 0 [IntKind.i32.wrap (i : Int)] 0 0 0 0 0 0 0 a8) fun t73258 t73259 t73260 => if (t73254 == t73260) = true then J t73258 t73259 t73251 t73252 t73253 else some false) = some true := by
        intro a8
        obtain ⟨l', g1, g2, g3⟩ := push_f K h (IntKind.i32.wrap (i : Int)) 0 0 [IntKind.i32.wrap (i : Int)] 0 0 0 0 0 0 0 a8 (by simp)
        rw [g1, rpush_f K l.length xs (by omega)]
        simp only [b4, b3, beq_self_eq_true, if_true]
        exact hJ l' t _ g2 g3
      have h8 : Int.tmod s[i] 8 = 0 ∨ Int.tmod s[i] 8 = 1 ∨ Int.tmod s[i] 8 = 2 ∨ Int.tmod s[i] 8 = 3 ∨ Int.tmod s[i] 8 = 4 ∨ Int.tmod s[i] 8 = 5 ∨ Int.tmod s[i] 8 = 6 ∨ Int.tmod s[i] 8 = 7 := by
        rw [Int.tmod_eq_emod_of_nonneg (by omega)]; omega
      have hsm : ∀ x : S37, x = (if xs = [] then zS37 else xs.getD (xs.length - 1) zS37) ∨ x = (if xs = [] then zS37 else xs.getD 0 zS37) → x.f3.length ≤ 1000 := by
        intro x hx
        by_cases h0 : xs = []
        · rw [if_pos h0, if_pos h0] at hx
          rcases hx with rfl | rfl <;> simp [zS37]
        · have hpos := List.length_pos_iff.2 h0
          rw [if_neg h0, if_neg h0] at hx
          rcases hx with rfl | rfl
          · have hlt : xs.length - 1 < xs.length := by omega
            have : xs.getD (xs.length - 1) zS37 = xs[xs.length - 1] := by simp [List.getD, hlt]
            rw [this]; exact h.small _ (List.getElem_mem _)
          · have : xs.getD 0 zS37 = xs[0] := by simp [List.getD, hpos]
            rw [this]; exact h.small _ (List.getElem_mem _)
      have pop : (b4 (ring_Ring_Pop.f K l (t : Int) (xs.length : Int)) fun t73288 t73289 t73290 t73291 => b4 (confidantref15_Ring_Pop.f K (l.length : Int) xs) fun t73306 t73307 t73308 t73309 => if (t73291 == t73309) = true then b1 (confidantref9_Same.f K t73290.f0 t73290.f1 t73290.f2 t73290.f3 t73290.f4.f0 t73290.f4.f1 t73290.f4.f2 t73290.f4.f3 t73290.f5 t73290.f6 t73290.f7 t73290.f8 t73308.f0 t73308.f1 t73308.f2 t73308.f3 t73308.f4.f0 t73308.f4.f1 t73308.f4.f2 t73308.f4.f3 t73308.f5 t73308.f6 t73308.f7 t73308.f8) fun t73326 => if (!t73326) = true then some false else J t73306 t73307 l t73288 t73289 else some false) = some true := by
        obtain ⟨g1, g2⟩ := pop_f K h
        have hv := hsm _ (.inl rfl)
        rw [g1, rpop_f K _ xs (by omega)]
        generalize (if xs = [] then zS37 else xs.getD (xs.length - 1) zS37) = v at hv
        simp only [b4, beq_self_eq_true, if_true]
        rw [same_f K _ _ _ _ _ _ _ _ _ _ _ _ hv hK]
        simp only [b1, Bool.not_true, Bool.false_eq_true, if_false]
        exact hJ l t _ g2 rfl
      have steal : (b4 (ring_Ring_Steal.f K l (t : Int) (xs.length : Int)) fun t73338 t73339 t73340 t73341 => b4 (confidantref15_Ring_Steal.f K (l.length : Int) xs) fun t73356 t73357 t73358 t73359 => if (t73341 == t73359) = true then b1 (confidantref9_Same.f K t73340.f0 t73340.f1 t73340.f2 t73340.f3 t73340.f4.f0 t73340.f4.f1 t73340.f4.f2 t73340.f4.f3 t73340.f5 t73340.f6 t73340.f7 t73340.f8 t73358.f0 t73358.f1 t73358.f2 t73358.f3 t73358.f4.f0 t73358.f4.f1 t73358.f4.f2 t73358.f4.f3 t73358.f5 t73358.f6 t73358.f7 t73358.f8) fun t73376 => if (!t73376) = true then some false else J t73356 t73357 l t73338 t73339 else some false) = some true := by
        obtain ⟨t', g1, g2⟩ := steal_f K h
        have hv := hsm _ (.inr rfl)
        rw [g1, rsteal_f K _ xs]
        generalize (if xs = [] then zS37 else xs.getD 0 zS37) = v at hv
        simp only [b4, beq_self_eq_true, if_true]
        rw [same_f K _ _ _ _ _ _ _ _ _ _ _ _ hv hK]
        simp only [b1, Bool.not_true, Bool.false_eq_true, if_false]
        exact hJ l t' _ g2 rfl
      have half : (b3 (ring_Ring_Half.f K l (t : Int) (xs.length : Int)) fun t73395 t73396 t73397 => b3 (confidantref15_Ring_Half.f K (l.length : Int) xs) fun t73401 t73402 t73403 => b1 (confidantref9_SameAll.f K t73397 t73403) fun t73409 => if t73409 = true then J t73401 t73402 l t73395 t73396 else some false) = some true := by
        obtain ⟨t', g1, g2⟩ := half_f K h (by omega)
        rw [g2, rhalf_f K _ xs (by omega)]
        simp only [b3]
        rw [sameAll_f K _ (by simp; omega) (fun x hx => h.small x (List.mem_of_mem_take hx)) hK]
        simp only [b1, if_true]
        exact hJ l t' _ g1 rfl
      rcases h8 with h8 | h8 | h8 | h8 | h8 | h8 | h8 | h8 <;> simp only [lt, h8, reduceIte, Int.reduceEq, decide_true, decide_false, Bool.false_eq_true, ite_self]
      · exact push _
      · exact push _
      · exact push _
      · exact push _
      · exact pop
      · exact pop
      · exact steal
      · exact half

theorem RingPlays : confidantlaw15_RingPlays.Pure := by
  intro a s ha _ hs
  obtain ⟨K, hK, hkn⟩ := known_f
  refine ⟨K, ?_⟩
  unfold confidantlaw15_RingPlays.f
  simp only [hkn, b1, if_true, lt]
  by_cases h : (s.length : Int) > 100
  · rw [if_pos h]
  rw [if_neg h]
  have step : ∀ (ps : List Int) (n i : Nat), i < ps.length → ps.length ≤ 10 → confidantlaw15_RingPlays.l0 K ps s n ((i + 1 : Nat) : Int) = some true → confidantlaw15_RingPlays.l0 K ps s (n + 1) (i : Int) = some true := by
    intro ps n i hi hl next
    rw [confidantlaw15_RingPlays.l0.eq_2, if_pos (by omega)]
    simp only [lt]
    rw [if_pos (by omega)]
    generalize ps.getD (i : Int).toNat 0 = q
    obtain ⟨r1, r2, r3⟩ := room_in q
    have hnew : confidantref15_NewRing.f K q = some (mn (mx q 1) 64, []) := rfl
    rw [new_f, hnew]
    unfold ring_Ring_Room.f
    simp only [b3, b2, List.length_replicate]
    rw [if_pos r3, ← r3, w64_id (by omega) (by omega), show ((i : Int) + 1) = ((i + 1 : Nat) : Int) by omega]
    have key := rp_1 K (by omega) s hs (by omega) (fun _ _ _ _ _ => confidantlaw15_RingPlays.l0 K ps s n ((i + 1 : Nat) : Int)) (fun _ _ _ _ _ => next) s.length K 0 _ 0 [] (by omega) (by omega) (new_holds q)
    rw [List.length_replicate] at key
    exact key
  have fin : ∀ (ps : List Int) (n : Nat), ps.length = 2 → confidantlaw15_RingPlays.l0 K ps s (n + 1) ((2 : Nat) : Int) = some true := by
    intro ps n hl
    rw [confidantlaw15_RingPlays.l0.eq_2, if_neg (by omega)]
  obtain ⟨k, hk⟩ : ∃ k, K = k + 3 := ⟨K - 3, by omega⟩
  have key : ∀ q, confidantlaw15_RingPlays.l0 K [a, q] s (k + 3) ((0 : Nat) : Int) = some true := fun q => step _ (k + 2) 0 (by simp) (by simp) (step _ (k + 1) 1 (by simp) (by simp) (fin _ k rfl))
  have := key (bA .i64 a 7)
  rw [← hk] at this
  exact this
end Go.Proofs.Ytjfnejcanlkknaa.Pure
