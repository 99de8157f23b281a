import Derived.Test.YtlcnkngpankkpaaG0
import Derived.Test.YtlcnkngpankkpaaG1
import Derived.Test.YtlcnkngpankkpaaG7
import Derived.Test.YtlcnkngpankkpaaG8
import Derived.Test.YtlcnkngpankkpaaVerify
/- Code must end, and what isn't reached isn't asked. No condition. -/
set_option linter.unusedVariables false
set_option linter.unusedSimpArgs false
namespace Go.Proofs.Ytlcnkngpankkpaa.Pure
open Go Go.Fw Go.RowKit Go.Proofs.Ytlcnkngpankkpaa.G Go.Proofs.Ytlcnkngpankkpaa.Verify

/-- it may be, wherever there is at least one of each -/
def May (K : Nat) (x : S32) : Prop := ∀ c F L G : Int, 0 < c → 0 < F → 0 < L → 0 < G → verify_may.f K x.f0 x.f1 c F L G = some true
theorem may0 (K : Nat) (o : Nat) (h : 1 ≤ o ∧ o ≤ 26) : May K ⟨(o : Int), 0⟩ := by
  intro c F L G hc hF hL hG
  have w0 : IntKind.i64.wrap 0 = 0 := by decide
  have pl : ∀ z : Int, 0 < z → (some (decide (IntKind.i64.wrap 0 < z)) : Option Bool) = some true := fun z hz => by rw [w0, decide_eq_true hz]
  rcases (by omega : o = 1 ∨ o = 2 ∨ o = 3 ∨ o = 4 ∨ o = 5 ∨ o = 6 ∨ o = 7 ∨ o = 8 ∨ o = 9 ∨ o = 10 ∨ o = 11 ∨ o = 12 ∨ o = 13 ∨ o = 14 ∨ o = 15 ∨ o = 16 ∨ o = 17 ∨ o = 18 ∨ o = 19 ∨ o = 20 ∨ o = 21 ∨ o = 22 ∨ o = 23 ∨ o = 24 ∨ o = 25 ∨ o = 26) with rfl | rfl | rfl | rfl | rfl | rfl | rfl | rfl | rfl | rfl | rfl | rfl | rfl | rfl | rfl | rfl | rfl | rfl | rfl | rfl | rfl | rfl | rfl | rfl | rfl | rfl
  · exact Eq.trans (by kernel_rfl) (rfl : (some true : Option Bool) = some true)
  · exact Eq.trans (by kernel_rfl) (rfl : (some true : Option Bool) = some true)
  · exact Eq.trans (by kernel_rfl) (rfl : (some true : Option Bool) = some true)
  · exact Eq.trans (by kernel_rfl) (rfl : (some true : Option Bool) = some true)
  · exact Eq.trans (by kernel_rfl) (rfl : (some true : Option Bool) = some true)
  · exact Eq.trans (by kernel_rfl) (rfl : (some true : Option Bool) = some true)
  · exact Eq.trans (by kernel_rfl) (rfl : (some true : Option Bool) = some true)
  · exact Eq.trans (by kernel_rfl) (rfl : (some true : Option Bool) = some true)
  · exact Eq.trans (by kernel_rfl) (rfl : (some true : Option Bool) = some true)
  · exact Eq.trans (by kernel_rfl) (pl c hc)
  · exact Eq.trans (by kernel_rfl) (pl c hc)
  · exact Eq.trans (by kernel_rfl) (pl 4 (by omega))
  · exact Eq.trans (by kernel_rfl) (pl 4 (by omega))
  · exact Eq.trans (by kernel_rfl) (rfl : (some true : Option Bool) = some true)
  · exact Eq.trans (by kernel_rfl) (pl L hL)
  · exact Eq.trans (by kernel_rfl) (pl L hL)
  · exact Eq.trans (by kernel_rfl) (pl L hL)
  · exact Eq.trans (by kernel_rfl) (rfl : (some true : Option Bool) = some true)
  · exact Eq.trans (by kernel_rfl) (rfl : (some true : Option Bool) = some true)
  · exact Eq.trans (by kernel_rfl) (pl F hF)
  · exact Eq.trans (by kernel_rfl) (rfl : (some true : Option Bool) = some true)
  · exact Eq.trans (by kernel_rfl) (pl L hL)
  · exact Eq.trans (by kernel_rfl) (pl G hG)
  · exact Eq.trans (by kernel_rfl) (pl G hG)
  · exact Eq.trans (by kernel_rfl) (rfl : (some true : Option Bool) = some true)
  · exact Eq.trans (by kernel_rfl) (rfl : (some true : Option Bool) = some true)

/-- what it is asked for, whatever it is -/
theorem seat_f (K : Nat) (a b : Int) (ha : 0 ≤ a ∧ a ≤ 255) : ∃ (o : Nat) (v : Int), (1 ≤ o ∧ o ≤ 26) ∧ confidantseat_Instr.f K a b = some ((o : Int), v) ∧
    ∃ t, confidantref5_Arg.f K (o : Int) = some t ∧ May K ⟨(o : Int), if t > 1 then 0 else v⟩ := by
  obtain ⟨o, ho, ho2⟩ : ∃ o : Nat, IntKind.i64.wrap ((Int.tmod (IntKind.i64.wrap a) 26) + 1) = (o : Int) ∧ 1 ≤ o ∧ o ≤ 26 := by
    refine ⟨(a % 26 + 1).toNat, ?_, by omega⟩
    rw [w64_id (x := a) (by omega) (by omega), Int.tmod_eq_emod_of_nonneg (by omega), w64_id (by omega) (by omega)]; omega
  have hm := may0 K o ho2
  unfold confidantseat_Instr.f confidantseat_in.f
  rw [ho]
  generalize hw : IntKind.i32.wrap (IntKind.i64.wrap (Int.tmod b 12)) = v
  have w0 : IntKind.i32.wrap 0 = 0 := by decide
  have hA : ∃ t : Int, confidantref5_Arg.f K (o : Int) = some t ∧ ((t = 0) ∨ (t = 1 ∧ (o = 1 ∨ o = 26)) ∨ t > 1) := by
    rcases (by omega : o = 1 ∨ o = 2 ∨ o = 3 ∨ o = 4 ∨ o = 5 ∨ o = 6 ∨ o = 7 ∨ o = 8 ∨ o = 9 ∨ o = 10 ∨ o = 11 ∨ o = 12 ∨ o = 13 ∨ o = 14 ∨ o = 15 ∨ o = 16 ∨ o = 17 ∨ o = 18 ∨ o = 19 ∨ o = 20 ∨ o = 21 ∨ o = 22 ∨ o = 23 ∨ o = 24 ∨ o = 25 ∨ o = 26) with rfl | rfl | rfl | rfl | rfl | rfl | rfl | rfl | rfl | rfl | rfl | rfl | rfl | rfl | rfl | rfl | rfl | rfl | rfl | rfl | rfl | rfl | rfl | rfl | rfl | rfl
    · exact ⟨1, by kernel_rfl, by omega⟩
    · exact ⟨0, by kernel_rfl, by omega⟩
    · exact ⟨0, by kernel_rfl, by omega⟩
    · exact ⟨0, by kernel_rfl, by omega⟩
    · exact ⟨0, by kernel_rfl, by omega⟩
    · exact ⟨0, by kernel_rfl, by omega⟩
    · exact ⟨0, by kernel_rfl, by omega⟩
    · exact ⟨0, by kernel_rfl, by omega⟩
    · exact ⟨0, by kernel_rfl, by omega⟩
    · exact ⟨2, by kernel_rfl, by omega⟩
    · exact ⟨2, by kernel_rfl, by omega⟩
    · exact ⟨3, by kernel_rfl, by omega⟩
    · exact ⟨3, by kernel_rfl, by omega⟩
    · exact ⟨0, by kernel_rfl, by omega⟩
    · exact ⟨4, by kernel_rfl, by omega⟩
    · exact ⟨4, by kernel_rfl, by omega⟩
    · exact ⟨4, by kernel_rfl, by omega⟩
    · exact ⟨0, by kernel_rfl, by omega⟩
    · exact ⟨0, by kernel_rfl, by omega⟩
    · exact ⟨5, by kernel_rfl, by omega⟩
    · exact ⟨0, by kernel_rfl, by omega⟩
    · exact ⟨4, by kernel_rfl, by omega⟩
    · exact ⟨6, by kernel_rfl, by omega⟩
    · exact ⟨6, by kernel_rfl, by omega⟩
    · exact ⟨0, by kernel_rfl, by omega⟩
    · exact ⟨1, by kernel_rfl, by omega⟩
  obtain ⟨t, ht, hc⟩ := hA
  rw [ht]
  simp only [b1, b2, hw, w0]
  rcases hc with rfl | ⟨rfl, h1⟩ | h
  · refine ⟨o, 0, ho2, by rw [if_pos rfl], 0, ht, ?_⟩
    rw [if_neg (by decide)]
    exact hm
  · refine ⟨o, v, ho2, by rw [if_neg (by decide)], 1, ht, ?_⟩
    rw [if_neg (by decide)]
    intro c F L G _ _ _ _
    rcases h1 with rfl | rfl
    · exact may1 K v c F L G
    · exact may26 K v c F L G
  · refine ⟨o, v, ho2, by rw [if_neg (by omega)], t, ht, ?_⟩
    rw [if_pos h]
    exact hm

theorem ve_0 (K : Nat) (l : List S51) (hl : l.length ≤ 20) (ho : ∀ x ∈ l, okS51 x) (j : List S32 → Option Bool) (hd : S32) (hd2 : S32) (hj : ∀ r : List S32, r.length ≤ 20 → (∀ x ∈ r, May K x) → j (hd :: hd2 :: r) = some true) : ∀ (d n i : Nat) (r : List S32), i + d = l.length → d < n → r.length = i → (∀ x ∈ r, May K x) →
    confidantlaw8_VerifyEnds.l0 K l j n (hd :: hd2 :: r) (i : Int) = some true
  | 0, n, i, r, hd', hn, hr, hm => by
    obtain ⟨n, rfl⟩ : ∃ k, n = k + 1 := ⟨n - 1, by omega⟩
    rw [confidantlaw8_VerifyEnds.l0.eq_2, if_neg (by omega)]
    exact hj r (by omega) hm
  | d + 1, n, i, r, hd', hn, hr, hm => by
    obtain ⟨n, rfl⟩ : ∃ k, n = k + 1 := ⟨n - 1, by omega⟩
    have hi : i < l.length := by omega
    have e : l.getD (i : Int).toNat zS51 = l[i] := by simp [List.getD, hi]
    obtain ⟨o0, o1, _⟩ := ho _ (List.getElem_mem hi)
    obtain ⟨o, v, ho2, hs, t, ht, hM⟩ := seat_f K l[i].f0 l[i].f1 (is_u8 o0)
    rw [confidantlaw8_VerifyEnds.l0.eq_2, if_pos (by omega), if_pos (by omega), e, hs]
    simp only [b2, lt, ht, b1, List.length_cons, List.length_singleton, List.length_nil]
    have next : ∀ c : Int, May K ⟨(o : Int), c⟩ → (if (r.length + 1 + 1 + (0 + 1)) * 16 ≤ 140737488355328 then confidantlaw8_VerifyEnds.l0 K l j n (hd :: hd2 :: r ++ [(⟨(o : Int), c⟩ : S32)]) (IntKind.i64.wrap ((i : Int) + 1)) else none) = some true := by
      intro c hc
      rw [if_pos (by omega), w64_id (by omega) (by omega), show ((i : Int) + 1) = ((i + 1 : Nat) : Int) by omega, List.cons_append, List.cons_append]
      refine ve_0 K l hl ho j hd hd2 hj d n (i + 1) (r ++ [⟨(o : Int), c⟩]) (by omega) (by omega) (by simp [hr]) (fun x hx => ?_)
      rcases List.mem_append.1 hx with hx | hx
      · exact hm x hx
      · rw [List.mem_singleton.1 hx]; exact hc
    by_cases h : t > 1
    · rw [if_pos h] at hM ⊢
      exact next 0 hM
    · rw [if_neg h] at hM ⊢
      exact next v hM

theorem ve_1 (K : Nat) (D : List Int) (hD : D.length ≤ 30) (hm : ∀ i, 2 ≤ i → i < D.length → D.getD i 0 = -1) (j : Option Bool) : ∀ (d n i : Nat), i + d = D.length → d < n → 2 ≤ i → confidantlaw8_VerifyEnds.l1 K D j n (i : Int) = j
  | 0, n, i, hd, hn, hi => by
    obtain ⟨n, rfl⟩ : ∃ k, n = k + 1 := ⟨n - 1, by omega⟩
    rw [confidantlaw8_VerifyEnds.l1.eq_2, if_neg (by omega)]
  | d + 1, n, i, hd, hn, hi => by
    obtain ⟨n, rfl⟩ : ∃ k, n = k + 1 := ⟨n - 1, by omega⟩
    rw [confidantlaw8_VerifyEnds.l1.eq_2, if_pos (by omega), if_pos (by omega), Int.toNat_natCast, hm i hi (by omega), if_pos rfl, w64_id (by omega) (by omega), show ((i : Int) + 1) = ((i + 1 : Nat) : Int) by omega]
    exact ve_1 K D hD hm j d n (i + 1) (by omega) (by omega) (by omega)

theorem head_f (m : Nat) : verify_Func.f (m + 20) [⟨1, 1⟩] 1 1 1 = some (0, 24) := by kernel_rfl

/-- the depths: two, and nothing behind -/
def two (len : Nat) : List Int := 0 :: 1 :: List.replicate (len - 2) (-1)

theorem walked (K : Nat) (hK : 5000 ≤ K) (o : Int) (ho : o = 25 ∨ o = 26) (r : List S32) (hr : r.length ≤ 20) :
    verify_walk.f K (⟨1, 1⟩ :: ⟨o, 0⟩ :: r) = some (told (⟨1, 1⟩ :: ⟨o, 0⟩ :: r) (two (r.length + 2)) (((⟨1, 1⟩ :: ⟨o, 0⟩ :: r : List S32).length : Nat) : Int)) := by
  have hl : (⟨1, 1⟩ :: ⟨o, 0⟩ :: r : List S32).length = r.length + 2 := by simp
  refine walk_f K (by omega) _ (by omega) (by omega) _ _ (fun g => ?_)
  obtain ⟨n, rfl⟩ : ∃ n, K = n + 2 + 1 := ⟨K - 3, by omega⟩
  have h0 : (⟨1, 1⟩ :: ⟨o, 0⟩ :: r : List S32).getD 0 zS32 = ⟨1, 1⟩ := rfl
  have h1 : (⟨1, 1⟩ :: ⟨o, 0⟩ :: r : List S32).getD 1 zS32 = ⟨o, 0⟩ := rfl
  generalize hf : (⟨1, 1⟩ :: ⟨o, 0⟩ :: r : List S32) = f at hl h0 h1
  have eD : (List.replicate f.length (-1 : Int)).set 0 0 = 0 :: -1 :: List.replicate r.length (-1) := by
    rw [hl, List.replicate_succ, List.replicate_succ]; rfl
  have eD2 : (0 :: -1 :: List.replicate r.length (-1) : List Int).set 1 (0 - 0 + 1) = two (r.length + 2) := by
    unfold two; rw [Nat.add_sub_cancel]; rfl
  rw [eD]
  have hs := Verify.step (n + 2 + 1) (by omega) f (by omega) g (n + 2) 0 (0 :: -1 :: List.replicate r.length (-1)) 1 0 1 0 (by simp [hl]) (by omega) (by rw [h0]) (pops1 _) (pushes1 _) (next_on _ _ 0 (by omega) (by omega) 1 (by rw [h0]) (.inl rfl)) rfl rfl (by omega)
  refine Eq.trans hs ?_
  rw [Nat.zero_add, eD2]
  have h2 : (two (r.length + 2)).length = f.length := by unfold two; simp [hl]
  rcases ho with rfl | rfl
  · exact stopEnd (n + 2 + 1) (by omega) f (by omega) g n 1 _ 25 1 0 1 h2 (by omega) (by rw [h1]) (pops25 _) (pushes25 _) (next_end _ _ 1 (by omega) (by omega) 25 (by rw [h1]) (.inl rfl)) rfl (by omega)
  · exact stopEnd (n + 2 + 1) (by omega) f (by omega) g n 1 _ 26 0 0 1 h2 (by omega) (by rw [h1]) (pops26 _) (pushes26 _) (next_end _ _ 1 (by omega) (by omega) 26 (by rw [h1]) (.inr rfl)) rfl (by omega)

theorem ends (K : Nat) (hK : 5000 ≤ K) (l : List S51) (hl : l.length ≤ 20) (ho : ∀ x ∈ l, okS51 x) (o : Int) (hoo : o = 25 ∨ o = 26) (j : List S32 → Option Bool) (hj : ∀ r : List S32, r.length ≤ 20 →
    verify_Func.f K (⟨1, 1⟩ :: ⟨o, 0⟩ :: r) 1 1 1 = some (0, 0) → verify_Depths.f K (⟨1, 1⟩ :: ⟨o, 0⟩ :: r) = some (two (r.length + 2)) → j (⟨1, 1⟩ :: ⟨o, 0⟩ :: r) = some true) :
    confidantlaw8_VerifyEnds.l0 K l j K [⟨1, 1⟩, ⟨o, 0⟩] 0 = some true := by
  refine ve_0 K l hl ho j ⟨1, 1⟩ ⟨o, 0⟩ (fun r hr hm => ?_) l.length K 0 [] (by omega) (by omega) rfl (by simp)
  have hlen : (⟨1, 1⟩ :: ⟨o, 0⟩ :: r : List S32).length = r.length + 2 := by simp
  have hw := walked K hK o hoo r hr
  have ht : (told (⟨1, 1⟩ :: ⟨o, 0⟩ :: r) (two (r.length + 2)) (((⟨1, 1⟩ :: ⟨o, 0⟩ :: r : List S32).length : Nat) : Int)).2 = -1 := by unfold told; rw [if_pos rfl]
  have hmay : ∀ F L G : Int, 0 < F → 0 < L → 0 < G → ∀ x ∈ (⟨1, 1⟩ :: ⟨o, 0⟩ :: r : List S32), verify_may.f K x.f0 x.f1 ((⟨1, 1⟩ :: ⟨o, 0⟩ :: r : List S32).length : Int) F L G = some true := by
    intro F L G hF hL hG x hx
    rcases List.mem_cons.1 hx with rfl | hx
    · exact may1 K 1 _ F L G
    · rcases List.mem_cons.1 hx with rfl | hx
      · rcases hoo with rfl | rfl
        · exact may25 K _ F L G
        · exact may26 K 0 _ F L G
      · exact hm x hx _ F L G (by omega) hF hL hG
  refine hj r hr ?_ ?_
  · rw [func_f K (by omega) _ (by omega) (by omega) _ _ _ (hmay 1 1 1 (by omega) (by omega) (by omega)) _ _ hw, ht]
    rfl
  · exact depths_f K (by omega) _ (by omega) (by omega) (hmay _ _ _ (by omega) (by omega) (by omega)) _ _ hw (by rw [ht]; decide)

theorem VerifyEnds : confidantlaw8_VerifyEnds.Pure := by
  intro l a b _ ho _
  obtain ⟨K, hK, hkn⟩ := known_f
  refine ⟨K, ?_⟩
  unfold confidantlaw8_VerifyEnds.f
  simp only [hkn, b1, if_true, lt]
  by_cases h1 : (l.length : Int) > 20
  · rw [if_pos h1]
  rw [if_neg h1]
  have hh : verify_Func.f K [⟨1, 1⟩] 1 1 1 = some (0, 24) := by
    obtain ⟨m, rfl⟩ : ∃ m, K = m + 20 := ⟨K - 20, by omega⟩
    exact head_f m
  have last : ∀ r : List S32, r.length ≤ 20 → confidantlaw8_VerifyEnds.l1 K (two (r.length + 2)) (some true) K 2 = some true := by
    intro r hr
    have h2 : (two (r.length + 2)).length = r.length + 2 := by unfold two; simp
    refine ve_1 K _ (by omega) (fun i hi hi2 => ?_) (some true) r.length K 2 (by omega) (by omega) (by omega)
    obtain ⟨i, rfl⟩ : ∃ q, i = q + 2 := ⟨i - 2, by omega⟩
    unfold two
    rw [h2] at hi2
    have : i < r.length := by omega
    simp [List.getD, List.getElem?_replicate, this]
  have fin : ∀ o : Int, o = 25 ∨ o = 26 → ∀ r : List S32, r.length ≤ 20 → verify_Func.f K (⟨1, 1⟩ :: ⟨o, 0⟩ :: r) 1 1 1 = some (0, 0) → verify_Depths.f K (⟨1, 1⟩ :: ⟨o, 0⟩ :: r) = some (two (r.length + 2)) → True := fun _ _ _ _ _ _ => trivial
  cases a
  · simp only [Bool.false_eq_true, if_false, List.length_nil, List.length_singleton, List.nil_append, List.cons_append, Nat.zero_add]
    rw [if_pos (by omega), if_pos (by omega)]
    refine ends K hK l (by omega) ho 26 (.inr rfl) _ (fun r hr g1 g2 => ?_)
    have h2 : (two (r.length + 2)).length = r.length + 2 := by unfold two; simp
    simp only [g1, g2, hh, b2, b1, h2, List.length_cons, if_true]
    rw [if_neg (by simp), if_pos (by omega)]
    have e0 : (two (r.length + 2)).getD (0 : Int).toNat 0 = 0 := rfl
    have e1 : (two (r.length + 2)).getD (1 : Int).toNat 0 = 1 := rfl
    rw [e0, e1, if_pos rfl, if_pos (by omega)]
    exact last r hr
  · simp only [if_true, List.length_nil, List.length_singleton, List.nil_append, List.cons_append, Nat.zero_add]
    rw [if_pos (by omega), if_pos (by omega)]
    refine ends K hK l (by omega) ho 25 (.inl rfl) _ (fun r hr g1 g2 => ?_)
    have h2 : (two (r.length + 2)).length = r.length + 2 := by unfold two; simp
    simp only [g1, g2, hh, b2, b1, h2, List.length_cons, if_true]
    rw [if_neg (by simp), if_pos (by omega)]
    have e0 : (two (r.length + 2)).getD (0 : Int).toNat 0 = 0 := rfl
    have e1 : (two (r.length + 2)).getD (1 : Int).toNat 0 = 1 := rfl
    rw [e0, e1, if_pos rfl, if_pos (by omega)]
    exact last r hr
end Go.Proofs.Ytlcnkngpankkpaa.Pure
