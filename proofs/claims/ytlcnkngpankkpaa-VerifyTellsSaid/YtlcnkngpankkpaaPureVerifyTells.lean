import Derived.Test.YtlcnkngpankkpaaVtFunc
import Derived.Test.YtlcnkngpankkpaaG3
/- The program tells of code what the document does. No condition. -/
set_option linter.unusedVariables false
set_option linter.unusedSimpArgs false
namespace Go.Proofs.Ytlcnkngpankkpaa.Vt
open Go Go.Fw Go.RowKit Go.Proofs.Ytlcnkngpankkpaa.G

theorem known_f : confidantlaw8_known.f 5000 = some true := by kernel_rfl
theorem small_l (K : Nat) (m : List (List S32)) (hm : m.length ≤ 8) : ∀ (d n i : Nat), i + d = m.length → d < n → ∃ b, confidanthelp_SmallImage.l0 K m n (i : Int) = some b := by
  intro d
  induction d with
  | zero =>
    intro n i hd hn
    obtain ⟨n, rfl⟩ : ∃ k, n = k + 1 := ⟨n - 1, by omega⟩
    exact ⟨true, by rw [confidanthelp_SmallImage.l0.eq_2, if_neg (by omega)]⟩
  | succ d ih =>
    intro n i hd hn
    obtain ⟨n, rfl⟩ : ∃ k, n = k + 1 := ⟨n - 1, by omega⟩
    have hw : IntKind.i64.wrap ((i : Int) + 1) = ((i + 1 : Nat) : Int) := by rw [w64_id (by omega) (by omega)]; omega
    rw [confidanthelp_SmallImage.l0.eq_2, if_pos (by omega), if_pos (by omega), hw]
    by_cases h : ((m.getD (i : Int).toNat []).length : Int) > 40
    · rw [if_pos h]; exact ⟨false, rfl⟩
    · rw [if_neg h]; exact ih n (i + 1) (by omega) (by omega)
theorem small_some (K : Nat) (hK : 1000 ≤ K) (m : List (List S32)) : ∃ b, confidanthelp_SmallImage.f K m = some b := by
  unfold confidanthelp_SmallImage.f
  by_cases h : (m.length : Int) > 8
  · rw [if_pos h]; exact ⟨false, rfl⟩
  · rw [if_neg h]; exact small_l K m (by omega) m.length K 0 (by omega) (by omega)

/-! ### code of numbers -/
theorem rng0 (a : Int) : rng ⟨a, 0⟩ := by unfold rng; simp
theorem instr_some (K : Nat) (a b : Int) (ha : 0 ≤ a ∧ a ≤ 255) : ∃ x y, confidantseat_Instr.f K a b = some (x, y) ∧ rng ⟨x, y⟩ := by
  unfold confidantseat_Instr.f
  have hw : 1 ≤ IntKind.i64.wrap (Int.tmod (IntKind.i64.wrap a) 26 + 1) ∧ IntKind.i64.wrap (Int.tmod (IntKind.i64.wrap a) 26 + 1) ≤ 26 := by
    rw [w64_id (x := a) (by omega) (by omega), Int.tmod_eq_emod_of_nonneg ha.1, w64_id (by omega) (by omega)]
    omega
  obtain ⟨c, q, k, _, _, _, _, hk, _⟩ := kn K _ hw
  rw [hk]
  simp only [b1, in_eq, b2]
  by_cases h : k = 0
  · rw [if_pos h]; exact ⟨_, _, rfl, rngw _ _⟩
  · rw [if_neg h]; exact ⟨_, _, rfl, rngw _ _⟩
theorem code_l (K : Nat) (l : List S51) (hl : l.length ≤ 30) (hw : ∀ x ∈ l, okS51 x) (a7 : Int) : ∀ (d n i : Nat) (c : List S32), i + d = l.length → d < n → c.length = i → Rn c → ∃ r, confidantlaw8_code.l0 K l a7 n c (i : Int) = some r ∧ r.length = l.length ∧ Rn r := by
  intro d
  induction d with
  | zero =>
    intro n i c hd hn hc hr
    obtain ⟨n, rfl⟩ : ∃ k, n = k + 1 := ⟨n - 1, by omega⟩
    exact ⟨c, by rw [confidantlaw8_code.l0.eq_2, if_neg (by omega)], by omega, hr⟩
  | succ d ih =>
    intro n i c hd hn hc hr
    obtain ⟨n, rfl⟩ : ∃ k, n = k + 1 := ⟨n - 1, by omega⟩
    have hwi : IntKind.i64.wrap ((i : Int) + 1) = ((i + 1 : Nat) : Int) := by rw [w64_id (by omega) (by omega)]; omega
    have hi : i < l.length := by omega
    have hx : l.getD i zS51 ∈ l := by
      rw [List.getD_eq_getElem?_getD, List.getElem?_eq_getElem hi]
      exact List.getElem_mem hi
    have u := is_u8 (hw _ hx).1
    rw [confidantlaw8_code.l0.eq_2, if_pos (by omega), if_pos (by omega), Int.toNat_natCast, hwi]
    generalize (l.getD i zS51).f0 = p at u ⊢
    generalize (l.getD i zS51).f1 = v
    obtain ⟨x, y, hxy, hxr⟩ := instr_some K p v u
    rw [hxy]
    simp only [b2, lt, List.length_singleton]
    have fin : ∀ b3 b7 : Int, rng ⟨b7, b3⟩ → ∃ r, (if (c.length + 1) * 16 ≤ 140737488355328 then confidantlaw8_code.l0 K l a7 n (c ++ [(⟨b7, b3⟩ : S32)]) ((i + 1 : Nat) : Int) else none) = some r ∧ r.length = l.length ∧ Rn r := by
      intro b3 b7 hb
      rw [if_pos (by omega)]
      exact ih n (i + 1) _ (by omega) (by omega) (by rw [List.length_append, List.length_singleton]; omega) (rng_app hr (fun z hz => List.mem_singleton.1 hz ▸ hb))
    have h8 : 0 ≤ Int.tmod p 8 ∧ Int.tmod p 8 < 8 := by rw [Int.tmod_eq_emod_of_nonneg u.1]; omega
    by_cases q1 : Int.tmod a7 3 = 0
    · rw [if_pos q1]
      by_cases q2 : Int.tmod v 4 > 0
      · rw [if_pos (decide_eq_true q2), if_pos h8.1, if_pos (by simpa using h8.2)]
        generalize ([1, 3, 12, 1, 11, 10, 2, 4] : List Int).getD (Int.tmod p 8).toNat 0 = o
        have hl0 : ¬ (l.length : Int) = 0 := by omega
        simp only [if_true, if_neg hl0, Bool.false_eq_true, if_false]
        by_cases o1 : o = 1
        · subst o1; exact fin _ _ (rngw _ _)
        rw [if_neg o1]
        by_cases o2 : o = 12
        · subst o2; exact fin _ _ (rngw _ _)
        rw [if_neg o2]
        by_cases o3 : o = 10
        · subst o3; exact fin _ _ (rngw _ _)
        rw [if_neg o3]
        by_cases o4 : o = 11
        · subst o4; exact fin _ _ (rngw _ _)
        rw [if_neg (by simpa using o4), if_neg o3, if_neg (by simpa using o4)]
        exact fin _ _ (rng0 _)
      · rw [if_neg (by simpa using q2)]
        exact fin _ _ hxr
    · rw [if_neg q1, if_neg (by simp)]
      exact fin _ _ hxr
theorem law_code (K : Nat) (hK : 1000 ≤ K) (l : List S51) (hl : l.length ≤ 30) (hw : ∀ x ∈ l, okS51 x) (a7 : Int) : ∃ r, confidantlaw8_code.f K l a7 = some r ∧ r.length ≤ 30 ∧ Rn r := by
  obtain ⟨r, h1, h2, h3⟩ := code_l K l hl hw a7 l.length K 0 [] (by omega) (by omega) rfl rng_no
  exact ⟨r, h1, by omega, h3⟩

/-! ### the law -/
theorem tells0 (K : Nat) (hK : 1000 ≤ K) (l : List (List S32)) (hl : l.length ≤ 100) (hr : ∀ c ∈ l, Rn c) (A B C : Int) (g : List (List S32) → List S32 → List S32 → Option Bool) (p q : List S32) : ∀ (d n i : Nat), i + d = l.length → d < n →
    confidantlaw8_VerifyTells.l0 K l A B C g p q n (i : Int) = g l p q := by
  intro d
  induction d with
  | zero =>
    intro n i hd hn
    obtain ⟨n, rfl⟩ : ∃ k, n = k + 1 := ⟨n - 1, by omega⟩
    rw [confidantlaw8_VerifyTells.l0.eq_2, if_neg (by omega)]
  | succ d ih =>
    intro n i hd hn
    obtain ⟨n, rfl⟩ : ∃ k, n = k + 1 := ⟨n - 1, by omega⟩
    have hwi : IntKind.i64.wrap ((i : Int) + 1) = ((i + 1 : Nat) : Int) := by rw [w64_id (by omega) (by omega)]; omega
    have hi : i < l.length := by omega
    have hc : Rn (l.getD i []) := by
      rw [List.getD_eq_getElem?_getD, List.getElem?_eq_getElem hi]
      exact hr _ (List.getElem_mem hi)
    obtain ⟨a, e, h1, h2, _⟩ := func_same K hK (l.getD i []) hc (IntKind.i64.wrap (Int.tmod A 8)) (IntKind.i64.wrap (Int.tmod B 8)) (IntKind.i64.wrap (Int.tmod C 6))
    obtain ⟨D, hD, h3, h4⟩ := depths_same K hK (l.getD i []) hc
    rw [confidantlaw8_VerifyTells.l0.eq_2, if_pos (by omega), if_pos (by omega), Int.toNat_natCast, hwi, h1, h2, h3, h4]
    simp only [b2, b1, lt]
    rw [if_pos trivial, if_pos trivial, ints_same K hK D hD]
    exact ih n (i + 1) (by omega) (by omega)
theorem tells1 (K : Nat) (hK : 1000 ≤ K) (l : List (List (List S32))) (hl : l.length ≤ 100) (hr : ∀ m ∈ l, ∀ c ∈ m, Rn c) (B C : Int) (g : List (List (List S32)) → List (List S32) → Option Bool) (p : List (List S32)) : ∀ (d n i : Nat), i + d = l.length → d < n →
    confidantlaw8_VerifyTells.l1 K l B C g p n (i : Int) = g l p := by
  intro d
  induction d with
  | zero =>
    intro n i hd hn
    obtain ⟨n, rfl⟩ : ∃ k, n = k + 1 := ⟨n - 1, by omega⟩
    rw [confidantlaw8_VerifyTells.l1.eq_2, if_neg (by omega)]
  | succ d ih =>
    intro n i hd hn
    obtain ⟨n, rfl⟩ : ∃ k, n = k + 1 := ⟨n - 1, by omega⟩
    have hwi : IntKind.i64.wrap ((i : Int) + 1) = ((i + 1 : Nat) : Int) := by rw [w64_id (by omega) (by omega)]; omega
    have hi : i < l.length := by omega
    obtain ⟨a, b, e, h1, h2⟩ := image_same K hK (l.getD i []) (by
      rw [List.getD_eq_getElem?_getD, List.getElem?_eq_getElem hi]
      exact hr _ (List.getElem_mem hi)) (IntKind.i64.wrap (Int.tmod B 8)) (IntKind.i64.wrap (Int.tmod C 6))
    rw [confidantlaw8_VerifyTells.l1.eq_2, if_pos (by omega), if_pos (by omega), Int.toNat_natCast, hwi, h1, h2]
    simp only [b3, lt]
    rw [if_pos trivial, if_pos trivial]
    exact ih n (i + 1) (by omega) (by omega)
theorem tells (K : Nat) (hK : 1000 ≤ K) (hk : confidantlaw8_known.f K = some true) (raw : List (List S32)) (l : List S51) (n A B C : Int) (bytes : List Int) (hraw2 : ∀ x ∈ raw, Rn x) (hl2 : ∀ x ∈ l, okS51 x) (hA : (Lit.int .u8 A).wf = true) (hb2 : ∀ x ∈ bytes, (Lit.int .u8 x).wf = true) : confidantlaw8_VerifyTells.f K raw l n A B C bytes = some true := by
  unfold confidantlaw8_VerifyTells.f
  rw [hk]
  simp only [b1]
  rw [if_pos trivial]
  obtain ⟨s, hs⟩ := small_some K hK raw
  rw [hs]
  have uA := is_u8 hA
  have hF : IntKind.i64.wrap (IntKind.i64.wrap (Int.tmod A 3) + 1) = (((A % 3).toNat + 1 : Nat) : Int) := by
    have h3 : 0 ≤ Int.tmod A 3 ∧ Int.tmod A 3 < 3 := by rw [Int.tmod_eq_emod_of_nonneg uA.1]; omega
    rw [w64_id (x := Int.tmod A 3) (by omega) (by omega), w64_id (by omega) (by omega), Int.tmod_eq_emod_of_nonneg uA.1]
    omega
  simp only [lt]
  have big : ∀ x : Bool, (x = false → l.length ≤ 30 ∧ bytes.length ≤ 60) → (if x = true then some true else b1 (confidantseat_Code.f K bytes 4 (IntKind.i64.wrap (IntKind.i64.wrap (Int.tmod A 3) + 1)) (IntKind.i64.wrap (Int.tmod C 3)) false) fun (a1 : List (List S32)) => (b1 (confidantlaw8_code.f K l n) fun (a5 : List S32) =>
      (if (([] : List S32).length + a5.length) * 16 ≤ 140737488355328 then (if ((([] : List S32) ++ a5).length + ([(⟨26, 0⟩ : S32)] : List S32).length) * 16 ≤ 140737488355328 then (if (([(⟨1, 0⟩ : S32), (⟨1, 0⟩ : S32), (⟨1, 0⟩ : S32)] : List S32).length + a5.length) * 16 ≤ 140737488355328 then (if (([(⟨1, 0⟩ : S32), (⟨1, 0⟩ : S32), (⟨1, 0⟩ : S32)] ++ a5 : List S32).length + ([(⟨25, 0⟩ : S32)] : List S32).length) * 16 ≤ 140737488355328 then
        confidantlaw8_VerifyTells.l0 K [a5, ([] : List S32) ++ a5 ++ [(⟨26, 0⟩ : S32)], [(⟨1, 0⟩ : S32), (⟨1, 0⟩ : S32), (⟨1, 0⟩ : S32)] ++ a5 ++ [(⟨25, 0⟩ : S32)]] A B C (fun d3 d4 d5 => if (([] : List (List S32)).length + a1.length) * 24 ≤ 140737488355328 then (if ((([] : List (List S32)) ++ a1).length + ([a5] : List (List S32)).length) * 24 ≤ 140737488355328 then
          confidantlaw8_VerifyTells.l1 K [raw, a1, ([] : List (List S32)) ++ a1 ++ [a5]] B C (fun g6 g7 => b3 (verify_Image.f K a1 4 (IntKind.i64.wrap (Int.tmod C 3))) fun (t0 : Int) (t1 : Int) (g1 : Int) => (b3 (confidantref5_Image.f K a1 4 (IntKind.i64.wrap (Int.tmod C 3))) fun (t2 : Int) (t3 : Int) (i8 : Int) => (some (decide (g1 = i8))))) [a5] K 0 else none) else none) [(⟨25, 0⟩ : S32)] [(⟨26, 0⟩ : S32)] K 0 else none) else none) else none) else none))) = some true := by
    intro x hx
    cases x with
    | true => rw [if_pos rfl]
    | false =>
      obtain ⟨g1, g2⟩ := hx rfl
      rw [if_neg (by simp), hF]
      obtain ⟨m, hm, hml, hmr⟩ := code_some K ((A % 3).toNat + 1) bytes 4 (IntKind.i64.wrap (Int.tmod C 3)) false (by omega) (by omega) hb2 (by omega) (by omega)
      obtain ⟨c, hc, hcl, hcr⟩ := law_code K hK l g1 hl2 n
      rw [hm, hc]
      simp only [b1]
      have n1 : ([] : List S32).length = 0 := rfl
      have n2 : ([] : List (List S32)).length = 0 := rfl
      have z (a : Int) : Rn [(⟨a, 0⟩ : S32)] := fun x hx => List.mem_singleton.1 hx ▸ rng0 a
      have z3 : Rn [(⟨1, 0⟩ : S32), (⟨1, 0⟩ : S32), (⟨1, 0⟩ : S32)] := by
        intro x hx
        simp only [List.mem_cons, List.not_mem_nil, or_false, or_self] at hx
        rw [hx]
        exact rng0 1
      rw [if_pos (by rw [n1]; omega), if_pos (by simp only [List.length_append, List.length_singleton, n1]; omega), if_pos (by simp only [List.length_cons, n1]; omega), if_pos (by simp only [List.length_append, List.length_cons, n1]; omega)]
      refine Eq.trans (tells0 K hK _ (by simp) ?_ A B C _ _ _ 3 K 0 (by simp) (by omega)) ?_
      · intro x hx
        rcases List.mem_cons.1 hx with rfl | hx
        · exact hcr
        rcases List.mem_cons.1 hx with rfl | hx
        · exact rng_app (rng_app rng_no hcr) (z 26)
        rw [List.mem_singleton.1 hx]
        exact rng_app (rng_app z3 hcr) (z 25)
      · rw [if_pos (by rw [n2]; omega), if_pos (by simp only [List.length_append, List.length_singleton, n2]; omega)]
        refine Eq.trans (tells1 K hK _ (by simp) ?_ B C _ _ 3 K 0 (by simp) (by omega)) ?_
        · intro x hx
          rcases List.mem_cons.1 hx with rfl | hx
          · exact hraw2
          rcases List.mem_cons.1 hx with rfl | hx
          · exact hmr
          rw [List.mem_singleton.1 hx]
          intro y hy
          rcases List.mem_append.1 hy with hy | hy
          · exact hmr y ((List.nil_append m) ▸ hy)
          · rw [List.mem_singleton.1 hy]; exact hcr
        · obtain ⟨a, b, e, h1, h2⟩ := image_same K hK m hmr 4 (IntKind.i64.wrap (Int.tmod C 3))
          rw [h1, h2]
          simp only [b3, decide_true]
  cases s with
  | false => rw [if_neg (by simp)]; exact big true (fun h => nomatch h)
  | true =>
    rw [if_pos rfl]
    by_cases q : (l.length : Int) > 30
    · rw [if_pos q]; exact big true (fun h => nomatch h)
    · rw [if_neg q]
      exact big _ (fun h => by have := of_decide_eq_false h; omega)
end Go.Proofs.Ytlcnkngpankkpaa.Vt
namespace Go.Proofs.Ytlcnkngpankkpaa.Pure
open Go Go.Fw Go.RowKit Go.Proofs.Ytlcnkngpankkpaa.G Go.Proofs.Ytlcnkngpankkpaa.Vt
theorem VerifyTells : confidantlaw8_VerifyTells.Pure := by
  intro raw l n A B C bytes hraw hraw2 hl hl2 hn hA hB hC hb hb2
  exact ⟨5000, tells 5000 (by omega) known_f raw l n A B C bytes (fun x hx y hy => is_i32 ((hraw2 x hx).2 y hy).2.1) hl2 hA hb2⟩
end Go.Proofs.Ytlcnkngpankkpaa.Pure
