import Derived.Test.YtiilloijkbabbaaGreatDoorG0
import Derived.Test.YtiilloijkbabbaaGreatDoorG2
import Derived.Test.YtiilloijkbabbaaGreatDoorG3
import Derived.Test.YtiilloijkbabbaaGreatDoorImgR
/- The document's reading of lines; its bytes. Conditions: in the lemmas. -/
set_option linter.unusedVariables false
set_option linter.unusedSimpArgs false
namespace Go.Proofs.YtiilloijkbabbaaGreatDoor.Img
open Go Go.Fw Go.RowKit Go.Proofs.YtiilloijkbabbaaGreatDoor.G Go.Proofs.YtiilloijkbabbaaGreatDoor.Pack Go.Proofs.YtiilloijkbabbaaGreatDoor.Txt Go.Proofs.YtiilloijkbabbaaGreatDoor.Ins Go.Proofs.YtiilloijkbabbaaGreatDoor.Lns

theorem rparse_t (K : Nat) (hK : 2000 ≤ K) (s : ByteArray) (hs : s.size ≤ 1000) :
    (∃ op a, parseT s = some (op, a) ∧ confidantref5_Parse.f K s = some (op, a, true)) ∨ (parseT s = none ∧ confidantref5_Parse.f K s = some (0, 0, false)) := by
  obtain ⟨p, b, c, h1, h2⟩ := parse_same K hK s hs
  rcases parse_t K (by omega) s (by omega) with ⟨op, a, g1, _, _, _, g5⟩ | ⟨g1, _, g3⟩
  · rw [g5] at h1
    rw [← h1] at h2
    exact .inl ⟨_, _, g1, h2⟩
  · rw [g3] at h1
    rw [← h1] at h2
    exact .inr ⟨g1, h2⟩
theorem lns_cases (L : List UInt8) : ∃ a t, lns L = a :: t ∧ (10 : UInt8) ∉ a ∧ ((L = a ∧ t = []) ∨ ∃ r, L = a ++ 10 :: r ∧ t = lns r) := by
  rcases split_nl L with h | ⟨a, r, h, ha⟩
  · exact ⟨L, [], lns_one L h, h, .inl ⟨rfl, rfl⟩⟩
  · exact ⟨a, lns r, by rw [h]; exact lns_cons a r ha, ha, .inr ⟨r, h, rfl⟩⟩
theorem rparse_l (K : Nat) (hK : 5000 ≤ K) (s : ByteArray) (hs : s.size ≤ 1000) : ∀ (d n fr k at_ : Nat) (m : Im) (a : List UInt8) (t : List (List UInt8)), fr + k + d = s.size + 1 → d < n → Wf m → lns (s.data.toList.drop fr) = a :: t → k ≤ a.length → fr ≤ s.size → at_ + d ≤ 100000 →
    confidantref5_ImageParse.l0 K s (fun (m : Im) => some (m, 0, 0)) n m (at_ : Int) (fr : Int) ((fr + k : Nat) : Int) = some (run m at_ ((a :: t).map ofL)) := by
  have hsz := Lns.size_list s
  intro d
  induction d with
  | zero =>
    intro n fr k at_ m a t hd hn hm hl hk hf _
    obtain ⟨a', t', h1, _, h3⟩ := lns_cases (s.data.toList.drop fr)
    rw [hl] at h1
    obtain ⟨rfl, rfl⟩ := List.cons.inj h1
    have : a.length ≤ (s.data.toList.drop fr).length := by
      rcases h3 with ⟨h3, _⟩ | ⟨r, h3, _⟩ <;> rw [h3] <;> simp
    rw [List.length_drop] at this
    omega
  | succ d ih =>
    intro n fr k at_ m a t hd hn hm hl hk hf hat
    obtain ⟨n, rfl⟩ : ∃ q, n = q + 1 := ⟨n - 1, by omega⟩
    obtain ⟨a', t', h1, h2, h3⟩ := lns_cases (s.data.toList.drop fr)
    rw [hl] at h1
    obtain ⟨rfl, rfl⟩ := List.cons.inj h1
    have hlen : a.length ≤ (s.data.toList.drop fr).length := by
      rcases h3 with ⟨h3, _⟩ | ⟨r, h3, _⟩ <;> rw [h3] <;> simp
    rw [List.length_drop] at hlen
    have hw : IntKind.i64.wrap (((fr + k : Nat) : Int) + 1) = ((fr + k + 1 : Nat) : Int) := by rw [w64_id (by omega) (by omega)]; omega
    have hwa : IntKind.i64.wrap ((at_ : Int) + 1) = ((at_ + 1 : Nat) : Int) := by rw [w64_id (by omega) (by omega)]; omega
    have hpre : (s.data.toList.drop fr).take a.length = a := by
      rcases h3 with ⟨h3, _⟩ | ⟨r, h3, _⟩
      · rw [h3]; exact List.take_length ..
      · rw [h3]; exact List.take_left ..
    rw [confidantref5_ImageParse.l0.eq_2, if_pos (by omega), hw, hwa]
    simp only [lt]
    by_cases hka : k < a.length
    · have hget : s.data.toList[fr + k]? = some a[k] := by
        rw [← List.getElem?_drop, ← List.getElem?_eq_getElem (by omega : k < a.length)]
        conv => rhs; rw [← hpre]
        rw [List.getElem?_take, if_pos (by omega)]
      have hne : a[k] ≠ 10 := fun e => h2 (e ▸ List.getElem_mem _)
      have hne2 : a[k].toNat ≠ 10 := fun e => hne (by rw [← UInt8.toNat_inj]; exact e)
      rw [if_pos (by omega), if_pos (by omega), sAt_eq s (fr + k) _ hget, decide_eq_false (by omega), if_pos (show (!false) = true from rfl)]
      exact ih n fr (k + 1) at_ m a t (by omega) (by omega) hm hl (by omega) hf (by omega)
    · have hk2 : k = a.length := by omega
      subst hk2
      have hif : ∀ X Y : Option (Im × Int × Int), (if ((fr + a.length : Nat) : Int) < (s.size : Int) then (if (0 : Int) ≤ ((fr + a.length : Nat) : Int) then (if (!(decide (sAt s ((fr + a.length : Nat) : Int) = 10))) = true then X else Y) else none) else (if false = true then X else Y)) = Y := fun X Y => by
        rcases h3 with ⟨h3, _⟩ | ⟨r, h3, _⟩
        · have : a.length = (s.data.toList.drop fr).length := by rw [h3]
          rw [List.length_drop] at this
          rw [if_neg (by omega), if_neg (by simp)]
        · have hget : s.data.toList[fr + a.length]? = some 10 := by
            rw [← List.getElem?_drop, h3]
            simp
          have hlt := (List.getElem?_eq_some_iff.1 hget).1
          rw [if_pos (by omega), if_pos (by omega), sAt_eq s _ _ hget]
          rfl
      rw [hif]
      have hx : s.extract (fr : Int).toNat (((fr + a.length : Nat) : Int)).toNat = ofL a := by
        rw [eq_ofL (s.extract _ _), Int.toNat_natCast, Int.toNat_natCast, Lib.extract_data, show fr + a.length - fr = a.length by omega, hpre]
      rw [if_pos (show (0 : Int) ≤ (fr : Int) by omega), if_pos (by omega), hx]
      have hxs : (ofL a).size ≤ 1000 := by rw [← Lns.size_list, ofL_data]; omega
      have hnext : ∀ m' : Im, Wf m' → confidantref5_ImageParse.l0 K s (fun (m : Im) => some (m, 0, 0)) n m' ((at_ + 1 : Nat) : Int) ((fr + a.length + 1 : Nat) : Int) ((fr + a.length + 1 : Nat) : Int) = some (run m' (at_ + 1) (t.map ofL)) := fun m' hm' => by
        rcases h3 with ⟨h3, ht⟩ | ⟨r, h3, ht⟩
        · have : a.length = (s.data.toList.drop fr).length := by rw [h3]
          rw [List.length_drop] at this
          obtain ⟨n, rfl⟩ : ∃ q, n = q + 1 := ⟨n - 1, by omega⟩
          rw [confidantref5_ImageParse.l0.eq_2, if_neg (by omega), ht]
          rfl
        · have hr : s.data.toList.drop (fr + a.length + 1) = r := by
            rw [← List.drop_drop, ← List.drop_drop, h3, List.drop_left]
            rfl
          obtain ⟨a2, t2, g1, _, _⟩ := lns_cases r
          have hlt : fr + a.length + 1 ≤ s.size := by
            have : (s.data.toList.drop fr).length = a.length + (1 + r.length) := by rw [h3]; simp; omega
            rw [List.length_drop] at this
            omega
          rw [ht, g1]
          exact ih n (fr + a.length + 1) 0 (at_ + 1) m' a2 t2 (by omega) (by omega) hm' (by rw [hr]; exact g1) (by omega) hlt (by omega)
      rw [List.map_cons]
      show _ = some (if (stp m (ofL a)).2 = 0 then run (stp m (ofL a)).1 (at_ + 1) (t.map ofL) else ([], (at_ : Int), (stp m (ofL a)).2))
      have hsw := stp_wf m (ofL a) hm
      have hwm := hm.1
      have hl1 : IntKind.i64.wrap ((m.length : Int) - 1) = (m.length : Int) - 1 := w64_id (by omega) (by omega)
      have hpt := rparse_t K (by omega) (ofL a) hxs
      generalize ofL a = x at *
      rw [eqb_list, eqb_list]
      unfold stp at hsw ⊢
      obtain ⟨op, v, ok, hpe, hpp⟩ : ∃ op v ok, confidantref5_Parse.f K x = some (op, v, ok) ∧ ((ok = true ∧ parseT x = some (op, v)) ∨ (ok = false ∧ parseT x = none)) := by
        rcases hpt with ⟨op, v, g1, g2⟩ | ⟨g1, g2⟩
        · exact ⟨op, v, true, g2, .inl ⟨rfl, g1⟩⟩
        · exact ⟨0, 0, false, g2, .inr ⟨rfl, g1⟩⟩
      rw [hpe]
      simp only [b3]
      by_cases h0 : x.data.toList = []
      · rw [if_pos (decide_eq_true (show x.data.toList = (#[] : Array UInt8).toList from h0)), if_pos h0, if_pos rfl]
        exact hnext m hm
      · rw [if_neg (by rw [decide_eq_false (show ¬ x.data.toList = (#[] : Array UInt8).toList from h0)]; simp), if_neg h0]
        rw [if_neg h0] at hsw
        by_cases hf' : x.data.toList = funcL
        · have hf2 : x.data.toList = (#[102, 117, 110, 99] : Array UInt8).toList := hf'
          rw [if_pos (decide_eq_true hf2), if_pos hf']
          rw [if_pos hf'] at hsw
          by_cases h64 : m.length = 64
          · rw [decide_eq_true (show (m.length : Int) = 64 by omega), if_pos rfl, if_pos h64, if_neg (by simp)]
          · rw [if_neg h64] at hsw
            rw [decide_eq_false (show ¬ (m.length : Int) = 64 by omega), if_neg (by simp), if_pos (decide_eq_true hf2), if_neg h64, if_pos (by simp; omega), if_pos rfl]
            exact hnext _ hsw
        · have hf2 : ¬ x.data.toList = (#[102, 117, 110, 99] : Array UInt8).toList := hf'
          rw [if_neg (by rw [decide_eq_false hf2]; simp), if_neg hf']
          rw [if_neg hf'] at hsw
          rw [if_neg (by simp), if_neg (by rw [decide_eq_false hf2]; simp)]
          rcases hpp with ⟨rfl, hp⟩ | ⟨rfl, hp⟩
          · rw [hp]
            rw [hp] at hsw
            simp only at hsw ⊢
            rw [if_pos trivial, hl1]
            by_cases hm0 : m.length = 0
            · rw [decide_eq_true (show (m.length : Int) = 0 by omega), if_pos rfl, if_pos hm0, if_neg (by simp)]
            · rw [if_neg hm0] at hsw
              have ht' : ((m.length : Int) - 1).toNat = m.length - 1 := by omega
              rw [decide_eq_false (show ¬ (m.length : Int) = 0 by omega), if_neg (by simp), if_neg hm0, if_pos (by omega), if_pos (by omega), ht']
              have hlen5 := hm.2 _ (getD_mem m (m.length - 1) [] (by omega))
              by_cases h5 : (m.getD (m.length - 1) []).length = 512
              · rw [if_pos (by omega), if_pos h5, if_neg (by simp)]
              · rw [if_neg h5] at hsw
                rw [if_neg (by omega), if_neg h5, if_pos (by simp only [List.length_singleton]; omega), if_pos rfl]
                exact hnext _ hsw
          · rw [hp]
            simp only
            rw [if_neg (by simp), if_pos trivial, if_neg (by simp)]
theorem rparse_img (K : Nat) (hK : 5000 ≤ K) (s : ByteArray) (hs : s.size ≤ 1000) : confidantref5_ImageParse.f K s = some (run [] 0 (splitL s ⟨#[10]⟩)) := by
  obtain ⟨a, t, h1, _, _⟩ := lns_cases s.data.toList
  unfold confidantref5_ImageParse.f
  simp only [lt]
  have := rparse_l K hK s hs (s.size + 1) K 0 0 0 [] a t (by omega) (by omega) ⟨by simp, by intro r hr; cases hr⟩ (by simpa using h1) (by omega) (by omega) (by omega)
  rw [splitL_eq, h1]
  simpa using this
theorem run_wf : ∀ (r : List ByteArray) (m : Im) (i : Nat), Wf m → Wf (run m i r).1
  | [], m, i, h => h
  | x :: r, m, i, h => by
    show Wf (if (stp m x).2 = 0 then run (stp m x).1 (i + 1) r else ([], (i : Int), (stp m x).2)).1
    split
    · exact run_wf r _ _ (stp_wf m x h)
    · exact ⟨by simp, by intro r hr; cases hr⟩
/-! ### bytes -/
theorem rput_l2 (K : Nat) (hK : 100 ≤ K) (m : Im) (i : Nat) (c1 : List Int → List Int → Option (List Int × Int)) (a9 : List Int) (hf : (m.getD i []).length ≤ 512) : ∀ (d n j : Nat) (out : List Int), j + d = (m.getD i []).length → d < n → out.length ≤ 1000000 + 22 * j →
    confidantref5_ImagePut.l2 K m (i : Int) c1 a9 n out (j : Int) = if rtC ((m.getD i []).drop j) then c1 a9 (out ++ codeB ((m.getD i []).drop j)) else some ([], 24) := by
  intro d
  induction d with
  | zero =>
    intro n j out hd hn ho
    obtain ⟨n, rfl⟩ : ∃ k, n = k + 1 := ⟨n - 1, by omega⟩
    rw [confidantref5_ImagePut.l2.eq_2, Int.toNat_natCast, if_neg (by omega), List.drop_eq_nil_of_le (by omega), if_pos (by intro x hx; cases hx)]
    simp [codeB]
  | succ d ih =>
    intro n j out hd hn ho
    obtain ⟨n, rfl⟩ : ∃ k, n = k + 1 := ⟨n - 1, by omega⟩
    have hw : IntKind.i64.wrap ((j : Int) + 1) = ((j + 1 : Nat) : Int) := by rw [w64_id (by omega) (by omega)]; omega
    rw [confidantref5_ImagePut.l2.eq_2, Int.toNat_natCast, if_pos (by omega), if_pos (by omega), hw, Int.toNat_natCast, codeB_drop _ _ (by omega)]
    have hd2 := getD_drop (m.getD i []) j zS59 (by omega)
    rw [rright_f, rput_i K (by omega)]
    have hsm := encs_small ((m.getD i []).getD j zS59).f0 ((m.getD i []).getD j zS59).f1
    simp only [b1]
    by_cases h : Rt ((m.getD i []).getD j zS59).f0 ((m.getD i []).getD j zS59).f1
    · rw [decide_eq_true h, if_pos rfl, if_pos h, if_pos (by omega)]
      simp only [lt]
      rw [ih n (j + 1) _ (by omega) (by omega) (by rw [List.length_append]; omega), List.append_assoc]
      by_cases h2 : rtC ((m.getD i []).drop (j + 1))
      · rw [if_pos h2, if_pos (by rw [hd2]; exact (rtC_cons _ _).2 ⟨h, h2⟩)]
      · rw [if_neg h2, if_neg (by rw [hd2]; exact fun q => h2 ((rtC_cons _ _).1 q).2)]
    · rw [decide_eq_false h, if_neg (by simp), if_neg (by rw [hd2]; exact fun q => h ((rtC_cons _ _).1 q).1)]
theorem rput_l1 (K : Nat) (hK : 1000 ≤ K) (m : Im) (hm : Wf m) : ∀ (d n i : Nat) (out : List Int), i + d = m.length → d < n → out.length ≤ 11 + 11275 * i →
    confidantref5_ImagePut.l1 K m n out (i : Int) = if rtI (m.drop i) then some (out ++ bodyB (m.drop i), 0) else some ([], 24) := by
  intro d
  induction d with
  | zero =>
    intro n i out hd hn ho
    obtain ⟨n, rfl⟩ : ∃ k, n = k + 1 := ⟨n - 1, by omega⟩
    rw [confidantref5_ImagePut.l1.eq_2, if_neg (by omega), List.drop_eq_nil_of_le (by omega), if_pos (by intro x hx; cases hx)]
    simp [bodyB]
  | succ d ih =>
    intro n i out hd hn ho
    obtain ⟨n, rfl⟩ : ∃ k, n = k + 1 := ⟨n - 1, by omega⟩
    have hw : IntKind.i64.wrap ((i : Int) + 1) = ((i + 1 : Nat) : Int) := by rw [w64_id (by have := hm.1; omega) (by have := hm.1; omega)]; omega
    have hf := hm.2 _ (getD_mem m i [] (by omega))
    have hm1 := hm.1
    have hp := rput_f K [(m.getD i []).length] (by intro x hx; simp only [List.mem_cons, List.not_mem_nil, or_false] at hx; omega) (by simp) (by omega) (by simp; omega)
    have he := enc_len (m.getD i []).length
    have hc := codeB_len (m.getD i [])
    have hd2 := getD_drop m i [] (by omega)
    rw [confidantref5_ImagePut.l1.eq_2, if_pos (by omega), hw, Int.toNat_natCast, bodyB_drop _ _ (by omega)]
    simp only [lt]
    rw [if_pos (show (0 : Int) ≤ (i : Int) by omega), wu64_id (x := ((m.getD i []).length : Int)) (by omega) (by omega), show ([((m.getD i []).length : Int)] : List Int) = ints [(m.getD i []).length] from rfl, hp]
    simp only [b1, encs, List.append_nil]
    rw [if_pos (by omega), show (0 : Int) = ((0 : Nat) : Int) from rfl, rput_l2 K (by omega) m i _ _ hf (m.getD i []).length K 0 _ (by omega) (by omega) (by rw [List.length_append]; omega), List.drop_zero]
    by_cases h1 : rtC (m.getD i [])
    · rw [if_pos h1, ih n (i + 1) _ (by omega) (by omega) (by simp only [List.length_append]; omega)]
      by_cases h2 : rtI (m.drop (i + 1))
      · rw [if_pos h2, if_pos (by rw [hd2]; exact (rtI_cons _ _).2 ⟨h1, h2⟩)]
        simp only [List.append_assoc]
        rfl
      · rw [if_neg h2, if_neg (by rw [hd2]; exact fun q => h2 ((rtI_cons _ _).1 q).2)]
    · rw [if_neg h1, if_neg (by rw [hd2]; exact fun q => h1 ((rtI_cons _ _).1 q).1)]
theorem rlong_l (K : Nat) (m : Im) (hl : m.length ≤ 1000000) (c1 : Option (List Int × Int)) : ∀ (d n i : Nat), i + d = m.length → d < n → confidantref5_ImagePut.l0 K m c1 n (i : Int) = if ∃ r ∈ m.drop i, 512 < r.length then some ([], 22) else c1 := by
  intro d
  induction d with
  | zero =>
    intro n i hd hn
    obtain ⟨n, rfl⟩ : ∃ k, n = k + 1 := ⟨n - 1, by omega⟩
    rw [confidantref5_ImagePut.l0.eq_2, if_neg (by omega), List.drop_eq_nil_of_le (by omega), if_neg (by simp)]
  | succ d ih =>
    intro n i hd hn
    obtain ⟨n, rfl⟩ : ∃ k, n = k + 1 := ⟨n - 1, by omega⟩
    have hw : IntKind.i64.wrap ((i : Int) + 1) = ((i + 1 : Nat) : Int) := by rw [w64_id (by omega) (by omega)]; omega
    have hd2 := getD_drop m i [] (by omega)
    rw [confidantref5_ImagePut.l0.eq_2, if_pos (by omega), if_pos (by omega), hw, Int.toNat_natCast, ih n (i + 1) (by omega) (by omega), hd2]
    by_cases h : 512 < (m.getD i []).length
    · rw [if_pos (by omega), if_pos ⟨_, List.mem_cons_self .., h⟩]
    · rw [if_neg (by omega)]
      by_cases h2 : ∃ r ∈ m.drop (i + 1), 512 < r.length
      · rw [if_pos h2, if_pos (by obtain ⟨r, h3, h4⟩ := h2; exact ⟨r, List.mem_cons_of_mem _ h3, h4⟩)]
      · rw [if_neg h2, if_neg (fun ⟨r, h3, h4⟩ => (List.mem_cons.1 h3).elim (fun e => h (e ▸ h4)) (fun h3 => h2 ⟨r, h3, h4⟩))]
theorem rput_img (K : Nat) (hK : 1000 ≤ K) (m : Im) (hl : m.length < K) : confidantref5_ImagePut.f K m = some (if ¬ Wf m then ([], 22) else if rtI m then (enc m.length ++ bodyB m, 0) else ([], 24)) := by
  unfold confidantref5_ImagePut.f
  by_cases h64 : (m.length : Int) > 64
  · rw [if_pos h64, if_pos (fun q => by have := q.1; omega)]
  · rw [if_neg h64]
    simp only [lt]
    have hl0 := rlong_l K m (by omega) (b1 (confidantref1_Put.f K [IntKind.u64.wrap (m.length : Int)]) fun (d3 : List Int) => (confidantref5_ImagePut.l1 K m K d3 0)) m.length K 0 (by omega) hl
    rw [show ((0 : Nat) : Int) = 0 from rfl, List.drop_zero] at hl0
    rw [hl0]
    by_cases h : Wf m
    · have h1 := h.1
      have hp := rput_f K [m.length] (by intro x hx; simp only [List.mem_cons, List.not_mem_nil, or_false] at hx; omega) (by simp) (by omega) (by simp; omega)
      have he := enc_len m.length
      rw [if_neg (fun ⟨r, h3, h4⟩ => by have := h.2 r h3; omega), if_neg (by simp [h]), wu64_id (x := (m.length : Int)) (by omega) (by omega), show ([(m.length : Int)] : List Int) = ints [m.length] from rfl, hp]
      simp only [b1, encs, List.append_nil]
      rw [show (0 : Int) = ((0 : Nat) : Int) from rfl, rput_l1 K hK m h m.length K 0 _ (by omega) hl (by omega), List.drop_zero]
      split <;> rfl
    · rw [if_pos h, if_pos (Decidable.byContradiction fun n => h ⟨by omega, fun r hr => Decidable.byContradiction fun g => n ⟨r, hr, by omega⟩⟩)]
end Go.Proofs.YtiilloijkbabbaaGreatDoor.Img
