import Derived.Test.YtipaaapbapijhaaG0
import Derived.Test.YtipaaapbapijhaaG2
import Derived.Test.YtipaaapbapijhaaG3
import Derived.Test.YtipaaapbapijhaaG4
import Derived.Test.YtipaaapbapijhaaG5
import Derived.Test.YtipaaapbapijhaaG6
import Derived.Test.YtipaaapbapijhaaPark
/- Any story of who waits, and what has come, comes to just who is woken, and who starves. No condition. -/
set_option linter.unusedVariables false
set_option linter.unusedSimpArgs false
namespace Go.Proofs.Ytipaaapbapijhaa.Pure
open Go Go.Fw Go.RowKit Go.Proofs.Ytipaaapbapijhaa.G Go.Proofs.Ytipaaapbapijhaa.Future Go.Proofs.Ytipaaapbapijhaa.Park

/-! ### the reference -/
theorem rlabel_f (K : Nat) (id : Int) (h : -2147483648 ≤ id ∧ id < 2147483648) : confidantref9_Label.f K id = some (if id < 0 then -1 else id / 65536) := by
  unfold confidantref9_Label.f
  by_cases h0 : id < 0
  · rw [if_pos h0, if_pos h0]
  · rw [if_neg h0, if_neg h0, Int.tdiv_eq_ediv_of_nonneg (by omega), w32_id (by omega) (by omega), w64_id (by omega) (by omega)]
theorem rnumber_f (K : Nat) (id : Int) (h : -2147483648 ≤ id ∧ id < 2147483648) : confidantref9_Number.f K id = some (if id < 0 then -1 else id % 65536) := by
  unfold confidantref9_Number.f
  by_cases h0 : id < 0
  · rw [if_pos h0, if_pos h0]
  · rw [if_neg h0, if_neg h0, Int.tmod_eq_emod_of_nonneg (by omega), w64_id (by omega) (by omega)]
theorem rof_f (K : Nat) (a n : Int) (ha : 0 ≤ a ∧ a < 16) (hn : 0 ≤ n ∧ n < 65536) : confidantref9_Of.f K a n = some (a * 65536 + n, true) := by
  unfold confidantref9_Of.f
  simp only [lt]
  rw [if_neg (by omega), if_neg (by omega), if_neg (by omega), if_neg (by simp; omega), w64_id (x := a * 65536) (by omega) (by omega), w64_id (by omega) (by omega), w32_id (by omega) (by omega)]
theorem rmake_f (K : Nat) (L : List (List S96)) (q : List Int) (b lab : Int) (h : Qs L q) : confidantref12_Futures_Make.f K q L b lab = some (made L q b lab) := by
  unfold confidantref12_Futures_Make.f made
  have hr := h.row b
  have hle := h.le
  have hlen := h.len
  have hrow : L.getD b.toNat [] = row L b := rfl
  simp only [lt, hrow]
  by_cases h1 : b < 0
  · rw [if_pos h1, if_pos trivial, if_neg (fun h => by have := h.1; omega)]
  rw [if_neg h1]
  by_cases h2 : b ≥ (L.length : Int)
  · rw [if_pos h2, if_pos trivial, if_neg (fun h => by have := h.2.1; omega)]
  rw [if_neg h2, if_pos (by omega), if_pos (by omega), if_pos (by omega)]
  have hq := h.quota b (by omega) (by omega)
  by_cases h3 : ((row L b).length : Int) ≥ q.getD b.toNat 0
  · rw [if_pos (decide_eq_true h3), if_neg (fun h => by have := h.2.2; omega)]
  · rw [if_neg (by simpa using h3), if_pos (by omega), if_pos (by omega), rof_f K _ _ (by omega) (by omega), if_pos ⟨by omega, by omega, by omega⟩]
    simp only [b2, List.length_cons, List.length_nil]
    rw [if_pos (by omega)]
theorem rget_f (K : Nat) (L : List (List S96)) (q : List Int) (id : Int) (hid : -2147483648 ≤ id ∧ id < 2147483648) (hL : L.length ≤ 16) : confidantref12_Futures_Get.f K q L id = some (if There L id then (at_ L id, true) else (zS96, false)) := by
  unfold confidantref12_Futures_Get.f confidantref9_Valid.f
  rw [rlabel_f K id hid, rnumber_f K id hid]
  have hm : mn (L.length : Int) 16 = (L.length : Int) := by unfold mn; split <;> omega
  have hrow : L.getD (id / 65536).toNat [] = row L (id / 65536) := rfl
  simp only [lt]
  by_cases h0 : id < 0
  · rw [if_neg (show ¬ id ≥ 0 by omega), if_neg (fun h : There L id => by have := h.1; omega)]; rfl
  · rw [if_pos (show id ≥ 0 by omega), if_neg h0, if_neg h0, hm]
    simp only [b1, hrow]
    by_cases h1 : id / 65536 < (L.length : Int)
    · rw [if_pos (decide_eq_true h1), if_pos (by omega), if_pos h1]
      by_cases h2 : id % 65536 ≥ ((row L (id / 65536)).length : Int)
      · rw [if_pos (decide_eq_true h2), if_neg (fun h : There L id => by have := h.2.2; omega)]; rfl
      · rw [if_neg (by simpa using h2), if_pos (by omega), if_pos (by omega), if_pos (by omega), if_pos (by omega), if_pos (show There L id from ⟨by omega, h1, by omega⟩)]; rfl
    · rw [if_neg (by simpa using h1), if_pos trivial, if_neg (fun h : There L id => h1 h.2.1)]; rfl
theorem rend_f (K : Nat) (L : List (List S96)) (q : List Int) (id s v c : Int) (hid : -2147483648 ≤ id ∧ id < 2147483648) (hL : L.length ≤ 16) : confidantref12_Futures_end.f K q L id s v c = some (ended L id s v c) := by
  unfold confidantref12_Futures_end.f ended
  rw [rget_f K L q id hid hL, rlabel_f K id hid, rnumber_f K id hid]
  by_cases ht : There L id
  · have hrow : L.getD (id / 65536).toNat [] = row L (id / 65536) := rfl
    have h1 := ht.1
    have h2 := ht.2.1
    have h3 := ht.2.2
    rw [if_pos ht]
    simp only [b2, b1, lt, if_true, hrow]
    by_cases h4 : (at_ L id).f1 = 0
    · rw [if_neg (by simp [h4]), if_neg (show ¬ id < 0 by omega), if_neg (show ¬ id < 0 by omega), if_pos (by omega), if_pos (by omega), if_pos (by omega), if_pos (show id % 65536 < ((L.getD (id / 65536).toNat []).length : Int) from h3), if_pos ⟨ht, h4⟩]
      rfl
    · rw [if_pos (by simp [h4]), if_neg (fun h => h4 h.2)]
  · rw [if_neg ht, if_neg (show ¬ (There L id ∧ (at_ L id).f1 = 0) from fun h => ht h.1)]
    simp only [b2, lt, if_true, Bool.false_eq_true, if_false]
theorem rkeep_f (K : Nat) (L : List (List S96)) (q : List Int) (id v : Int) (hid : -2147483648 ≤ id ∧ id < 2147483648) (hL : L.length ≤ 16) : confidantref12_Futures_Keep.f K q L id v = some (ended L id 1 v 0) := by
  unfold confidantref12_Futures_Keep.f
  rw [rend_f K L q id 1 v 0 hid hL]; rfl
theorem rbreak_f (K : Nat) (L : List (List S96)) (q : List Int) (id c : Int) (hid : -2147483648 ≤ id ∧ id < 2147483648) (hL : L.length ≤ 16) : confidantref12_Futures_Break.f K q L id c = some (ended L id 2 0 c) := by
  unfold confidantref12_Futures_Break.f
  rw [rend_f K L q id 2 0 c hid hL]; rfl
theorem quotas_l (K : Nat) (l : List Int) (hl : l.length ≤ 1000) : ∀ (d n i : Nat), i + d = (l.take 16).length → d < n → confidantref12_quotas.l0 K l n ((l.take i).map clamp) (i : Int) = some ((l.take 16).map clamp)
  | 0, n, i, hd, hn => by
    obtain ⟨n, rfl⟩ : ∃ k, n = k + 1 := ⟨n - 1, by omega⟩
    rw [List.length_take] at hd
    have ht : l.take i = l.take 16 := by
      by_cases h : l.length ≤ 16
      · rw [List.take_of_length_le (by omega), List.take_of_length_le h]
      · rw [show i = 16 by omega]
    rw [confidantref12_quotas.l0.eq_2]
    simp only [lt]
    by_cases h1 : (i : Int) < (l.length : Int)
    · rw [if_pos h1, if_neg (by simp; omega), ht]
    · rw [if_neg h1, if_neg (by decide), ht]
  | d + 1, n, i, hd, hn => by
    obtain ⟨n, rfl⟩ : ∃ k, n = k + 1 := ⟨n - 1, by omega⟩
    have hd' := hd
    rw [List.length_take] at hd'
    have hi : i < l.length := by omega
    have e1 : l.getD (i : Int).toNat 0 = l[i] := by simp [List.getD, hi]
    have e2 : (l.take i).map clamp ++ [clamp l[i]] = (l.take (i + 1)).map clamp := by rw [List.take_add_one]; simp only [List.getElem?_eq_getElem hi, Option.toList_some, List.map_append, List.map_cons, List.map_nil]
    have e4 : mn (mx l[i] 0) 4096 = clamp l[i] := rfl
    rw [confidantref12_quotas.l0.eq_2]
    simp only [lt, e1, e4, e2, List.length_map, List.length_take, List.length_cons, List.length_nil]
    rw [if_pos (by omega), if_pos (by simp; omega), if_pos (by omega), if_pos (by omega), if_pos (by omega), w64_id (by omega) (by omega), show ((i : Int) + 1) = ((i + 1 : Nat) : Int) by omega]
    exact quotas_l K l hl d n (i + 1) (by omega) (by omega)
theorem rnew_f (K : Nat) (l : List Int) (hl : l.length ≤ 1000) (hK : 20 ≤ K) : confidantref12_NewFutures.f K l = some ((l.take 16).map clamp, List.replicate (l.take 16).length []) := by
  unfold confidantref12_NewFutures.f confidantref12_quotas.f
  have h := quotas_l K l hl (l.take 16).length K 0 (by omega) (by rw [List.length_take]; omega)
  simp only [List.take_zero, List.map_nil] at h
  rw [show (0 : Int) = ((0 : Nat) : Int) from rfl, h]
  have hle : (l.take 16).length ≤ 16 := by rw [List.length_take]; omega
  simp only [b1, lt, List.length_map, Int.toNat_natCast]
  rw [if_pos (by omega), if_pos (by omega)]

theorem si_l (K : Nat) (l : List Int) (hl : l.length ≤ 1000000) : ∀ (d n i : Nat), i + d = l.length → d < n → confidantref9_SameInts.l0 K l l n (i : Int) = some true
  | 0, n, i, hd, hn => by
    obtain ⟨n, rfl⟩ : ∃ k, n = k + 1 := ⟨n - 1, by omega⟩
    rw [confidantref9_SameInts.l0.eq_2, if_neg (by omega)]
  | d + 1, n, i, hd, hn => by
    obtain ⟨n, rfl⟩ : ∃ k, n = k + 1 := ⟨n - 1, by omega⟩
    rw [confidantref9_SameInts.l0.eq_2, if_pos (by omega), if_pos (by omega), if_pos (by omega), if_pos rfl, w64_id (by omega) (by omega), show ((i : Int) + 1) = ((i + 1 : Nat) : Int) by omega]
    exact si_l K l hl d n (i + 1) (by omega) (by omega)
theorem same_f (K : Nat) (a0 a1 a2 : Int) (l : List Int) (c0 c1 c2 c3 a5 a6 a7 a8 : Int) (hl : l.length ≤ 1000) (hK : 2000 ≤ K) : confidantref9_Same.f K a0 a1 a2 l c0 c1 c2 c3 a5 a6 a7 a8 a0 a1 a2 l c0 c1 c2 c3 a5 a6 a7 a8 = some true := by
  unfold confidantref9_Same.f confidantref9_SameInts.f
  simp only [if_true, b1]
  rw [show (0 : Int) = ((0 : Nat) : Int) from rfl, si_l K l (by omega) l.length K 0 (by omega) (by omega)]
  simp
theorem sa_l (K : Nat) (xs : List S36) (hl : xs.length ≤ 1000) (hs : ∀ x ∈ xs, x.f3.length ≤ 1000) (hK : 2000 ≤ K) : ∀ (d n i : Nat), i + d = xs.length → d < n → confidantref9_SameAll.l0 K xs xs n (i : Int) = some true
  | 0, n, i, hd, hn => by
    obtain ⟨n, rfl⟩ : ∃ k, n = k + 1 := ⟨n - 1, by omega⟩
    rw [confidantref9_SameAll.l0.eq_2, if_neg (by omega)]
  | d + 1, n, i, hd, hn => by
    obtain ⟨n, rfl⟩ : ∃ k, n = k + 1 := ⟨n - 1, by omega⟩
    have hi : i < xs.length := by omega
    have e : xs.getD (i : Int).toNat zS36 = xs[i] := by simp [List.getD, hi]
    rw [confidantref9_SameAll.l0.eq_2, if_pos (by omega), if_pos (by omega), if_pos (by omega), e, same_f K _ _ _ _ _ _ _ _ _ _ _ _ (hs _ (List.getElem_mem hi)) hK]
    simp only [b1, if_true]
    rw [w64_id (by omega) (by omega), show ((i : Int) + 1) = ((i + 1 : Nat) : Int) by omega]
    exact sa_l K xs hl hs hK d n (i + 1) (by omega) (by omega)
theorem sameAll_f (K : Nat) (xs : List S36) (hl : xs.length ≤ 1000) (hs : ∀ x ∈ xs, x.f3.length ≤ 1000) (hK : 2000 ≤ K) : confidantref9_SameAll.f K xs xs = some true := by
  unfold confidantref9_SameAll.f
  rw [if_pos rfl]
  exact sa_l K xs hl hs hK xs.length K 0 (by omega) (by omega)


/-! ### the reference's park -/
def cv (x : S60) : S53 := ⟨x.f0, x.f1⟩
theorem cv_get {l : List S60} {i : Nat} (h : i < l.length) : (l.map cv).getD i zS53 = cv l[i] := by simp [List.getD, h]
theorem rlook_l (K : Nat) (l : List S60) (hl : l.length ≤ 1000) (hs : ∀ x ∈ l, -2147483648 ≤ x.f1 ∧ x.f1 < 2147483648) (L : List (List S96)) (hL : L.length ≤ 16) (q : List Int) (j : Int → List S36 → List S36 → List S53 → Option (List S53 × List S36 × List S36 × Int)) : ∀ (d n i m : Nat) (a : List S60) (b c : List S36), i + d = l.length → d < n → m ≤ 1000000 → a.length ≤ i → b.length ≤ i → c.length ≤ i →
    confidantref15_Park_Look_37.l0 K (l.map cv) q L j n (m : Int) b c (a.map cv) (i : Int) = j ((Park.look L (l.drop i) m).2.2.2 : Int) (b ++ (Park.look L (l.drop i) m).2.1) (c ++ (Park.look L (l.drop i) m).2.2.1) ((a ++ (Park.look L (l.drop i) m).1).map cv)
  | 0, n, i, m, a, b, c, hd, hn, hm, ha, hb, hc => by
    obtain ⟨n, rfl⟩ : ∃ k, n = k + 1 := ⟨n - 1, by omega⟩
    rw [confidantref15_Park_Look_37.l0.eq_2, if_neg (by simp; omega), List.drop_of_length_le (by omega)]
    simp [Park.look]
  | d + 1, n, i, m, a, b, c, hd, hn, hm, ha, hb, hc => by
    obtain ⟨n, rfl⟩ : ∃ k, n = k + 1 := ⟨n - 1, by omega⟩
    have hi : i < l.length := by omega
    have e : (l.map cv).getD (i : Int).toNat zS53 = cv l[i] := by rw [Int.toNat_natCast]; exact cv_get hi
    have e1 : l.drop i = l[i] :: l.drop (i + 1) := List.drop_eq_getElem_cons hi
    have hid := hs _ (List.getElem_mem hi)
    have next : ∀ (m : Nat) (a : List S60) (b c : List S36), m ≤ 1000000 → a.length ≤ i + 1 → b.length ≤ i + 1 → c.length ≤ i + 1 → confidantref15_Park_Look_37.l0 K (l.map cv) q L j n (m : Int) b c (a.map cv) (IntKind.i64.wrap ((i : Int) + 1)) = j ((Park.look L (l.drop (i + 1)) m).2.2.2 : Int) (b ++ (Park.look L (l.drop (i + 1)) m).2.1) (c ++ (Park.look L (l.drop (i + 1)) m).2.2.1) ((a ++ (Park.look L (l.drop (i + 1)) m).1).map cv) := by
      intro m a b c hm ha hb hc
      rw [w64_id (by omega) (by omega), show ((i : Int) + 1) = ((i + 1 : Nat) : Int) by omega]
      exact rlook_l K l hl hs L hL q j d n (i + 1) m a b c (by omega) (by omega) hm ha hb hc
    have f0 : (cv l[i]).f0 = l[i].f0 := rfl
    have f1 : (cv l[i]).f1 = l[i].f1 := rfl
    have f2 : (⟨l[i].f0, l[i].f1⟩ : S53) = cv l[i] := rfl
    rw [confidantref15_Park_Look_37.l0.eq_2, if_pos (by simp; omega), e, e1]
    simp only [lt, f0, f1, eta36, f2, List.length_singleton, List.length_map]
    rw [if_pos (by omega)]
    cases m with
    | zero =>
      rw [if_pos (by omega), if_pos (by omega)]
      have h := next 0 a b (c ++ [l[i].f0]) (by omega) (by omega) (by omega) (by simp; omega)
      simp only [Park.look, List.append_assoc, List.singleton_append] at h ⊢
      exact h
    | succ m =>
      rw [if_neg (by omega), rget_f K L q _ hid hL]
      have em : IntKind.i64.wrap (((m + 1 : Nat) : Int) - 1) = (m : Int) := by rw [w64_id (by omega) (by omega)]; omega
      by_cases hd : Done L l[i].f1
      · have h := next m a (b ++ [l[i].f0]) c (by omega) (by omega) (by simp; omega) (by omega)
        rw [if_pos hd.1]
        simp only [b2, if_true, em]
        rw [if_pos (by simp [hd.2]), if_pos (by omega)]
        simp only [Park.look, if_pos hd, List.append_assoc, List.singleton_append] at h ⊢
        exact h
      · have h := next m (a ++ [l[i]]) b c (by omega) (by simp; omega) (by omega) (by omega)
        have ha1 : a.map cv ++ [cv l[i]] = (a ++ [l[i]]).map cv := by simp
        by_cases ht : There L l[i].f1
        · have h0 : (at_ L l[i].f1).f1 = 0 := Decidable.byContradiction (fun g => hd ⟨ht, g⟩)
          rw [if_pos ht]
          simp only [b2, if_true, em, ha1]
          rw [if_neg (by simp [h0]), if_pos (by omega)]
          simp only [Park.look, if_neg hd, List.append_assoc, List.singleton_append] at h ⊢
          exact h
        · rw [if_neg ht]
          simp only [b2, Bool.false_eq_true, if_false, em, ha1]
          rw [if_pos (by omega)]
          simp only [Park.look, if_neg hd, List.append_assoc, List.singleton_append] at h ⊢
          exact h
theorem rlook_f (K : Nat) (l : List S60) (hl : l.length ≤ 1000) (hs : ∀ x ∈ l, -2147483648 ≤ x.f1 ∧ x.f1 < 2147483648) (L : List (List S96)) (hL : L.length ≤ 16) (q : List Int) (m : Nat) (f : Int) (hm : mx f 0 = (m : Int)) (hm2 : m ≤ 1000000) (hK : 2000 ≤ K) :
    confidantref15_Park_Look_37.f K (l.map cv) q L f = some ((Park.look L l m).1.map cv, (Park.look L l m).2.1, (Park.look L l m).2.2.1, ((Park.look L l m).2.2.2 : Int)) := by
  unfold confidantref15_Park_Look_37.f
  simp only [lt, hm]
  have h := rlook_l K l hl hs L hL q (fun a b c d => some (d, b, c, a)) l.length K 0 m [] [] [] (by omega) (by omega) hm2 (by simp) (by simp) (by simp)
  simp only [List.drop_zero, List.nil_append, List.map_nil] at h
  exact h

/-! ### the law -/
/-- who waits in a story -/
structure Fine (l : List S60) (i : Nat) : Prop where
  len : l.length ≤ i
  id : ∀ x ∈ l, -2147483648 ≤ x.f1 ∧ x.f1 < 2147483648
  small : ∀ x ∈ l, x.f0.f3.length ≤ 1000
theorem look_mem (L : List (List S96)) : ∀ (l : List S60) (n : Nat), (∀ t ∈ (Park.look L l n).2.1, ∃ x ∈ l, t = x.f0) ∧ (∀ t ∈ (Park.look L l n).2.2.1, ∃ x ∈ l, t = x.f0)
  | [], n => by simp [Park.look]
  | w :: l, 0 => by
    obtain ⟨h1, h2⟩ := look_mem L l 0
    refine ⟨fun t ht => ?_, fun t ht => ?_⟩
    · obtain ⟨x, hx, e⟩ := h1 t (by simpa [Park.look] using ht)
      exact ⟨x, List.mem_cons_of_mem _ hx, e⟩
    · have ht' : t ∈ w.f0 :: (Park.look L l 0).2.2.1 := ht
      rcases List.mem_cons.1 ht' with rfl | ht'
      · exact ⟨w, List.mem_cons_self, rfl⟩
      · obtain ⟨x, hx, e⟩ := h2 t ht'
        exact ⟨x, List.mem_cons_of_mem _ hx, e⟩
  | w :: l, n + 1 => by
    obtain ⟨h1, h2⟩ := look_mem L l n
    have up1 : ∀ t ∈ (Park.look L l n).2.1, ∃ x ∈ w :: l, t = x.f0 := fun t ht => by
      obtain ⟨x, hx, e⟩ := h1 t ht
      exact ⟨x, List.mem_cons_of_mem _ hx, e⟩
    have up2 : ∀ t ∈ (Park.look L l n).2.2.1, ∃ x ∈ w :: l, t = x.f0 := fun t ht => by
      obtain ⟨x, hx, e⟩ := h2 t ht
      exact ⟨x, List.mem_cons_of_mem _ hx, e⟩
    by_cases h : Done L w.f1
    · simp only [Park.look, if_pos h]
      refine ⟨fun t ht => ?_, up2⟩
      rcases List.mem_cons.1 ht with rfl | ht
      · exact ⟨w, List.mem_cons_self, rfl⟩
      · exact up1 t ht
    · simp only [Park.look, if_neg h]
      exact ⟨up1, up2⟩

theorem pp_2 (K : Nat) (hK : 5000 ≤ K) (l : List S60) (i0 : Nat) (h : Fine l i0) (hi0 : i0 ≤ 61) (j : List S60 → List S60 → List S53 → List (List S96) → List (List S96) → Option Bool) (L : List (List S96)) : ∀ (d n i : Nat), i + d = l.length → d < n →
    confidantlaw20_ParkPlays.l2 K l (l.map cv) j l L L n (i : Int) = j l l (l.map cv) L L
  | 0, n, i, hd, hn => by
    obtain ⟨n, rfl⟩ : ∃ k, n = k + 1 := ⟨n - 1, by omega⟩
    rw [confidantlaw20_ParkPlays.l2.eq_2, if_neg (by omega)]
  | d + 1, n, i, hd, hn => by
    obtain ⟨n, rfl⟩ : ∃ k, n = k + 1 := ⟨n - 1, by omega⟩
    have hi : i < l.length := by omega
    have hlen := h.len
    have e : l.getD (i : Int).toNat zS60 = l[i] := by simp [List.getD, hi]
    have e2 : (l.map cv).getD (i : Int).toNat zS53 = cv l[i] := by rw [Int.toNat_natCast]; exact cv_get hi
    have f0 : (cv l[i]).f0 = l[i].f0 := rfl
    have f1 : (cv l[i]).f1 = l[i].f1 := rfl
    rw [confidantlaw20_ParkPlays.l2.eq_2, if_pos (by omega)]
    simp only [lt, e, e2, f0, f1, List.length_map]
    rw [if_pos (by omega), if_pos (by omega), if_pos trivial, same_f K _ _ _ _ _ _ _ _ _ _ _ _ (h.small _ (List.getElem_mem hi)) (by omega)]
    simp only [b1, Bool.not_true, Bool.false_eq_true, if_false]
    rw [w64_id (by omega) (by omega), show ((i : Int) + 1) = ((i + 1 : Nat) : Int) by omega]
    exact pp_2 K hK l i0 h hi0 j L d n (i + 1) (by omega) (by omega)

theorem pp_1 (K : Nat) (hK : 5000 ≤ K) (s : List S51) (hsl : s.length ≤ 60) (ho : ∀ x ∈ s, okS51 x) (q : List Int) : ∀ (d n i : Nat) (l : List S60) (L : List (List S96)), i + d = s.length → d < n → Fine l i → Qs L q →
    confidantlaw20_ParkPlays.l1 K s q q n (l.map cv) l L L (i : Int) = some true
  | 0, n, i, l, L, hd, hn, hf, hq => by
    obtain ⟨n, rfl⟩ : ∃ k, n = k + 1 := ⟨n - 1, by omega⟩
    rw [confidantlaw20_ParkPlays.l1.eq_2, if_neg (by omega)]
  | d + 1, n, i, l, L, hd, hn, hf, hq => by
    obtain ⟨n, rfl⟩ : ∃ k, n = k + 1 := ⟨n - 1, by omega⟩
    have hi : i < s.length := by omega
    have e : s.getD (i : Int).toNat zS51 = s[i] := by simp [List.getD, hi]
    obtain ⟨o0, o1, o2, o3, _⟩ := ho _ (List.getElem_mem hi)
    have u0 := is_u8 o0
    have u1 := is_u8 o1
    have u2 := is_u8 o2
    have u3 := is_i32 o3
    have hle := hq.le
    have hlen := hf.len
    rw [confidantlaw20_ParkPlays.l1.eq_2, if_pos (by omega), e]
    refine lt_all (P := fun J => ∀ l' L' a, Fine l' (i + 1) → Qs L' q → J l' a (l'.map cv) L' L' = some true) (fun l' L' a hf' hq' => ?_) (fun J hJ => ?_)
    · rw [w64_id (by omega) (by omega), show ((i : Int) + 1) = ((i + 1 : Nat) : Int) by omega]
      exact pp_1 K hK s hsl ho q d n (i + 1) l' L' (by omega) (by omega) hf' hq'
    rw [if_pos (by omega)]
    refine lt_all (P := fun y => -2147483648 ≤ y ∧ y < 2147483648) (by rw [w32]; omega) (fun y hy => ?_)
    refine lt_all (P := fun J => ∀ id : Int, -2147483648 ≤ id ∧ id < 2147483648 → J id = some true) (fun id hid => ?_) (fun J1 hJ1 => ?_)
    · refine lt_all (P := fun J2 => ∀ l' L', Fine l' (i + 1) → Qs L' q → J2 l' (l'.map cv) L' L' = some true) (fun l' L' hf' hq' => ?_) (fun J2 hJ2 => ?_)
      · have hlen' := hf'.len
        rw [Park.all_f K l' (by omega) hf'.small (by omega)]
        simp only [b1, lt, len_f, List.length_map]
        rw [if_pos trivial, if_neg (by simp)]
        refine Eq.trans (pp_2 K hK l' (i + 1) hf' (by omega) J L' l'.length K 0 (by omega) (by omega)) ?_
        exact hJ l' L' l' hf' hq'
      · refine lt_all (P := fun J3 => J3 true = some true ∧ J3 false = some true) ⟨?_, ?_⟩ (fun J3 hJ3 => ?_)
        · simp only [if_true]
          rw [add_f K l (by omega) _ _ _ _ _ _ _ _ _ _ _ _ _ (by simp)]
          simp only [b1, lt, List.length_map, List.length_singleton]
          rw [if_pos (by omega)]
          have hf' : Fine (l ++ [⟨⟨IntKind.i32.wrap (i : Int), 0, 0, [], ⟨0, 0, 0, 0⟩, 0, 0, 0, IntKind.i64.wrap (Int.tmod s[i].f1 3)⟩, id⟩]) (i + 1) := by
            refine ⟨by simp; omega, fun x hx => ?_, fun x hx => ?_⟩
            · rcases List.mem_append.1 hx with hx | hx
              · exact hf.id x hx
              · rw [List.mem_singleton.1 hx]; exact hid
            · rcases List.mem_append.1 hx with hx | hx
              · exact hf.small x hx
              · rw [List.mem_singleton.1 hx]; simp
          have h := hJ2 _ L hf' hq
          rw [List.map_append] at h
          exact h
        · simp only [Bool.false_eq_true, if_false]
          by_cases h3 : Int.tmod s[i].f0 6 = 3
          · rw [if_pos h3]
            refine lt_all (P := fun y => -1 ≤ y ∧ y ≤ 20) ?_ (fun f hf0 => ?_)
            · rw [Int.tmod_eq_emod_of_nonneg (by omega), w64_id (x := s[i].f2 % 12) (by omega) (by omega), w64_id (by omega) (by omega)]
              omega
            · obtain ⟨m, hm, hm2⟩ : ∃ m : Nat, mx f 0 = (m : Int) ∧ m ≤ 20 := by
                refine ⟨(mx f 0).toNat, ?_, ?_⟩ <;> unfold mx <;> split <;> omega
              rw [look_f K l (by omega) hf.id L q m f hm (by omega) (by omega), rlook_f K l (by omega) hf.id L hle q m f hm (by omega) (by omega)]
              have g3 := look_len L l m
              obtain ⟨g4, g5⟩ := look_mem L l m
              have g6 := look_stay L l m
              have hf' : Fine (Park.look L l m).1 (i + 1) := ⟨by omega, fun x hx => hf.id x (g6 x hx).1, fun x hx => hf.small x (g6 x hx).1⟩
              simp only [b4, lt]
              rw [sameAll_f K _ (by omega) (fun t ht => by obtain ⟨x, hx, rfl⟩ := g4 t ht; exact hf.small x hx) (by omega), sameAll_f K _ (by omega) (fun t ht => by obtain ⟨x, hx, rfl⟩ := g5 t ht; exact hf.small x hx) (by omega)]
              simp only [b1, if_true, decide_true, Bool.not_true, Bool.false_eq_true, if_false]
              exact hJ2 _ L hf' hq
          · rw [if_neg h3]
            have hf' : Fine l (i + 1) := ⟨by omega, hf.id, hf.small⟩
            by_cases h4 : Int.tmod s[i].f0 6 = 4
            · rw [if_pos h4, keep_f K L q id _ hid, rkeep_f K L q id _ hid hle]
              have hq' := ended_qs hq id 1 1 0
              generalize ended L id 1 1 0 = r at hq'
              obtain ⟨L', x⟩ := r
              simp only [b2]
              exact hJ2 l L' hf' hq'
            · rw [if_neg h4, break_f K L q id _ hid, rbreak_f K L q id _ hid hle]
              have hq' := ended_qs hq id 2 0 9
              generalize ended L id 2 0 9 = r at hq'
              obtain ⟨L', x⟩ := r
              simp only [b2]
              exact hJ2 l L' hf' hq'
        · by_cases h0 : Int.tmod s[i].f0 6 = 0
          · rw [if_pos h0]; exact hJ3.1
          rw [if_neg h0]
          by_cases h1 : Int.tmod s[i].f0 6 = 1
          · rw [if_pos h1]; exact hJ3.1
          rw [if_neg h1]
          cases decide (Int.tmod s[i].f0 6 = 2)
          · exact hJ3.2
          · exact hJ3.1
    · by_cases h : s[i].f1 > 240
      · rw [if_pos h]; exact hJ1 _ (by omega)
      · rw [if_neg h]; exact hJ1 _ hy

theorem pp_0 (K : Nat) (hK : 5000 ≤ K) (a5 : Int) (k : Nat) (hk : IntKind.i64.wrap (Int.tmod a5 12) = (k : Int)) (hk2 : k ≤ 12) (q : List Int) (j : List (List S96) → List (List S96) → Option Bool) (hj : ∀ L, Qs L q → j L L = some true) : ∀ (d n i : Nat) (L : List (List S96)), i + d = k → d < n → Qs L q →
    confidantlaw20_ParkPlays.l0 K a5 q q j n L L (i : Int) = some true
  | 0, n, i, L, hd, hn, hq => by
    obtain ⟨n, rfl⟩ : ∃ k, n = k + 1 := ⟨n - 1, by omega⟩
    rw [confidantlaw20_ParkPlays.l0.eq_2, hk, if_neg (by omega)]
    exact hj L hq
  | d + 1, n, i, L, hd, hn, hq => by
    obtain ⟨n, rfl⟩ : ∃ k, n = k + 1 := ⟨n - 1, by omega⟩
    rw [confidantlaw20_ParkPlays.l0.eq_2, hk, if_pos (by omega), make_f K L q _ _ hq, rmake_f K L q _ _ hq]
    have hq' := made_qs hq (Int.tmod (i : Int) 2) 0
    generalize made L q (Int.tmod (i : Int) 2) 0 = r at hq'
    obtain ⟨L', x, y⟩ := r
    simp only [b3]
    rw [w64_id (by omega) (by omega), show ((i : Int) + 1) = ((i + 1 : Nat) : Int) by omega]
    exact pp_0 K hK a5 k hk hk2 q j hj d n (i + 1) L' (by omega) (by omega) hq'

theorem ParkPlays : confidantlaw20_ParkPlays.Pure := by
  intro a5 s h5 _ ho
  have u5 := is_u8 h5
  obtain ⟨K, hK, hkn⟩ := known_f
  refine ⟨K, ?_⟩
  obtain ⟨k, hk, hk2⟩ : ∃ k : Nat, IntKind.i64.wrap (Int.tmod a5 12) = (k : Int) ∧ k ≤ 12 := by
    refine ⟨(a5 % 12).toNat, ?_, by omega⟩
    rw [Int.tmod_eq_emod_of_nonneg (by omega), w64_id (by omega) (by omega)]; omega
  unfold confidantlaw20_ParkPlays.f park_New.f
  simp only [hkn, b1, if_true, lt]
  by_cases h1 : (s.length : Int) > 60
  · rw [if_pos h1]
  rw [if_neg h1]
  have hQ := new_qs [9, 9]
  rw [new_f K [9, 9] (by simp) (by omega), rnew_f K [9, 9] (by simp) (by omega)]
  simp only [b2]
  exact pp_0 K hK a5 k hk hk2 _ _ (fun L hL => pp_1 K hK s (by omega) ho _ s.length K 0 [] L (by omega) (by omega) ⟨by simp, by simp, by simp⟩ hL) k K 0 _ (by omega) (by omega) hQ
end Go.Proofs.Ytipaaapbapijhaa.Pure
