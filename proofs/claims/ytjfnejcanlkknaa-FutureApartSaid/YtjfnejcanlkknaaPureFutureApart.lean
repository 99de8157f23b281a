import Derived.Test.YtjfnejcanlkknaaG0
import Derived.Test.YtjfnejcanlkknaaG12
import Derived.Test.YtjfnejcanlkknaaFuture
/- Each of many goes its own way. No condition. -/
set_option linter.unusedVariables false
set_option linter.unusedSimpArgs false
namespace Go.Proofs.Ytjfnejcanlkknaa.Pure
open Go Go.Fw Go.RowKit Go.Proofs.Ytjfnejcanlkknaa.G Go.Proofs.Ytjfnejcanlkknaa.Future

/-- the first i, as they are made -/
def fresh (i : Nat) : List S75 := (List.range i).map (fun m : Nat => (⟨(m : Int), 0, 0, 0⟩ : S75))
theorem fresh_len (i : Nat) : (fresh i).length = i := by unfold fresh; simp
theorem fresh_succ (i : Nat) : fresh (i + 1) = fresh i ++ [⟨(i : Int), 0, 0, 0⟩] := by unfold fresh; rw [List.range_succ]; simp
/-- what is wanted, before i -/
def want (k i : Nat) : List S75 := fresh i ++ List.replicate (k - i) zS75
theorem want_len {k i : Nat} (h : i ≤ k) : (want k i).length = k := by unfold want; simp [fresh_len]; omega
theorem want_get {k i : Nat} (h : i < k) : (want k i).getD i zS75 = zS75 := by
  unfold want
  have hl := fresh_len i
  rw [List.getD_eq_getElem?_getD, List.getElem?_append_right (by omega), hl, Nat.sub_self, List.getElem?_replicate]
  split <;> rfl
theorem want_set {k i : Nat} (h : i < k) : (want k i).set i ⟨(i : Int), 0, 0, 0⟩ = want k (i + 1) := by
  unfold want
  have hl := fresh_len i
  obtain ⟨m, hm⟩ : ∃ m, k - i = m + 1 := ⟨k - i - 1, by omega⟩
  have hm2 : k - (i + 1) = m := by omega
  rw [hm, hm2, List.set_append_right _ _ (by omega), hl, Nat.sub_self, List.replicate_succ, List.set_cons_zero, fresh_succ, List.append_assoc]
  rfl

/-- the list of one row -/
theorem qs1 {r : List S75} (h : r.length ≤ 4096) : Qs [r] [20] := by
  refine ⟨rfl, by simp, fun x hx => ?_, fun y hy => ?_⟩
  · rw [List.mem_singleton.1 hx]; omega
  · rw [List.mem_singleton.1 hy]; exact h
theorem there1 {r : List S75} {y : Nat} (h : y < r.length) (h2 : r.length ≤ 10) : There [r] (y : Int) ∧ at_ [r] (y : Int) = r.getD y zS75 := by
  have e1 : (y : Int) / 65536 = 0 := by omega
  have e2 : (y : Int) % 65536 = (y : Int) := by omega
  have e3 : row [r] 0 = r := rfl
  refine ⟨⟨by omega, by rw [e1]; simp, by rw [e1, e2, e3]; omega⟩, ?_⟩
  unfold at_
  rw [e1, e2, e3, Int.toNat_natCast]
theorem ended1 {r : List S75} {y : Nat} (h : y < r.length) (h2 : r.length ≤ 10) (s v c : Int) : ended [r] (y : Int) s v c = if (r.getD y zS75).f1 = 0 then ([r.set y ⟨(r.getD y zS75).f0, s, v, c⟩], true) else ([r], false) := by
  obtain ⟨h3, h4⟩ := there1 h h2
  have e1 : (y : Int) / 65536 = 0 := by omega
  have e2 : (y : Int) % 65536 = (y : Int) := by omega
  have e3 : row [r] 0 = r := rfl
  unfold ended
  rw [h4, e1, e2, e3, Int.toNat_natCast]
  by_cases h5 : (r.getD y zS75).f1 = 0
  · rw [if_pos ⟨h3, h5⟩, if_pos h5]; rfl
  · rw [if_neg (fun g => h5 g.2), if_neg h5]

theorem fa_2 (K : Nat) (a : Int) (w : List S75) (k : Nat) (ha : IntKind.i64.wrap (IntKind.i64.wrap (Int.tmod a 10) + 1) = (k : Int)) (hw : w.length = k) (hk : k ≤ 10) (j : Option Bool) : ∀ (d n i : Nat), i + d = k → d < n → confidantlaw13_FutureApart.l2 K a [w] [20] w j n (i : Int) = j
  | 0, n, i, hd, hn => by
    obtain ⟨n, rfl⟩ : ∃ k, n = k + 1 := ⟨n - 1, by omega⟩
    rw [confidantlaw13_FutureApart.l2.eq_2, ha, if_neg (by omega)]
  | d + 1, n, i, hd, hn => by
    obtain ⟨n, rfl⟩ : ∃ k, n = k + 1 := ⟨n - 1, by omega⟩
    obtain ⟨h3, h4⟩ := there1 (r := w) (y := i) (by omega) (by omega)
    rw [confidantlaw13_FutureApart.l2.eq_2, ha, if_pos (by omega), w32_id (x := (i : Int)) (by omega) (by omega), get_f K _ _ _ (by omega), if_pos h3, h4]
    simp only [b2, lt, if_true, Int.toNat_natCast]
    rw [if_pos (by omega), if_pos (by omega), if_neg (by simp), w64_id (by omega) (by omega), show ((i : Int) + 1) = ((i + 1 : Nat) : Int) by omega]
    exact fa_2 K a w k ha hw hk j d n (i + 1) (by omega) (by omega)

/-- what is open is empty -/
def Open (w : List S75) : Prop := ∀ x ∈ w, x.f1 = 0 → x.f2 = 0 ∧ x.f3 = 0
theorem Open.get {w : List S75} (h : Open w) {y : Nat} (hy : y < w.length) (h1 : (w.getD y zS75).f1 = 0) : (w.getD y zS75).f2 = 0 ∧ (w.getD y zS75).f3 = 0 := by
  have e : w.getD y zS75 = w[y] := by simp [List.getD, hy]
  rw [e] at h1 ⊢
  exact h _ (List.getElem_mem hy) h1
theorem Open.set {w : List S75} (h : Open w) {y : Nat} {x : S75} (hx : x.f1 ≠ 0) : Open (w.set y x) := by
  intro z hz h1
  rcases List.mem_or_eq_of_mem_set hz with hz | rfl
  · exact h z hz h1
  · exact absurd h1 hx

theorem fa_1 (K : Nat) (l : List Int) (hl : l.length ≤ 40) (ho : ∀ x ∈ l, (Lit.int .u8 x).wf = true) (a : Int) (k : Nat) (ha : IntKind.i64.wrap (IntKind.i64.wrap (Int.tmod a 10) + 1) = (k : Int)) (hk : k ≤ 10) (hk0 : 0 < k) (j : List S75 → List (List S75) → Option Bool) (hj : ∀ w, w.length = k → j w [w] = some true) : ∀ (d n i : Nat) (w : List S75), i + d = l.length → d < n → w.length = k → Open w →
    confidantlaw13_FutureApart.l1 K l a [20] j n w [w] (i : Int) = some true
  | 0, n, i, w, hd, hn, hw, ho' => by
    obtain ⟨n, rfl⟩ : ∃ k, n = k + 1 := ⟨n - 1, by omega⟩
    rw [confidantlaw13_FutureApart.l1.eq_2, if_neg (by omega)]
    exact hj w hw
  | d + 1, n, i, w, hd, hn, hw, ho' => by
    obtain ⟨n, rfl⟩ : ∃ k, n = k + 1 := ⟨n - 1, by omega⟩
    have hi : i < l.length := by omega
    have e : l.getD (i : Int).toNat 0 = l[i] := by simp [List.getD, hi]
    have hu := is_u8 (ho _ (List.getElem_mem hi))
    rw [confidantlaw13_FutureApart.l1.eq_2, if_pos (by omega), e, ha]
    refine lt_all (P := fun J => ∀ w', w'.length = k → Open w' → J [w'] w' = some true) (fun w' hw' ho'' => ?_) (fun J hJ => ?_)
    · rw [w64_id (by omega) (by omega), show ((i : Int) + 1) = ((i + 1 : Nat) : Int) by omega]
      exact fa_1 K l hl ho a k ha hk hk0 j hj d n (i + 1) w' (by omega) (by omega) hw' ho''
    · rw [if_pos (by omega), if_neg (by omega), w64_id (x := l[i]) (by omega) (by omega)]
      refine lt_all (P := fun y => ∃ m : Nat, y = (m : Int) ∧ m < k) ?_ (fun y hy => ?_)
      · refine ⟨(Int.tmod l[i] (k : Int)).toNat, ?_, ?_⟩
        · rw [Int.tmod_eq_emod_of_nonneg (by omega)]
          have := Int.emod_nonneg l[i] (show (k : Int) ≠ 0 by omega)
          omega
        · rw [Int.tmod_eq_emod_of_nonneg (by omega)]
          have := Int.emod_lt_of_pos l[i] (show (0 : Int) < k by omega)
          omega
      · obtain ⟨m, rfl, hm⟩ := hy
        have hb1 : (0 : Int) ≤ (m : Int) := by omega
        have hb2 : (m : Int) < (w.length : Int) := by omega
        have hid : -2147483648 ≤ (m : Int) ∧ (m : Int) < 2147483648 := by omega
        have e1 : IntKind.i32.wrap (m : Int) = (m : Int) := w32_id (by omega) (by omega)
        have e2 : IntKind.i32.wrap (i : Int) = (i : Int) := w32_id (by omega) (by omega)
        have hset : ∀ x : S75, (w.set m x).getD m zS75 = x := fun x => (set3 w m x x x (by omega)).1
        have hend := fun s v c => ended1 (r := w) (y := m) (by omega) (by omega) s v c
        simp only [lt, e1, e2, Int.toNat_natCast, List.length_set, hset, List.set_set, if_pos hb1, if_pos hb2, keep_f K _ _ _ _ hid, break_f K _ _ _ _ hid, hend]
        by_cases h0 : (w.getD m zS75).f1 = 0
        · obtain ⟨g2, g3⟩ := ho'.get (by omega) h0
          simp only [if_pos h0, b2, g2, g3]
          by_cases h1 : l[i] < 128
          · rw [if_pos (decide_eq_true h1)]
            exact hJ _ (by simp [hw]) (ho'.set (by simp))
          · rw [if_neg (by simpa using h1)]
            exact hJ _ (by simp [hw]) (ho'.set (by simp))
        · simp only [hend, if_neg h0, b2, Bool.false_eq_true, if_false]
          exact hJ w hw ho'

theorem fa_0 (K : Nat) (a : Int) (k : Nat) (ha : IntKind.i64.wrap (IntKind.i64.wrap (Int.tmod a 10) + 1) = (k : Int)) (hk : k ≤ 10) (j : List S75 → List (List S75) → Option Bool) : ∀ (d n i : Nat), i + d = k → d < n →
    confidantlaw13_FutureApart.l0 K a [20] j n (want k i) [fresh i] (i : Int) = j (want k k) [fresh k]
  | 0, n, i, hd, hn => by
    obtain ⟨n, rfl⟩ : ∃ k, n = k + 1 := ⟨n - 1, by omega⟩
    rw [confidantlaw13_FutureApart.l0.eq_2, ha, if_neg (by omega), show i = k by omega]
  | d + 1, n, i, hd, hn => by
    obtain ⟨n, rfl⟩ : ∃ k, n = k + 1 := ⟨n - 1, by omega⟩
    have hl := fresh_len i
    have e3 : row [fresh i] 0 = fresh i := rfl
    have hroom : Room [fresh i] [20] 0 := ⟨by omega, by simp, by rw [e3, hl]; show (i : Int) < 20; omega⟩
    rw [confidantlaw13_FutureApart.l0.eq_2, ha, if_pos (by omega), make_f K _ _ _ _ (qs1 (by omega)), made_room hroom]
    have e4 : ([fresh i] : List (List S75)).set (0 : Int).toNat (row [fresh i] 0 ++ [⟨(i : Int), 0, 0, 0⟩]) = [fresh (i + 1)] := by rw [e3, fresh_succ]; rfl
    rw [e4]
    have hwl := want_len (k := k) (i := i) (by omega)
    have hz : (want k i).getD i zS75 = zS75 := want_get (by omega)
    have hs : (want k i).set i ⟨(i : Int), 0, 0, 0⟩ = want k (i + 1) := want_set (by omega)
    simp only [b3, lt, if_true, Int.toNat_natCast, hz]
    rw [if_pos (by omega), if_pos (by omega), w64_id (by omega) (by omega), show ((i : Int) + 1) = ((i + 1 : Nat) : Int) by omega]
    have ez : (⟨(i : Int), zS75.f1, zS75.f2, zS75.f3⟩ : S75) = ⟨(i : Int), 0, 0, 0⟩ := rfl
    rw [ez, hs]
    exact fa_0 K a k ha hk j d n (i + 1) (by omega) (by omega)

theorem FutureApart : confidantlaw13_FutureApart.Pure := by
  intro a l ha0 _ ho
  have ua := is_u8 ha0
  obtain ⟨K, hK, hkn⟩ := known_f
  refine ⟨K, ?_⟩
  obtain ⟨k, ha, hk, hk0⟩ : ∃ k : Nat, IntKind.i64.wrap (IntKind.i64.wrap (Int.tmod a 10) + 1) = (k : Int) ∧ k ≤ 10 ∧ 0 < k := by
    refine ⟨(Int.tmod a 10 + 1).toNat, ?_, ?_, ?_⟩
    · rw [Int.tmod_eq_emod_of_nonneg (by omega), w64_id (x := a % 10) (by omega) (by omega), w64_id (by omega) (by omega)]; omega
    · rw [Int.tmod_eq_emod_of_nonneg (by omega)]; omega
    · rw [Int.tmod_eq_emod_of_nonneg (by omega)]; omega
  unfold confidantlaw13_FutureApart.f
  simp only [hkn, b1, if_true, lt]
  by_cases h1 : (l.length : Int) > 40
  · rw [if_pos h1]
  have e1 : (List.replicate (([20] : List Int).take 16).length ([] : List S75)) = [fresh 0] := rfl
  have e2 : (([20] : List Int).take 16).map clamp = [20] := by decide
  rw [if_neg h1, new_f K _ (by simp) (by omega), e1, e2]
  simp only [b2, ha]
  have e3 : List.replicate (k : Int).toNat zS75 = want k 0 := by unfold want fresh; simp
  rw [if_pos (by omega), if_pos (by omega), e3]
  refine Eq.trans (fa_0 K a k ha hk _ k K 0 (by omega) (by omega)) ?_
  have e4 : want k k = fresh k := by unfold want; simp
  rw [e4]
  refine fa_1 K l (by omega) ho a k ha hk hk0 _ (fun w hw => ?_) l.length K 0 (fresh k) (by omega) (by omega) (fresh_len k) (fun x hx h => ?_)
  · refine Eq.trans (fa_2 K a w k ha hw hk _ k K 0 (by omega) (by omega)) ?_
    rw [all_f K (qs1 (r := w) (by omega)) (by omega)]
    simp only [List.length_singleton]
    rw [if_pos (by decide), if_pos (by decide)]
    have e5 : ([w] : List (List S75)).getD (0 : Int).toNat [] = w := rfl
    rw [e5, hw]
    simp
  · unfold fresh at hx
    obtain ⟨m, _, rfl⟩ := List.mem_map.1 hx
    exact ⟨rfl, rfl⟩
end Go.Proofs.Ytjfnejcanlkknaa.Pure
