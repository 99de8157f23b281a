import Derived.Test.YtocdpimpkifdmaaDoorG0
import Derived.Test.YtocdpimpkifdmaaDoorG1
import Derived.Test.YtocdpimpkifdmaaDoorTrace
/- Selections of events; events of numbers. Conditions: in the lemmas. -/
set_option linter.unusedVariables false
set_option linter.unusedSimpArgs false
namespace Go.Proofs.YtocdpimpkifdmaaDoor.Trace
open Go Go.Fw Go.RowKit Go.Proofs.YtocdpimpkifdmaaDoor.G Go.Proofs.YtocdpimpkifdmaaDoor.Pack

theorem index_l (K : Nat) (l : List Int) (hl : l.length ≤ 1000) (x : Int) : ∀ (d n i : Nat), i + d = l.length → d < n → (∀ j, j < i → l.getD j 0 ≠ x) →
    ∃ r : Int, slices_Index_int_int.l0 K l x n (i : Int) = some r ∧ (r ≥ 0 ↔ x ∈ l)
  | 0, n, i, hd, hn, h => by
    obtain ⟨n, rfl⟩ : ∃ k, n = k + 1 := ⟨n - 1, by omega⟩
    rw [slices_Index_int_int.l0.eq_2, if_neg (by omega)]
    refine ⟨-1, rfl, by omega, fun hx => ?_⟩
    obtain ⟨j, hj, rfl⟩ := List.mem_iff_getElem.1 hx
    exact absurd (by simp [List.getD, hj]) (h j (by omega))
  | d + 1, n, i, hd, hn, h => by
    obtain ⟨n, rfl⟩ : ∃ k, n = k + 1 := ⟨n - 1, by omega⟩
    have hi : i < l.length := by omega
    have e : l.getD i 0 = l[i] := by simp [List.getD, hi]
    rw [slices_Index_int_int.l0.eq_2, if_pos (by omega), if_pos (by omega), Int.toNat_natCast]
    by_cases hx : x = l.getD i 0
    · rw [if_pos hx]
      exact ⟨(i : Int), rfl, fun _ => by rw [hx, e]; exact List.getElem_mem hi, fun _ => by omega⟩
    · rw [if_neg hx, w64_id (by omega) (by omega), show ((i : Int) + 1) = ((i + 1 : Nat) : Int) by omega]
      refine index_l K l hl x d n (i + 1) (by omega) (by omega) (fun j hj => ?_)
      by_cases hji : j = i
      · subst hji; exact fun g => hx g.symm
      · exact h j (by omega)
theorem contains_f (K : Nat) (hK : 2000 ≤ K) (l : List Int) (hl : l.length ≤ 1000) (x : Int) : slices_Contains_int_int.f K l x = some (decide (x ∈ l)) := by
  unfold slices_Contains_int_int.f slices_Index_int_int.f
  obtain ⟨r, h1, h2⟩ := index_l K l hl x l.length K 0 (by omega) (by omega) (fun j hj => by omega)
  rw [show (0 : Int) = ((0 : Nat) : Int) from rfl, h1]
  simp only [b1]
  congr 1
  exact decide_eq_decide.2 h2


def of_ (l : List S28) (tt : List Int) : List S28 := l.filter (fun r => decide (r.f1 ∈ tt))
theorem of__l (K : Nat) (hK : 2000 ≤ K) (l : List S28) (hl : l.length ≤ 1000) (tt : List Int) (ht : tt.length ≤ 1000) (g : List S28 → Option (List S28)) : ∀ (d n i : Nat), i + d = l.length → d < n → trace_Of.l0 K l tt g n (of_ (l.take i) tt) (i : Int) = g (of_ l tt)
  | 0, n, i, hd, hn => by
    obtain ⟨n, rfl⟩ : ∃ k, n = k + 1 := ⟨n - 1, by omega⟩
    rw [trace_Of.l0.eq_2, if_neg (by omega), List.take_of_length_le (by omega)]
  | d + 1, n, i, hd, hn => by
    obtain ⟨n, rfl⟩ : ∃ k, n = k + 1 := ⟨n - 1, by omega⟩
    have hi : i < l.length := by omega
    have e : l.getD (i : Int).toNat zS28 = l[i] := by simp [List.getD, hi]
    have e2 : l.take (i + 1) = l.take i ++ [l[i]] := by rw [List.take_add_one]; simp [hi]
    have hlen : (of_ (l.take i) tt).length ≤ l.length := by
      unfold of_
      refine Nat.le_trans (List.length_filter_le _ _) ?_
      rw [List.length_take]; omega
    rw [trace_Of.l0.eq_2, if_pos (by omega)]
    simp only [lt]
    rw [if_pos (by omega), e]
    unfold trace_Of_1.f
    simp only [b1]
    rw [contains_f K hK tt ht]
    simp only [List.length_singleton]
    have next := of__l K hK l hl tt ht g d n (i + 1) (by omega) (by omega)
    rw [e2] at next
    unfold of_ at next hlen ⊢
    rw [List.filter_append] at next
    rw [w64_id (by omega) (by omega), show ((i : Int) + 1) = ((i + 1 : Nat) : Int) by omega]
    by_cases h : l[i].f1 ∈ tt
    · rw [if_pos (decide_eq_true h), if_pos (by omega)]
      have e3 : List.filter (fun r => decide (r.f1 ∈ tt)) [l[i]] = [l[i]] := by simp [h]
      rw [e3] at next
      exact next
    · rw [if_neg (by simpa using h)]
      have e3 : List.filter (fun r => decide (r.f1 ∈ tt)) [l[i]] = [] := by simp [h]
      rw [e3, List.append_nil] at next
      exact next
theorem of__f (K : Nat) (hK : 2000 ≤ K) (l : List S28) (hl : l.length ≤ 1000) (tt : List Int) (ht : tt.length ≤ 1000) : trace_Of.f K l tt = some (of_ l tt) := by
  unfold trace_Of.f
  simp only [lt]
  have h := of__l K hK l hl tt ht (fun b3 => some b3) l.length K 0 (by omega) (by omega)
  have e : of_ (l.take 0) tt = [] := rfl
  rw [e] at h
  exact h


def kd_ (l : List S28) (tt : List Int) : List S28 := l.filter (fun r => decide (r.f2 ∈ tt))
theorem kd__l (K : Nat) (hK : 2000 ≤ K) (l : List S28) (hl : l.length ≤ 1000) (tt : List Int) (ht : tt.length ≤ 1000) (g : List S28 → Option (List S28)) : ∀ (d n i : Nat), i + d = l.length → d < n → trace_Kinds.l0 K l tt g n (kd_ (l.take i) tt) (i : Int) = g (kd_ l tt)
  | 0, n, i, hd, hn => by
    obtain ⟨n, rfl⟩ : ∃ k, n = k + 1 := ⟨n - 1, by omega⟩
    rw [trace_Kinds.l0.eq_2, if_neg (by omega), List.take_of_length_le (by omega)]
  | d + 1, n, i, hd, hn => by
    obtain ⟨n, rfl⟩ : ∃ k, n = k + 1 := ⟨n - 1, by omega⟩
    have hi : i < l.length := by omega
    have e : l.getD (i : Int).toNat zS28 = l[i] := by simp [List.getD, hi]
    have e2 : l.take (i + 1) = l.take i ++ [l[i]] := by rw [List.take_add_one]; simp [hi]
    have hlen : (kd_ (l.take i) tt).length ≤ l.length := by
      unfold kd_
      refine Nat.le_trans (List.length_filter_le _ _) ?_
      rw [List.length_take]; omega
    rw [trace_Kinds.l0.eq_2, if_pos (by omega)]
    simp only [lt]
    rw [if_pos (by omega), e]
    unfold trace_Kinds_1.f
    simp only [b1]
    rw [contains_f K hK tt ht]
    simp only [List.length_singleton]
    have next := kd__l K hK l hl tt ht g d n (i + 1) (by omega) (by omega)
    rw [e2] at next
    unfold kd_ at next hlen ⊢
    rw [List.filter_append] at next
    rw [w64_id (by omega) (by omega), show ((i : Int) + 1) = ((i + 1 : Nat) : Int) by omega]
    by_cases h : l[i].f2 ∈ tt
    · rw [if_pos (decide_eq_true h), if_pos (by omega)]
      have e3 : List.filter (fun r => decide (r.f2 ∈ tt)) [l[i]] = [l[i]] := by simp [h]
      rw [e3] at next
      exact next
    · rw [if_neg (by simpa using h)]
      have e3 : List.filter (fun r => decide (r.f2 ∈ tt)) [l[i]] = [] := by simp [h]
      rw [e3, List.append_nil] at next
      exact next
theorem kd__f (K : Nat) (hK : 2000 ≤ K) (l : List S28) (hl : l.length ≤ 1000) (tt : List Int) (ht : tt.length ≤ 1000) : trace_Kinds.f K l tt = some (kd_ l tt) := by
  unfold trace_Kinds.f
  simp only [lt]
  have h := kd__l K hK l hl tt ht (fun b3 => some b3) l.length K 0 (by omega) (by omega)
  have e : kd_ (l.take 0) tt = [] := rfl
  rw [e] at h
  exact h

theorem add_f (K : Nat) (l r : List S28) (hl : l.length ≤ 1000) (hr : r.length ≤ 1000) : trace_Trace_Add.f K l r = some (l ++ r) := by
  unfold trace_Trace_Add.f
  simp only [lt]
  rw [if_pos (by omega)]
theorem all_f (K : Nat) (l : List S28) (hl : l.length ≤ 1000) : trace_Trace_All.f K l = some (l, l) := by
  unfold trace_Trace_All.f api_Event.f
  simp only [lt]
  rw [if_pos (by simp; omega)]
  rfl
theorem same_l (K : Nat) (l : List S28) (hl : l.length ≤ 1000) : ∀ (d n i : Nat), i + d = l.length → d < n → confidantref21_SameEvents.l0 K l l n (i : Int) = some true
  | 0, n, i, hd, hn => by
    obtain ⟨n, rfl⟩ : ∃ k, n = k + 1 := ⟨n - 1, by omega⟩
    rw [confidantref21_SameEvents.l0.eq_2, if_neg (by omega)]
  | d + 1, n, i, hd, hn => by
    obtain ⟨n, rfl⟩ : ∃ k, n = k + 1 := ⟨n - 1, by omega⟩
    rw [confidantref21_SameEvents.l0.eq_2, if_pos (by omega), if_pos (by omega), if_pos (by omega), if_pos (by simp), w64_id (by omega) (by omega), show ((i : Int) + 1) = ((i + 1 : Nat) : Int) by omega]
    exact same_l K l hl d n (i + 1) (by omega) (by omega)
theorem same_f (K : Nat) (hK : 2000 ≤ K) (l : List S28) (hl : l.length ≤ 1000) : confidantref21_SameEvents.f K l l = some true := by
  unfold confidantref21_SameEvents.f
  rw [if_pos rfl]
  exact same_l K l hl l.length K 0 (by omega) (by omega)

/-! ### events of numbers -/
def sm (x : S50) : S28 := ⟨IntKind.i64.wrap x.f0, IntKind.i64.wrap (Int.tmod x.f1 16), IntKind.i64.wrap (IntKind.i64.wrap (Int.tmod x.f2 11) + 1), IntKind.i64.wrap (Int.tmod x.f3 8), IntKind.i32.wrap (IntKind.i32.wrap x.f0 * 300), IntKind.i32.wrap (IntKind.i32.wrap x.f1 - 128), IntKind.i32.wrap x.f3⟩
theorem sm_eq (x : S50) (h : (0 ≤ x.f0 ∧ x.f0 ≤ 255) ∧ (0 ≤ x.f1 ∧ x.f1 ≤ 255) ∧ (0 ≤ x.f2 ∧ x.f2 ≤ 255) ∧ (0 ≤ x.f3 ∧ x.f3 ≤ 255)) : sm x = ⟨x.f0, x.f1 % 16, x.f2 % 11 + 1, x.f3 % 8, x.f0 * 300, x.f1 - 128, x.f3⟩ := by
  obtain ⟨h0, h1, h2, h3⟩ := h
  unfold sm
  rw [Int.tmod_eq_emod_of_nonneg h1.1, Int.tmod_eq_emod_of_nonneg h2.1, Int.tmod_eq_emod_of_nonneg h3.1, w64_id (x := x.f0) (by omega) (by omega), w64_id (x := x.f1 % 16) (by omega) (by omega), w64_id (x := x.f2 % 11) (by omega) (by omega), w64_id (x := x.f2 % 11 + 1) (by omega) (by omega), w64_id (x := x.f3 % 8) (by omega) (by omega),
    w32_id (x := x.f0) (by omega) (by omega), w32_id (x := x.f0 * 300) (by omega) (by omega), w32_id (x := x.f1) (by omega) (by omega), w32_id (x := x.f1 - 128) (by omega) (by omega), w32_id (x := x.f3) (by omega) (by omega)]
theorem sm_rt (x : S50) (h : (0 ≤ x.f0 ∧ x.f0 ≤ 255) ∧ (0 ≤ x.f1 ∧ x.f1 ≤ 255) ∧ (0 ≤ x.f2 ∧ x.f2 ≤ 255) ∧ (0 ≤ x.f3 ∧ x.f3 ≤ 255)) : Rt (sm x) ∧ Sm (sm x) := by
  rw [sm_eq x h]
  unfold Rt Sm i32r
  simp only
  omega
theorem some_l (K : Nat) (l : List S50) (hl : l.length ≤ 1000) : ∀ (d n i : Nat), i + d = l.length → d < n → confidantlaw23_some.l0 K l n ((l.take i).map sm) (i : Int) = some (l.map sm)
  | 0, n, i, hd, hn => by
    obtain ⟨n, rfl⟩ : ∃ k, n = k + 1 := ⟨n - 1, by omega⟩
    rw [confidantlaw23_some.l0.eq_2, if_neg (by omega), List.take_of_length_le (by omega)]
  | d + 1, n, i, hd, hn => by
    obtain ⟨n, rfl⟩ : ∃ k, n = k + 1 := ⟨n - 1, by omega⟩
    have hi : i < l.length := by omega
    have e : l.getD (i : Int).toNat zS50 = l[i] := by simp [List.getD, hi]
    have e2 : (l.take (i + 1)).map sm = (l.take i).map sm ++ [sm l[i]] := by rw [List.take_add_one, List.getElem?_eq_getElem hi, List.map_append]; rfl
    have hw : IntKind.i64.wrap ((i : Int) + 1) = ((i + 1 : Nat) : Int) := by rw [w64_id (by omega) (by omega)]; omega
    have hlen : ((l.take i).map sm).length ≤ 1000 := by rw [List.length_map, List.length_take]; omega
    rw [confidantlaw23_some.l0.eq_2, if_pos (by omega), if_pos (by omega), e]
    simp only [lt, List.length_singleton]
    rw [if_pos (by omega), hw]
    have next := some_l K l hl d n (i + 1) (by omega) (by omega)
    rw [e2] at next
    exact next
theorem some_f (K : Nat) (hK : 2000 ≤ K) (l : List S50) (hl : l.length ≤ 1000) : confidantlaw23_some.f K l = some (l.map sm) := some_l K l hl l.length K 0 (by omega) (by omega)
end Go.Proofs.YtocdpimpkifdmaaDoor.Trace
