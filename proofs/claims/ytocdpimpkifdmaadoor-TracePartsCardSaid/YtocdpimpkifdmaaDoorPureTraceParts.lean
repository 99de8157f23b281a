import Derived.Test.YtocdpimpkifdmaaDoorTrace2
import Derived.Test.YtocdpimpkifdmaaDoorG4
/- Those of some labels, of some kinds. No condition. -/
set_option linter.unusedVariables false
set_option linter.unusedSimpArgs false
namespace Go.Proofs.YtocdpimpkifdmaaDoor.Pure
open Go Go.Fw Go.RowKit Go.Proofs.YtocdpimpkifdmaaDoor.G Go.Proofs.YtocdpimpkifdmaaDoor.Pack Go.Proofs.YtocdpimpkifdmaaDoor.Trace

theorem known_p : ∃ K, 5000 ≤ K ∧ confidantlaw23_known.f K = some true := ⟨5000, Nat.le_refl _, by kernel_rfl⟩
theorem filter_at (P : S28 → Bool) (x : List S28) (i : Nat) (hi : i < x.length) (h : P x[i] = true) : ((x.take i).filter P).length < (x.filter P).length ∧ (x.filter P).getD ((x.take i).filter P).length zS28 = x[i] := by
  have e : x = x.take i ++ x[i] :: x.drop (i + 1) := by rw [← List.drop_eq_getElem_cons hi, List.take_append_drop]
  have e2 : x.filter P = (x.take i).filter P ++ x[i] :: (x.drop (i + 1)).filter P := by
    conv => lhs; rw [e]
    rw [List.filter_append, List.filter_cons_of_pos h]
  rw [e2]
  refine ⟨by rw [List.length_append, List.length_cons]; omega, ?_⟩
  rw [List.getD_eq_getElem?_getD, List.getElem?_append_right (Nat.le_refl _), Nat.sub_self]
  rfl
theorem parts_l (K : Nat) (x y : List S28) (hx : x.length ≤ 1000) (a b p q : Int) (hp : IntKind.i64.wrap (Int.tmod a 16) = p) (hq : IntKind.i64.wrap (IntKind.i64.wrap (Int.tmod b 11) + 1) = q) (P : S28 → Bool) (hP : ∀ e, P e = true ↔ e.f1 = p ∧ e.f2 = q) (hy : y = x.filter P) (g : Int → Option Bool) : ∀ (d n i : Nat), i + d = x.length → d < n →
    confidantlaw23_TraceParts.l0 K x y a b g n (((x.take i).filter P).length : Int) (i : Int) = g ((x.filter P).length : Int) := by
  subst hy
  intro d
  induction d with
  | zero =>
    intro n i hd hn
    obtain ⟨n, rfl⟩ : ∃ k, n = k + 1 := ⟨n - 1, by omega⟩
    rw [confidantlaw23_TraceParts.l0.eq_2, if_neg (by omega), List.take_of_length_le (by omega)]
  | succ d ih =>
    intro n i hd hn
    obtain ⟨n, rfl⟩ : ∃ k, n = k + 1 := ⟨n - 1, by omega⟩
    have hi : i < x.length := by omega
    have hw : IntKind.i64.wrap ((i : Int) + 1) = ((i + 1 : Nat) : Int) := by rw [w64_id (by omega) (by omega)]; omega
    have e : x.getD i zS28 = x[i] := by simp [List.getD, hi]
    have hc : ((x.take i).filter P).length ≤ 1000 := by
      have := List.length_filter_le P (x.take i)
      rw [List.length_take] at this
      omega
    have hwc : IntKind.i64.wrap ((((x.take i).filter P).length : Int) + 1) = ((((x.take i).filter P).length + 1 : Nat) : Int) := by rw [w64_id (by omega) (by omega)]; omega
    have e2 : x.take (i + 1) = x.take i ++ [x[i]] := by rw [List.take_add_one]; simp [hi]
    have next := ih n (i + 1) (by omega) (by omega)
    rw [e2, List.filter_append] at next
    rw [confidantlaw23_TraceParts.l0.eq_2, if_pos (by omega)]
    simp only [lt, Int.toNat_natCast, hw, hwc, hp, hq, e]
    by_cases h : P x[i] = true
    · obtain ⟨f1, f2⟩ := filter_at P x i hi h
      have hh := (hP x[i]).1 h
      have e3 : List.filter P [x[i]] = [x[i]] := by simp [h]
      rw [e3, List.length_append, List.length_singleton] at next
      rw [if_pos (by omega), if_pos hh.1, decide_eq_true hh.2, if_pos rfl, if_neg (by omega), if_pos (by omega), if_pos (by omega), f2]
      simp only [beq_self_eq_true, Bool.and_self, Bool.not_true, Bool.false_eq_true, if_false]
      rw [if_pos (by omega)]
      exact next
    · have hn' : ¬ (x[i].f1 = p ∧ x[i].f2 = q) := fun q => h ((hP _).2 q)
      have e3 : List.filter P [x[i]] = [] := by simp [h]
      rw [e3, List.append_nil] at next
      rw [if_pos (by omega)]
      by_cases h1 : x[i].f1 = p
      · rw [if_pos h1, decide_eq_false (fun q => hn' ⟨h1, q⟩), if_neg (by simp)]
        exact next
      · rw [if_neg h1, if_neg (by simp)]
        exact next
theorem TraceParts : confidantlaw23_TraceParts.Pure := by
  intro l a b hl hl2 ha hb
  obtain ⟨K, hK, hk⟩ := known_p
  refine ⟨K, ?_⟩
  unfold confidantlaw23_TraceParts.f
  rw [hk]
  simp only [b1]
  rw [if_pos trivial]
  by_cases h30 : (l.length : Int) > 30
  · rw [if_pos h30]
  rw [if_neg h30, some_f K (by omega) l (by omega)]
  have hm : (l.map sm).length = l.length := List.length_map _
  simp only [lt]
  generalize hp : IntKind.i64.wrap (Int.tmod a 16) = p
  generalize hq : IntKind.i64.wrap (IntKind.i64.wrap (Int.tmod b 11) + 1) = q
  have hr : ∀ x ∈ l.map sm, 1 ≤ x.f2 ∧ x.f2 ≤ 11 := by
    intro x hx
    obtain ⟨z, hz, rfl⟩ := List.mem_map.1 hx
    obtain ⟨o0, o1, o2, o3, _⟩ := hl2 z hz
    exact (sm_rt z ⟨is_u8 o0, is_u8 o1, is_u8 o2, is_u8 o3⟩).1.2.2.1
  generalize l.map sm = x at hm hr
  have hx : x.length ≤ 1000 := by omega
  have o1 : (of_ x [p]).length ≤ 1000 := Nat.le_trans (List.length_filter_le _ _) hx
  have o2 : (kd_ x [q]).length ≤ 1000 := Nat.le_trans (List.length_filter_le _ _) hx
  have o3 : (kd_ (of_ x [p]) [q]).length ≤ 1000 := Nat.le_trans (List.length_filter_le _ _) o1
  rw [of__f K (by omega) x hx [p] (by simp)]
  simp only
  rw [kd__f K (by omega) _ o1 [q] (by simp), kd__f K (by omega) x hx [q] (by simp)]
  simp only
  rw [of__f K (by omega) _ o2 [p] (by simp)]
  simp only
  have hy : kd_ (of_ x [p]) [q] = x.filter (fun r => decide (r.f2 ∈ [q]) && decide (r.f1 ∈ [p])) := by unfold kd_ of_; rw [List.filter_filter]
  have hz : of_ (kd_ x [q]) [p] = kd_ (of_ x [p]) [q] := by
    rw [hy]
    unfold kd_ of_
    rw [List.filter_filter]
    congr 1
    funext r
    exact Bool.and_comm _ _
  have hP : ∀ e : S28, (decide (e.f2 ∈ [q]) && decide (e.f1 ∈ [p])) = true ↔ e.f1 = p ∧ e.f2 = q := fun e => by
    simp only [List.mem_singleton, Bool.and_eq_true, decide_eq_true_eq]
    exact And.comm
  refine Eq.trans (parts_l K x _ hx a b p q hp hq _ hP hy _ x.length K 0 (by omega) (by omega)) ?_
  have hd : IntKind.i64.wrap (Int.tdiv (x.length : Int) 2) = ((x.length / 2 : Nat) : Int) := by
    rw [Int.tdiv_eq_ediv_of_nonneg (by omega), w64_id (by omega) (by omega)]; omega
  have t1 : (x.take (x.length / 2)).length ≤ 1000 := by rw [List.length_take]; omega
  have t2 : (x.drop (x.length / 2)).length ≤ 1000 := by rw [List.length_drop]; omega
  unfold trace_New.f
  simp only [hd, Int.toNat_natCast]
  rw [if_pos (by omega), if_pos (by omega), add_f K [] _ (by simp) t1]
  simp only [List.nil_append]
  rw [add_f K _ _ t1 t2, List.take_append_drop, hz]
  simp only
  rw [← hy, if_pos rfl, same_f K (by omega) _ o3]
  simp only
  rw [if_pos trivial, all_f K x hx]
  simp only [b2]
  rw [same_f K (by omega) x hx]
  simp only
  rw [if_pos trivial, of__f K (by omega) x hx [] (by simp)]
  have e1 : (of_ x []).length = 0 := by unfold of_; simp
  have e2 : (kd_ x [0, 12]).length = 0 := by
    unfold kd_
    rw [List.length_eq_zero_iff, List.filter_eq_nil_iff]
    intro r hr2
    have := hr r hr2
    simp only [decide_eq_true_eq, List.mem_cons, List.not_mem_nil, or_false]
    omega
  simp only [e1]
  rw [if_pos (by omega), kd__f K (by omega) x hx [0, 12] (by simp)]
  simp only [e2]
  rfl
end Go.Proofs.YtocdpimpkifdmaaDoor.Pure
