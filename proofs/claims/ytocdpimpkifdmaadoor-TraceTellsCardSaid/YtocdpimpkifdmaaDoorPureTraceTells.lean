import Derived.Test.YtocdpimpkifdmaaDoorTrace2
import Derived.Test.YtocdpimpkifdmaaDoorPack4
import Derived.Test.YtocdpimpkifdmaaDoorTraceTl
import Derived.Test.YtocdpimpkifdmaaDoorG3
import Derived.Test.YtocdpimpkifdmaaDoorG4
/- Events: what the program tells is what the document does. No condition. -/
set_option linter.unusedVariables false
set_option linter.unusedSimpArgs false
namespace Go.Proofs.YtocdpimpkifdmaaDoor.Trace
open Go Go.Fw Go.RowKit Go.Proofs.YtocdpimpkifdmaaDoor.G Go.Proofs.YtocdpimpkifdmaaDoor.Pack

theorem in_l (K : Nat) (l : List Int) (hl : l.length ≤ 1000) (x : Int) : ∀ (d n i : Nat), i + d = l.length → d < n → (∀ j, j < i → l.getD j 0 ≠ x) → confidantref21_in.l0 K l x n (i : Int) = some (decide (x ∈ l))
  | 0, n, i, hd, hn, h => by
    obtain ⟨n, rfl⟩ : ∃ k, n = k + 1 := ⟨n - 1, by omega⟩
    rw [confidantref21_in.l0.eq_2, if_neg (by omega), decide_eq_false]
    intro hx
    obtain ⟨j, hj, rfl⟩ := List.mem_iff_getElem.1 hx
    exact absurd (by simp [List.getD, hj]) (h j (by omega))
  | d + 1, n, i, hd, hn, h => by
    obtain ⟨n, rfl⟩ : ∃ k, n = k + 1 := ⟨n - 1, by omega⟩
    have hi : i < l.length := by omega
    have e : l.getD i 0 = l[i] := by simp [List.getD, hi]
    rw [confidantref21_in.l0.eq_2, if_pos (by omega), if_pos (by omega), Int.toNat_natCast]
    by_cases hx : l.getD i 0 = x
    · rw [if_pos hx, decide_eq_true (by rw [← hx, e]; exact List.getElem_mem hi)]
    · rw [if_neg hx, w64_id (by omega) (by omega), show ((i : Int) + 1) = ((i + 1 : Nat) : Int) by omega]
      refine in_l K l hl x d n (i + 1) (by omega) (by omega) (fun j hj => ?_)
      by_cases hji : j = i
      · subst hji; exact hx
      · exact h j (by omega)
theorem in_f (K : Nat) (hK : 2000 ≤ K) (l : List Int) (hl : l.length ≤ 1000) (x : Int) : confidantref21_in.f K l x = some (decide (x ∈ l)) := in_l K l hl x l.length K 0 (by omega) (by omega) (fun j hj => by omega)

theorem eof__l (K : Nat) (hK : 2000 ≤ K) (l : List S28) (hl : l.length ≤ 1000) (tt : List Int) (ht : tt.length ≤ 1000) : ∀ (d n i : Nat), i + d = l.length → d < n → confidantref21_EventsOf.l0 K l tt n (of_ (l.take i) tt) (i : Int) = some (of_ l tt)
  | 0, n, i, hd, hn => by
    obtain ⟨n, rfl⟩ : ∃ k, n = k + 1 := ⟨n - 1, by omega⟩
    rw [confidantref21_EventsOf.l0.eq_2, if_neg (by omega), List.take_of_length_le (by omega)]
  | d + 1, n, i, hd, hn => by
    obtain ⟨n, rfl⟩ : ∃ k, n = k + 1 := ⟨n - 1, by omega⟩
    have hi : i < l.length := by omega
    have e : l.getD (i : Int).toNat zS28 = l[i] := by simp [List.getD, hi]
    have e2 : l.take (i + 1) = l.take i ++ [l[i]] := by rw [List.take_add_one]; simp [hi]
    have hlen : (of_ (l.take i) tt).length ≤ l.length := by
      unfold of_
      refine Nat.le_trans (List.length_filter_le _ _) ?_
      rw [List.length_take]; omega
    rw [confidantref21_EventsOf.l0.eq_2, if_pos (by omega)]
    simp only [lt]
    rw [if_pos (by omega), e, in_f K hK tt ht]
    simp only [b1, List.length_singleton]
    have next := eof__l K hK l hl tt ht d n (i + 1) (by omega) (by omega)
    rw [e2] at next
    unfold of_ at next hlen ⊢
    rw [List.filter_append] at next
    rw [w64_id (by omega) (by omega), show ((i : Int) + 1) = ((i + 1 : Nat) : Int) by omega]
    by_cases h : l[i].f1 ∈ tt
    · rw [if_pos (decide_eq_true h), if_pos (by omega)]
      have e3 : List.filter (fun r => decide (r.f1 ∈ tt)) [l[i]] = [l[i]] := by simp [h]
      rw [e3] at next
      exact next
    · rw [if_neg (by simpa using h)]
      have e3 : List.filter (fun r => decide (r.f1 ∈ tt)) [l[i]] = [] := by simp [h]
      rw [e3, List.append_nil] at next
      exact next
theorem eof__f (K : Nat) (hK : 2000 ≤ K) (l : List S28) (hl : l.length ≤ 1000) (tt : List Int) (ht : tt.length ≤ 1000) : confidantref21_EventsOf.f K l tt = some (of_ l tt) := by
  unfold confidantref21_EventsOf.f
  have h := eof__l K hK l hl tt ht l.length K 0 (by omega) (by omega)
  have e : of_ (l.take 0) tt = [] := rfl
  rw [e] at h
  exact h


theorem ekd__l (K : Nat) (hK : 2000 ≤ K) (l : List S28) (hl : l.length ≤ 1000) (tt : List Int) (ht : tt.length ≤ 1000) : ∀ (d n i : Nat), i + d = l.length → d < n → confidantref21_Kinds.l0 K l tt n (kd_ (l.take i) tt) (i : Int) = some (kd_ l tt)
  | 0, n, i, hd, hn => by
    obtain ⟨n, rfl⟩ : ∃ k, n = k + 1 := ⟨n - 1, by omega⟩
    rw [confidantref21_Kinds.l0.eq_2, if_neg (by omega), List.take_of_length_le (by omega)]
  | d + 1, n, i, hd, hn => by
    obtain ⟨n, rfl⟩ : ∃ k, n = k + 1 := ⟨n - 1, by omega⟩
    have hi : i < l.length := by omega
    have e : l.getD (i : Int).toNat zS28 = l[i] := by simp [List.getD, hi]
    have e2 : l.take (i + 1) = l.take i ++ [l[i]] := by rw [List.take_add_one]; simp [hi]
    have hlen : (kd_ (l.take i) tt).length ≤ l.length := by
      unfold kd_
      refine Nat.le_trans (List.length_filter_le _ _) ?_
      rw [List.length_take]; omega
    rw [confidantref21_Kinds.l0.eq_2, if_pos (by omega)]
    simp only [lt]
    rw [if_pos (by omega), e, in_f K hK tt ht]
    simp only [b1, List.length_singleton]
    have next := ekd__l K hK l hl tt ht d n (i + 1) (by omega) (by omega)
    rw [e2] at next
    unfold kd_ at next hlen ⊢
    rw [List.filter_append] at next
    rw [w64_id (by omega) (by omega), show ((i : Int) + 1) = ((i + 1 : Nat) : Int) by omega]
    by_cases h : l[i].f2 ∈ tt
    · rw [if_pos (decide_eq_true h), if_pos (by omega)]
      have e3 : List.filter (fun r => decide (r.f2 ∈ tt)) [l[i]] = [l[i]] := by simp [h]
      rw [e3] at next
      exact next
    · rw [if_neg (by simpa using h)]
      have e3 : List.filter (fun r => decide (r.f2 ∈ tt)) [l[i]] = [] := by simp [h]
      rw [e3, List.append_nil] at next
      exact next
theorem ekd__f (K : Nat) (hK : 2000 ≤ K) (l : List S28) (hl : l.length ≤ 1000) (tt : List Int) (ht : tt.length ≤ 1000) : confidantref21_Kinds.f K l tt = some (kd_ l tt) := by
  unfold confidantref21_Kinds.f
  have h := ekd__l K hK l hl tt ht l.length K 0 (by omega) (by omega)
  have e : kd_ (l.take 0) tt = [] := rfl
  rw [e] at h
  exact h

theorem eput_l (K : Nat) (hK : 100 ≤ K) (l : List S28) (hl : l.length ≤ 10000) (hs : ∀ e ∈ l, Sm e) (A : List Int) (hA : A.length ≤ 100) : ∀ (d n i : Nat), i + d = l.length → d < n →
    confidantref21_EventsPut.l0 K l n (A ++ body (l.take i)) (i : Int) = some (if all (l.drop i) = true then A ++ body l else []) := by
  intro d
  induction d with
  | zero =>
    intro n i hd hn
    obtain ⟨n, rfl⟩ : ∃ k, n = k + 1 := ⟨n - 1, by omega⟩
    rw [confidantref21_EventsPut.l0.eq_2, if_neg (by omega), List.drop_of_length_le (by omega), if_pos (show all [] = true from rfl), List.take_of_length_le (by omega)]
  | succ d ih =>
    intro n i hd hn
    obtain ⟨n, rfl⟩ : ∃ k, n = k + 1 := ⟨n - 1, by omega⟩
    have hi : i < l.length := by omega
    have hw : IntKind.i64.wrap ((i : Int) + 1) = ((i + 1 : Nat) : Int) := by rw [w64_id (by omega) (by omega)]; omega
    have hsm : Sm (l.getD i zS28) := by
      rw [List.getD_eq_getElem?_getD, List.getElem?_eq_getElem hi]
      exact hs _ (List.getElem_mem hi)
    have hdr : all (l.drop i) = (decide (Rt (l.getD i zS28)) && all (l.drop (i + 1))) := by
      rw [List.drop_eq_getElem_cons hi]
      unfold all
      rw [List.all_cons]
      simp [List.getD, hi]
    rw [confidantref21_EventsPut.l0.eq_2, if_pos (by omega), if_pos (by omega)]
    unfold confidantref1_Int.f
    simp only [Int.toNat_natCast, hw, eright_f, b1, decide_eq_true_eq, lt]
    by_cases hr : Rt (l.getD i zS28)
    · rw [if_pos hr, row_f _ hr hsm]
      rw [rput_f K (ns (l.getD i zS28)) (ns_u _ hr hsm) (by show 7 ≤ 10000; omega) (by omega) (by show 7 < K; omega)]
      simp only
      have h1 := body_len (l.take i)
      have h2 := encs_len (ns (l.getD i zS28))
      have h3 : (ns (l.getD i zS28)).length = 7 := rfl
      have h4 : (l.take i).length ≤ l.length := by rw [List.length_take]; omega
      rw [if_pos (by rw [List.length_append]; omega), List.append_assoc, ← body_take l i hi, ih n (i + 1) (by omega) (by omega)]
      rw [hdr, decide_eq_true hr, Bool.true_and]
    · rw [if_neg hr, hdr, decide_eq_false hr, Bool.false_and, if_neg (by simp)]
theorem eputs_f (K : Nat) (hK : 100 ≤ K) (l : List S28) (hl : l.length ≤ 10000) (hl2 : l.length < K) (hs : ∀ e ∈ l, Sm e) : confidantref21_EventsPut.f K l = some (if all l = true then enc l.length ++ body l else []) := by
  unfold confidantref21_EventsPut.f
  have h1 : ([IntKind.u64.wrap (l.length : Int)] : List Int) = ints [l.length] := by rw [wu64_id (by omega) (by omega)]; rfl
  simp only [lt, h1]
  rw [rput_f K [l.length] (fun n hn => by have := List.mem_singleton.1 hn; omega) (by show 1 ≤ 10000; omega) (by omega) (by show 1 < K; omega)]
  simp only [b1]
  have he : encs [l.length] = enc l.length ++ body (l.take 0) := by unfold encs encs body; simp
  rw [he]
  exact eput_l K hK l hl hs (enc l.length) (by have := enc_len l.length; omega) l.length K 0 (by omega) hl2
end Go.Proofs.YtocdpimpkifdmaaDoor.Trace
namespace Go.Proofs.YtocdpimpkifdmaaDoor.Pure
open Go Go.Fw Go.RowKit Go.Proofs.YtocdpimpkifdmaaDoor.G Go.Proofs.YtocdpimpkifdmaaDoor.Pack Go.Proofs.YtocdpimpkifdmaaDoor.Trace

theorem known_l : ∃ K, 5000 ≤ K ∧ confidantlaw23_known.f K = some true ∧ trace_names.f K = some NM := ⟨5000, Nat.le_refl _, by kernel_rfl, by kernel_rfl⟩
theorem tells_2 (K : Nat) (hK : 5000 ≤ K) (hnm : trace_names.f K = some NM) (zs : List (List S28)) (i2 : Nat) (z : List S28) (hz : zs.getD i2 [] = z) (hl : z.length ≤ 1000) (hs : ∀ e ∈ z, Sm e) (g : List S28 → List Int → List Int → Option Bool) (p : List S28) (q r : List Int) : ∀ (d n i : Nat), i + d = z.length → d < n →
    confidantlaw23_TraceTells.l2 K zs (i2 : Int) g p q r n (i : Int) = g p q r := by
  intro d
  induction d with
  | zero =>
    intro n i hd hn
    obtain ⟨n, rfl⟩ : ∃ k, n = k + 1 := ⟨n - 1, by omega⟩
    rw [confidantlaw23_TraceTells.l2.eq_2, Int.toNat_natCast, hz, if_neg (by omega)]
  | succ d ih =>
    intro n i hd hn
    obtain ⟨n, rfl⟩ : ∃ k, n = k + 1 := ⟨n - 1, by omega⟩
    have hi : i < z.length := by omega
    have hw : IntKind.i64.wrap ((i : Int) + 1) = ((i + 1 : Nat) : Int) := by rw [w64_id (by omega) (by omega)]; omega
    have hsm : Sm (z.getD i zS28) := by
      rw [List.getD_eq_getElem?_getD, List.getElem?_eq_getElem hi]
      exact hs _ (List.getElem_mem hi)
    rw [confidantlaw23_TraceTells.l2.eq_2, Int.toNat_natCast, hz, if_pos (by omega)]
    simp only [lt, Int.toNat_natCast, hw, right_f, eright_f, text_f K (by omega) hnm _ hsm, etext_f K (by omega) _ hsm, b1]
    rw [if_pos (by omega), if_pos (beq_self_eq_true _), beq_self_eq_true]
    exact ih n (i + 1) (by omega) (by omega)
theorem tells_1 (K : Nat) (hK : 5000 ≤ K) (hnm : trace_names.f K = some NM) (zs : List (List S28)) (hzs : zs.length ≤ 100) (h : ∀ z ∈ zs, z.length ≤ 1000 ∧ ∀ e ∈ z, Sm e) (few m : List Int) (hf : few.length ≤ 1000) (hm : m.length ≤ 1000) : ∀ (d n i : Nat), i + d = zs.length → d < n →
    confidantlaw23_TraceTells.l1 K zs few n m (i : Int) = some true := by
  intro d
  induction d with
  | zero =>
    intro n i hd hn
    obtain ⟨n, rfl⟩ : ∃ k, n = k + 1 := ⟨n - 1, by omega⟩
    rw [confidantlaw23_TraceTells.l1.eq_2, if_neg (by omega)]
  | succ d ih =>
    intro n i hd hn
    obtain ⟨n, rfl⟩ : ∃ k, n = k + 1 := ⟨n - 1, by omega⟩
    have hi : i < zs.length := by omega
    have hw : IntKind.i64.wrap ((i : Int) + 1) = ((i + 1 : Nat) : Int) := by rw [w64_id (by omega) (by omega)]; omega
    obtain ⟨hl, hs⟩ : (zs.getD i []).length ≤ 1000 ∧ ∀ e ∈ zs.getD i [], Sm e := by
      rw [List.getD_eq_getElem?_getD, List.getElem?_eq_getElem hi]
      exact h _ (List.getElem_mem hi)
    have h2 := tells_2 K hK hnm zs i (zs.getD i []) rfl hl hs
    rw [confidantlaw23_TraceTells.l1.eq_2, if_pos (by omega)]
    unfold trace_New.f
    have o1 : (of_ (zs.getD i []) m).length ≤ 1000 := Nat.le_trans (List.length_filter_le _ _) hl
    have o2 : (kd_ (zs.getD i []) m).length ≤ 1000 := Nat.le_trans (List.length_filter_le _ _) hl
    have o3 : (of_ (zs.getD i []) few).length ≤ 1000 := Nat.le_trans (List.length_filter_le _ _) hl
    simp only [lt, Int.toNat_natCast, hw, b1]
    rw [if_pos (by omega), add_f K [] _ (by simp) hl]
    simp only [List.nil_append]
    rw [tput_f K (by omega) _ (by omega) (by omega) hs, eputs_f K (by omega) _ (by omega) (by omega) hs]
    simp only
    rw [if_pos (beq_self_eq_true _), all_f K _ hl]
    simp only [b2]
    rw [same_f K (by omega) _ hl]
    simp only
    rw [if_pos trivial, of__f K (by omega) _ hl m hm, eof__f K (by omega) _ hl m hm]
    simp only
    rw [same_f K (by omega) _ o1]
    simp only
    rw [if_pos trivial, kd__f K (by omega) _ hl m hm, ekd__f K (by omega) _ hl m hm]
    simp only
    rw [same_f K (by omega) _ o2]
    simp only
    rw [if_pos trivial, of__f K (by omega) _ hl few hf, eof__f K (by omega) _ hl few hf]
    simp only
    rw [same_f K (by omega) _ o3]
    simp only [Bool.not_true, Bool.false_eq_true, if_false]
    refine Eq.trans (h2 _ _ _ _ (zs.getD i []).length K 0 (by omega) (by omega)) ?_
    exact ih n (i + 1) (by omega) (by omega)
theorem tells_0 (K : Nat) (few : List Int) (hf : few.length ≤ 1000) (g : List Int → Option Bool) (hg : ∀ m : List Int, m.length ≤ 1000 → g m = some true) : ∀ (d n i : Nat) (m : List Int), i + d = few.length → d < n → m.length = i → confidantlaw23_TraceTells.l0 K few g n m (i : Int) = some true := by
  intro d
  induction d with
  | zero =>
    intro n i m hd hn hm
    obtain ⟨n, rfl⟩ : ∃ k, n = k + 1 := ⟨n - 1, by omega⟩
    rw [confidantlaw23_TraceTells.l0.eq_2, if_neg (by omega)]
    exact hg m (by omega)
  | succ d ih =>
    intro n i m hd hn hm
    obtain ⟨n, rfl⟩ : ∃ k, n = k + 1 := ⟨n - 1, by omega⟩
    have hw : IntKind.i64.wrap ((i : Int) + 1) = ((i + 1 : Nat) : Int) := by rw [w64_id (by omega) (by omega)]; omega
    rw [confidantlaw23_TraceTells.l0.eq_2, if_pos (by omega), if_pos (by omega)]
    simp only [lt, hw, List.length_singleton]
    rw [if_pos (by omega)]
    exact ih n (i + 1) _ (by omega) (by omega) (by rw [List.length_append, List.length_singleton]; omega)
theorem TraceTells : confidantlaw23_TraceTells.Pure := by
  intro raw l k w few v hraw hraw2 hl hl2 hk hw hf hf2 hv
  obtain ⟨K, hK, hkn, hnm⟩ := known_l
  refine ⟨K, ?_⟩
  unfold confidantlaw23_TraceTells.f
  rw [hkn]
  simp only [b1]
  rw [if_pos trivial]
  simp only [lt]
  by_cases c1 : (raw.length : Int) > 20
  · rw [if_pos c1, if_pos trivial]
  rw [if_neg c1]
  by_cases c2 : (l.length : Int) > 30
  · rw [if_pos c2, if_pos trivial]
  rw [if_neg c2]
  by_cases c3 : (few.length : Int) > 8
  · rw [decide_eq_true c3, if_pos rfl]
  rw [decide_eq_false c3, if_neg (by simp), some_f K (by omega) l (by omega)]
  have hx : ∀ x ∈ l.map sm, Sm x := by
    intro x hx
    obtain ⟨z, hz, rfl⟩ := List.mem_map.1 hx
    obtain ⟨o0, o1, o2, o3, _⟩ := hl2 z hz
    exact (sm_rt z ⟨is_u8 o0, is_u8 o1, is_u8 o2, is_u8 o3⟩).2
  have hlen : (l.map sm).length ≤ 30 := by rw [List.length_map]; omega
  generalize l.map sm = x at hx hlen
  have hrs : ∀ e ∈ raw, Sm e := fun e he => by
    obtain ⟨_, _, _, _, p4, p5, p6, _⟩ := hraw2 e he
    exact ⟨is_i32 p4, is_i32 p5, is_i32 p6⟩
  have main : ∀ y : List S28, y.length ≤ 30 → (∀ e ∈ y, Sm e) → confidantlaw23_TraceTells.l0 K few (fun e9 => confidantlaw23_TraceTells.l1 K [raw, x, y] few K e9 0) K ([] : List Int) 0 = some true := fun y hy hy2 => by
    refine tells_0 K few (by omega) _ (fun m hm => ?_) few.length K 0 [] (by omega) (by omega) rfl
    refine tells_1 K hK hnm [raw, x, y] (by simp) ?_ few m (by omega) hm 3 K 0 (by simp) (by omega)
    intro z hz
    simp only [List.mem_cons, List.not_mem_nil, or_false] at hz
    rcases hz with rfl | rfl | rfl
    · exact ⟨by omega, hrs⟩
    · exact ⟨by omega, hx⟩
    · exact ⟨by omega, hy2⟩
  simp only [List.length_nil, Nat.zero_add, List.nil_append]
  rw [if_pos (by omega)]
  by_cases c4 : (x.length : Int) > 0
  · rw [if_pos c4, if_neg (by omega)]
    have uk := is_u8 hk
    have hwk : IntKind.i64.wrap k = k := w64_id (by omega) (by omega)
    have hmod : 0 ≤ Int.tmod k (x.length : Int) ∧ Int.tmod k (x.length : Int) < (x.length : Int) := by
      rw [Int.tmod_eq_emod_of_nonneg uk.1]
      exact ⟨Int.emod_nonneg _ (by omega), Int.emod_lt_of_pos _ (by omega)⟩
    simp only [hwk]
    have hat : Sm (x.getD (Int.tmod k (x.length : Int)).toNat zS28) := by
      rw [List.getD_eq_getElem?_getD, List.getElem?_eq_getElem (by omega)]
      exact hx _ (List.getElem_mem _)
    have put : ∀ (j : Nat) (e : S28), Sm e → confidantlaw23_TraceTells.l0 K few (fun e9 => confidantlaw23_TraceTells.l1 K [raw, x, x.set j e] few K e9 0) K ([] : List Int) 0 = some true := fun j e he =>
      main (x.set j e) (by rw [List.length_set]; exact hlen) (fun z hz => by
        rcases List.mem_or_eq_of_mem_set hz with hz | rfl
        · exact hx z hz
        · exact he)
    have hwv : i32r (IntKind.i32.wrap v) := by unfold i32r; rw [w32]; omega
    by_cases d0 : Int.tmod w 5 = 0
    · rw [if_pos d0, if_pos hmod.1, if_pos hmod.2]; exact put _ _ hat
    rw [if_neg d0]
    by_cases d1 : Int.tmod w 5 = 1
    · rw [if_pos d1, if_pos hmod.1, if_pos hmod.2]; exact put _ _ hat
    rw [if_neg d1]
    by_cases d2 : Int.tmod w 5 = 2
    · rw [if_pos d2, if_pos hmod.1, if_pos hmod.2]; exact put _ _ hat
    rw [if_neg d2]
    by_cases d3 : Int.tmod w 5 = 3
    · rw [if_pos d3, if_pos hmod.1, if_pos hmod.2]; exact put _ _ hat
    rw [if_neg d3, if_pos hmod.1, if_pos hmod.2]
    exact put _ _ ⟨hwv, hat.2⟩
  · rw [if_neg c4]
    exact main x hlen hx
end Go.Proofs.YtocdpimpkifdmaaDoor.Pure
