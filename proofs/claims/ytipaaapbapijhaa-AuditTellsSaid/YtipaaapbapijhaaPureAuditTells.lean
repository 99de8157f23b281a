import Derived.Test.YtipaaapbapijhaaG0
import Derived.Test.YtipaaapbapijhaaG1
import Derived.Test.YtipaaapbapijhaaG2
import Derived.Test.YtipaaapbapijhaaG3
import Derived.Test.YtipaaapbapijhaaG5
import Derived.Test.YtipaaapbapijhaaRight
/- Which records may be, their bytes, which went to whom: as the document tells. No condition. -/
set_option linter.unusedVariables false
set_option linter.unusedSimpArgs false
namespace Go.Proofs.Ytipaaapbapijhaa.Pure
open Go Go.Fw Go.RowKit Go.Proofs.Ytipaaapbapijhaa.G Go.Proofs.Ytipaaapbapijhaa.Pack Go.Proofs.Ytipaaapbapijhaa.Right

theorem lt_all {α β : Type} {e : α} {b : α → Option β} {r : Option β} (P : α → Prop) (he : P e) (hb : ∀ x, P x → b x = r) : lt e b = r := hb e he
theorem eta (x : S69) : (⟨x.f0, x.f1, x.f2, x.f3, x.f4, x.f5⟩ : S69) = x := rfl
theorem wf64 {x : Int} (h : -9223372036854775808 ≤ x) (h' : x ≤ 9223372036854775807) : (Lit.int .i64 x).wf = true := by
  simp [Lit.wf, IntKind.min, IntKind.max, IntKind.signed, IntKind.bits]; omega
theorem wf32 {x : Int} (h : -2147483648 ≤ x) (h' : x ≤ 2147483647) : (Lit.int .i32 x).wf = true := by
  simp [Lit.wf, IntKind.min, IntKind.max, IntKind.signed, IntKind.bits]; omega
theorem ww32 (x : Int) : (Lit.int .i32 (IntKind.i32.wrap x)).wf = true := by rw [w32]; exact wf32 (by omega) (by omega)
theorem wa64 (x y : Int) : (Lit.int .i64 (bA .i64 x y)).wf = true := by unfold bA; rw [w64]; exact wf64 (by omega) (by omega)

/-! ### bytes -/
theorem u64n (x : Int) : ∃ n : Nat, IntKind.u64.wrap x = (n : Int) ∧ n < 18446744073709551616 := by
  refine ⟨(x % 18446744073709551616).toNat, ?_, by omega⟩
  rw [wu64]; omega
theorem six (a b c d e f : Int) : ∃ ns : List Nat, U64 ns ∧ ns.length = 6 ∧ [IntKind.u64.wrap a, IntKind.u64.wrap b, IntKind.u64.wrap c, IntKind.u64.wrap d, IntKind.u64.wrap e, IntKind.u64.wrap f] = ints ns := by
  obtain ⟨n1, h1, g1⟩ := u64n a
  obtain ⟨n2, h2, g2⟩ := u64n b
  obtain ⟨n3, h3, g3⟩ := u64n c
  obtain ⟨n4, h4, g4⟩ := u64n d
  obtain ⟨n5, h5, g5⟩ := u64n e
  obtain ⟨n6, h6, g6⟩ := u64n f
  refine ⟨[n1, n2, n3, n4, n5, n6], ?_, rfl, by rw [h1, h2, h3, h4, h5, h6]; rfl⟩
  intro n hn
  simp only [List.mem_cons, List.not_mem_nil, or_false] at hn
  rcases hn with rfl | rfl | rfl | rfl | rfl | rfl <;> assumption
theorem putl (K : Nat) (hK : 2000 ≤ K) (z : List S69) (hz : Fit z) : ∀ (d n i : Nat) (a : List Int), i + d = z.length → d < n → a.length ≤ 20 + 66 * i →
    ∃ out, audit_Put.l0 K z n a (i : Int) = some out ∧ confidantref21_AuditPut.l0 K z n a (i : Int) = some out
  | 0, n, i, a, hd, hn, ha => by
    obtain ⟨n, rfl⟩ : ∃ k, n = k + 1 := ⟨n - 1, by omega⟩
    rw [audit_Put.l0.eq_2, confidantref21_AuditPut.l0.eq_2, if_neg (by omega), if_neg (by omega)]
    exact ⟨a, rfl, rfl⟩
  | d + 1, n, i, a, hd, hn, ha => by
    obtain ⟨n, rfl⟩ : ∃ k, n = k + 1 := ⟨n - 1, by omega⟩
    have hi : i < z.length := by omega
    have hlen := hz.len
    have e : z.getD i zS69 = z[i] := by simp [List.getD, hi]
    obtain ⟨ns, hU, h6, hns⟩ := six z[i].f0 z[i].f1 z[i].f2 (IntKind.u32.wrap z[i].f3) z[i].f4 z[i].f5
    have hel := encs_len ns
    obtain ⟨out, g1, g2⟩ := putl K hK z hz d n (i + 1) (a ++ encs ns) (by omega) (by omega) (by rw [List.length_append]; omega)
    refine ⟨out, ?_, ?_⟩
    · rw [audit_Put.l0.eq_2, if_pos (by omega), if_pos (by omega)]
      simp only [lt, Int.toNat_natCast, e]
      rw [hns, put_f K ns hU (by omega) (by omega) (by omega)]
      simp only [b1]
      rw [if_pos (by omega), w64_id (by omega) (by omega), show ((i : Int) + 1) = ((i + 1 : Nat) : Int) by omega]
      exact g1
    · rw [confidantref21_AuditPut.l0.eq_2, if_pos (by omega), if_pos (by omega)]
      unfold confidantref1_Int.f
      simp only [lt, Int.toNat_natCast, e, b1]
      rw [hns, rput_f K ns hU (by omega) (by omega) (by omega)]
      simp only
      rw [if_pos (by omega), w64_id (by omega) (by omega), show ((i : Int) + 1) = ((i + 1 : Nat) : Int) by omega]
      exact g2
theorem putf (K : Nat) (hK : 2000 ≤ K) (z : List S69) (hz : Fit z) : ∃ out, audit_Put.f K z = some out ∧ confidantref21_AuditPut.f K z = some out := by
  have hlen := hz.len
  unfold audit_Put.f confidantref21_AuditPut.f
  rw [right_f K hK z hz, rright_f K hK z hz]
  simp only [b1]
  by_cases h : RightFrom z 0
  · rw [if_pos (decide_eq_true h), if_pos (decide_eq_true h)]
    obtain ⟨n, h1, g1⟩ := u64n (z.length : Int)
    have hns : [IntKind.u64.wrap (z.length : Int)] = ints [n] := by rw [h1]; rfl
    have hU : U64 [n] := fun m hm => by rw [List.mem_singleton.1 hm]; exact g1
    have hel := encs_len [n]
    simp only [lt, hns]
    rw [put_f K [n] hU (by simp) (by omega) (by simp; omega), rput_f K [n] hU (by simp) (by omega) (by simp; omega)]
    exact putl K hK z hz z.length K 0 (encs [n]) (by omega) (by omega) (by simp at hel; omega)
  · rw [if_neg (by simpa using h), if_neg (by simpa using h)]
    exact ⟨[], rfl, rfl⟩

/-! ### who is among others -/
theorem index_l (K : Nat) (l : List Int) (hl : l.length ≤ 1000) (x : Int) : ∀ (d n i : Nat), i + d = l.length → d < n → (∀ j, j < i → l.getD j 0 ≠ x) →
    ∃ r : Int, slices_Index_int_int.l0 K l x n (i : Int) = some r ∧ (r ≥ 0 ↔ x ∈ l)
  | 0, n, i, hd, hn, h => by
    obtain ⟨n, rfl⟩ : ∃ k, n = k + 1 := ⟨n - 1, by omega⟩
    rw [slices_Index_int_int.l0.eq_2, if_neg (by omega)]
    refine ⟨-1, rfl, by omega, fun hx => ?_⟩
    obtain ⟨j, hj, rfl⟩ := List.mem_iff_getElem.1 hx
    exact absurd (by simp [List.getD, hj]) (h j (by omega))
  | d + 1, n, i, hd, hn, h => by
    obtain ⟨n, rfl⟩ : ∃ k, n = k + 1 := ⟨n - 1, by omega⟩
    have hi : i < l.length := by omega
    have e : l.getD i 0 = l[i] := by simp [List.getD, hi]
    rw [slices_Index_int_int.l0.eq_2, if_pos (by omega), if_pos (by omega), Int.toNat_natCast]
    by_cases hx : x = l.getD i 0
    · rw [if_pos hx]
      exact ⟨(i : Int), rfl, fun _ => by rw [hx, e]; exact List.getElem_mem hi, fun _ => by omega⟩
    · rw [if_neg hx, w64_id (by omega) (by omega), show ((i : Int) + 1) = ((i + 1 : Nat) : Int) by omega]
      refine index_l K l hl x d n (i + 1) (by omega) (by omega) (fun j hj => ?_)
      by_cases hji : j = i
      · subst hji; exact fun g => hx g.symm
      · exact h j (by omega)
theorem contains_f (K : Nat) (hK : 2000 ≤ K) (l : List Int) (hl : l.length ≤ 1000) (x : Int) : slices_Contains_int_int.f K l x = some (decide (x ∈ l)) := by
  unfold slices_Contains_int_int.f slices_Index_int_int.f
  obtain ⟨r, h1, h2⟩ := index_l K l hl x l.length K 0 (by omega) (by omega) (fun j hj => by omega)
  rw [show (0 : Int) = ((0 : Nat) : Int) from rfl, h1]
  simp only [b1]
  congr 1
  exact decide_eq_decide.2 h2
theorem in_l (K : Nat) (l : List Int) (hl : l.length ≤ 1000) (x : Int) : ∀ (d n i : Nat), i + d = l.length → d < n → (∀ j, j < i → l.getD j 0 ≠ x) → confidantref21_in.l0 K l x n (i : Int) = some (decide (x ∈ l))
  | 0, n, i, hd, hn, h => by
    obtain ⟨n, rfl⟩ : ∃ k, n = k + 1 := ⟨n - 1, by omega⟩
    rw [confidantref21_in.l0.eq_2, if_neg (by omega), decide_eq_false]
    intro hx
    obtain ⟨j, hj, rfl⟩ := List.mem_iff_getElem.1 hx
    exact absurd (by simp [List.getD, hj]) (h j (by omega))
  | d + 1, n, i, hd, hn, h => by
    obtain ⟨n, rfl⟩ : ∃ k, n = k + 1 := ⟨n - 1, by omega⟩
    have hi : i < l.length := by omega
    have e : l.getD i 0 = l[i] := by simp [List.getD, hi]
    rw [confidantref21_in.l0.eq_2, if_pos (by omega), if_pos (by omega), Int.toNat_natCast]
    by_cases hx : l.getD i 0 = x
    · rw [if_pos hx, decide_eq_true (by rw [← hx, e]; exact List.getElem_mem hi)]
    · rw [if_neg hx, w64_id (by omega) (by omega), show ((i : Int) + 1) = ((i + 1 : Nat) : Int) by omega]
      refine in_l K l hl x d n (i + 1) (by omega) (by omega) (fun j hj => ?_)
      by_cases hji : j = i
      · subst hji; exact hx
      · exact h j (by omega)
theorem in_f (K : Nat) (hK : 2000 ≤ K) (l : List Int) (hl : l.length ≤ 1000) (x : Int) : confidantref21_in.f K l x = some (decide (x ∈ l)) :=
  in_l K l hl x l.length K 0 (by omega) (by omega) (fun j hj => by omega)
def of_ (l : List S69) (to : List Int) : List S69 := l.filter (fun r => decide (r.f2 ∈ to))
theorem ofa_l (K : Nat) (hK : 2000 ≤ K) (l : List S69) (hl : l.length ≤ 1000) (to : List Int) (ht : to.length ≤ 1000) : ∀ (d n i : Nat), i + d = l.length → d < n → audit_Log_Of.l0 K l to n (of_ (l.take i) to) (i : Int) = some (l, of_ l to)
  | 0, n, i, hd, hn => by
    obtain ⟨n, rfl⟩ : ∃ k, n = k + 1 := ⟨n - 1, by omega⟩
    rw [audit_Log_Of.l0.eq_2, if_neg (by omega), List.take_of_length_le (by omega)]
  | d + 1, n, i, hd, hn => by
    obtain ⟨n, rfl⟩ : ∃ k, n = k + 1 := ⟨n - 1, by omega⟩
    have hi : i < l.length := by omega
    have e : l.getD (i : Int).toNat zS69 = l[i] := by simp [List.getD, hi]
    have e2 : l.take (i + 1) = l.take i ++ [l[i]] := by rw [List.take_add_one]; simp [hi]
    have hlen : (of_ (l.take i) to).length ≤ l.length := by
      unfold of_
      refine Nat.le_trans (List.length_filter_le _ _) ?_
      rw [List.length_take]; omega
    rw [audit_Log_Of.l0.eq_2, if_pos (by omega)]
    simp only [lt]
    rw [if_pos (by omega), e, contains_f K hK to ht]
    simp only [b1, eta, List.length_singleton]
    have next := ofa_l K hK l hl to ht d n (i + 1) (by omega) (by omega)
    rw [e2] at next
    unfold of_ at next hlen ⊢
    rw [List.filter_append] at next
    rw [w64_id (by omega) (by omega), show ((i : Int) + 1) = ((i + 1 : Nat) : Int) by omega]
    by_cases h : l[i].f2 ∈ to
    · rw [if_pos (decide_eq_true h), if_pos (by omega)]
      have e3 : List.filter (fun r => decide (r.f2 ∈ to)) [l[i]] = [l[i]] := by simp [h]
      rw [e3] at next
      exact next
    · rw [if_neg (by simpa using h)]
      have e3 : List.filter (fun r => decide (r.f2 ∈ to)) [l[i]] = [] := by simp [h]
      rw [e3, List.append_nil] at next
      exact next
theorem ofa_f (K : Nat) (hK : 2000 ≤ K) (l : List S69) (hl : l.length ≤ 1000) (to : List Int) (ht : to.length ≤ 1000) : audit_Log_Of.f K l to = some (l, of_ l to) := by
  have h := ofa_l K hK l hl to ht l.length K 0 (by omega) (by omega)
  have e : of_ (l.take 0) to = [] := rfl
  rw [e] at h
  exact h
theorem ofb_l (K : Nat) (hK : 2000 ≤ K) (l : List S69) (hl : l.length ≤ 1000) (to : List Int) (ht : to.length ≤ 1000) : ∀ (d n i : Nat), i + d = l.length → d < n → audit_Log_Of_29.l0 K l to n (of_ (l.take i) to) (i : Int) = some (l, of_ l to)
  | 0, n, i, hd, hn => by
    obtain ⟨n, rfl⟩ : ∃ k, n = k + 1 := ⟨n - 1, by omega⟩
    rw [audit_Log_Of_29.l0.eq_2, if_neg (by omega), List.take_of_length_le (by omega)]
  | d + 1, n, i, hd, hn => by
    obtain ⟨n, rfl⟩ : ∃ k, n = k + 1 := ⟨n - 1, by omega⟩
    have hi : i < l.length := by omega
    have e : l.getD (i : Int).toNat zS69 = l[i] := by simp [List.getD, hi]
    have e2 : l.take (i + 1) = l.take i ++ [l[i]] := by rw [List.take_add_one]; simp [hi]
    have hlen : (of_ (l.take i) to).length ≤ l.length := by
      unfold of_
      refine Nat.le_trans (List.length_filter_le _ _) ?_
      rw [List.length_take]; omega
    rw [audit_Log_Of_29.l0.eq_2, if_pos (by omega)]
    simp only [lt]
    rw [if_pos (by omega), e, contains_f K hK to ht]
    simp only [b1, eta, List.length_singleton]
    have next := ofb_l K hK l hl to ht d n (i + 1) (by omega) (by omega)
    rw [e2] at next
    unfold of_ at next hlen ⊢
    rw [List.filter_append] at next
    rw [w64_id (by omega) (by omega), show ((i : Int) + 1) = ((i + 1 : Nat) : Int) by omega]
    by_cases h : l[i].f2 ∈ to
    · rw [if_pos (decide_eq_true h), if_pos (by omega)]
      have e3 : List.filter (fun r => decide (r.f2 ∈ to)) [l[i]] = [l[i]] := by simp [h]
      rw [e3] at next
      exact next
    · rw [if_neg (by simpa using h)]
      have e3 : List.filter (fun r => decide (r.f2 ∈ to)) [l[i]] = [] := by simp [h]
      rw [e3, List.append_nil] at next
      exact next
theorem ofb_f (K : Nat) (hK : 2000 ≤ K) (l : List S69) (hl : l.length ≤ 1000) (to : List Int) (ht : to.length ≤ 1000) : audit_Log_Of_29.f K l to = some (l, of_ l to) := by
  have h := ofb_l K hK l hl to ht l.length K 0 (by omega) (by omega)
  have e : of_ (l.take 0) to = [] := rfl
  rw [e] at h
  exact h
theorem ofr_l (K : Nat) (hK : 2000 ≤ K) (l : List S69) (hl : l.length ≤ 1000) (to : List Int) (ht : to.length ≤ 1000) : ∀ (d n i : Nat), i + d = l.length → d < n → confidantref21_AuditOf.l0 K l to n (of_ (l.take i) to) (i : Int) = some (of_ l to)
  | 0, n, i, hd, hn => by
    obtain ⟨n, rfl⟩ : ∃ k, n = k + 1 := ⟨n - 1, by omega⟩
    rw [confidantref21_AuditOf.l0.eq_2, if_neg (by omega), List.take_of_length_le (by omega)]
  | d + 1, n, i, hd, hn => by
    obtain ⟨n, rfl⟩ : ∃ k, n = k + 1 := ⟨n - 1, by omega⟩
    have hi : i < l.length := by omega
    have e : l.getD (i : Int).toNat zS69 = l[i] := by simp [List.getD, hi]
    have e2 : l.take (i + 1) = l.take i ++ [l[i]] := by rw [List.take_add_one]; simp [hi]
    have hlen : (of_ (l.take i) to).length ≤ l.length := by
      unfold of_
      refine Nat.le_trans (List.length_filter_le _ _) ?_
      rw [List.length_take]; omega
    rw [confidantref21_AuditOf.l0.eq_2, if_pos (by omega)]
    simp only [lt]
    rw [if_pos (by omega), e, in_f K hK to ht]
    simp only [b1, eta, List.length_singleton]
    have next := ofr_l K hK l hl to ht d n (i + 1) (by omega) (by omega)
    rw [e2] at next
    unfold of_ at next hlen ⊢
    rw [List.filter_append] at next
    rw [w64_id (by omega) (by omega), show ((i : Int) + 1) = ((i + 1 : Nat) : Int) by omega]
    by_cases h : l[i].f2 ∈ to
    · rw [if_pos (decide_eq_true h), if_pos (by omega)]
      have e3 : List.filter (fun r => decide (r.f2 ∈ to)) [l[i]] = [l[i]] := by simp [h]
      rw [e3] at next
      exact next
    · rw [if_neg (by simpa using h)]
      have e3 : List.filter (fun r => decide (r.f2 ∈ to)) [l[i]] = [] := by simp [h]
      rw [e3, List.append_nil] at next
      exact next
theorem ofr_f (K : Nat) (hK : 2000 ≤ K) (l : List S69) (hl : l.length ≤ 1000) (to : List Int) (ht : to.length ≤ 1000) : confidantref21_AuditOf.f K l to = some (of_ l to) := by
  have h := ofr_l K hK l hl to ht l.length K 0 (by omega) (by omega)
  have e : of_ (l.take 0) to = [] := rfl
  rw [e] at h
  exact h
theorem add_f (K : Nat) (l r : List S69) (hl : l.length ≤ 1000) (hr : r.length ≤ 1000) : audit_Log_Add.f K l r = some (l ++ r) := by
  unfold audit_Log_Add.f
  simp only [lt]
  rw [if_pos (by omega)]
theorem all_f (K : Nat) (l : List S69) (hl : l.length ≤ 1000) : audit_Log_All.f K l = some (l, l) := by
  unfold audit_Log_All.f api_Record.f
  simp only [lt, List.length_nil, Nat.zero_add, List.nil_append]
  rw [if_pos (by omega)]
  rfl
theorem same_l (K : Nat) (l : List S69) (hl : l.length ≤ 1000) : ∀ (d n i : Nat), i + d = l.length → d < n → confidantref21_SameAudit.l0 K l l n (i : Int) = some true
  | 0, n, i, hd, hn => by
    obtain ⟨n, rfl⟩ : ∃ k, n = k + 1 := ⟨n - 1, by omega⟩
    rw [confidantref21_SameAudit.l0.eq_2, if_neg (by omega)]
  | d + 1, n, i, hd, hn => by
    obtain ⟨n, rfl⟩ : ∃ k, n = k + 1 := ⟨n - 1, by omega⟩
    rw [confidantref21_SameAudit.l0.eq_2, if_pos (by omega), if_pos (by omega), if_pos (by omega), if_pos (by simp), w64_id (by omega) (by omega), show ((i : Int) + 1) = ((i + 1 : Nat) : Int) by omega]
    exact same_l K l hl d n (i + 1) (by omega) (by omega)
theorem same_f (K : Nat) (hK : 2000 ≤ K) (l : List S69) (hl : l.length ≤ 1000) : confidantref21_SameAudit.f K l l = some true := by
  unfold confidantref21_SameAudit.f
  rw [if_pos rfl]
  exact same_l K l hl l.length K 0 (by omega) (by omega)

/-! ### records of numbers -/
theorem okat_app (l : List S69) (r : S69) {q : Nat} (hq : q < l.length) (h : OkAt l q) : OkAt (l ++ [r]) q := by
  have e : (l ++ [r]).getD q zS69 = l.getD q zS69 := by simp [List.getD, List.getElem?_append_left hq]
  have e2 : (l ++ [r]).getD (q - 1) zS69 = l.getD (q - 1) zS69 := by simp [List.getD, List.getElem?_append_left (show q - 1 < l.length by omega)]
  have e3 : (l ++ [r]).take q = l.take q := by rw [List.take_append_of_le_length (by omega)]
  unfold OkAt cnt at h ⊢
  rw [e, e2, e3]
  exact h
def four (a b c d k : Int) : Int := if k = 0 then a else if k = 1 then b else if k = 2 then c else if k = 3 then d else 0
structure Made (l : List S69) (rd : Int) (s : Int → Int) : Prop where
  ok : ∀ q, q < l.length → OkAt l q
  wf : ∀ r ∈ l, okS69 r
  le : ∀ r ∈ l, r.f4 ≤ rd
  seq : ∀ k, 0 ≤ k → k < 4 → (cnt l l.length k : Int) = s k
theorem Made.add {l : List S69} {rd rd' : Int} {s s' : Int → Int} (h : Made l rd s) (r : S69) (hw : okS69 r) (hk : 0 ≤ r.f2 ∧ r.f2 < 4) (h1 : 0 ≤ r.f1) (h5 : 0 ≤ r.f5) (hseq : r.f0 = s r.f2) (h0 : 0 ≤ rd) (hr : r.f4 = rd') (hrd : rd ≤ rd') (hs : ∀ k, s' k = if r.f2 = k then s k + 1 else s k) : Made (l ++ [r]) rd' s' := by
  have eg : (l ++ [r]).getD l.length zS69 = r := by simp [List.getD]
  refine ⟨fun q hq => ?_, fun x hx => ?_, fun x hx => ?_, fun k k0 k4 => ?_⟩
  · simp only [List.length_append, List.length_singleton] at hq
    by_cases hql : q < l.length
    · exact okat_app l r hql (h.ok q hql)
    · have : q = l.length := by omega
      subst this
      unfold OkAt
      rw [eg]
      refine ⟨by omega, fun hp => ?_, h1, hk.1, h5, ?_⟩
      · have hm : l.length - 1 < l.length := by omega
        have e2 : (l ++ [r]).getD (l.length - 1) zS69 = l[l.length - 1] := by simp [List.getD, List.getElem?_append_left hm, hm]
        rw [e2]
        have := h.le _ (List.getElem_mem hm)
        omega
      · have e3 : cnt (l ++ [r]) l.length r.f2 = cnt l l.length r.f2 := by unfold cnt; rw [List.take_append_of_le_length (Nat.le_refl _)]
        rw [e3, hseq, h.seq _ hk.1 hk.2]
  · rcases List.mem_append.1 hx with hx | hx
    · exact h.wf x hx
    · rw [List.mem_singleton.1 hx]; exact hw
  · rcases List.mem_append.1 hx with hx | hx
    · have := h.le x hx; omega
    · rw [List.mem_singleton.1 hx]; omega
  · have e3 : cnt (l ++ [r]) l.length k = cnt l l.length k := by unfold cnt; rw [List.take_append_of_le_length (Nat.le_refl _)]
    have hc := cnt_succ (l ++ [r]) l.length k (by simp)
    have e4 : (l ++ [r])[l.length]'(by simp) = r := by simp
    rw [e3, e4] at hc
    have el : (l ++ [r]).length = l.length + 1 := by simp
    rw [el, hc, hs k]
    have := h.seq k k0 k4
    split <;> simp <;> omega
theorem some_l (K : Nat) (l : List S111) (hl : l.length ≤ 30) (ho : ∀ x ∈ l, okS111 x) : ∀ (d n i : Nat) (a b c e : Int) (out : List S69) (rd : Int), i + d = l.length → d < n → out.length = i → 0 ≤ rd → rd ≤ 10 * i → (∀ z ∈ [a, b, c, e], 0 ≤ z ∧ z ≤ i) → Made out rd (four a b c e) →
    ∃ x rd' s', confidantlaw22_some.l0 K l n a b c e out rd (i : Int) = some x ∧ x.length = l.length ∧ Made x rd' s'
  | 0, n, i, a, b, c, e, out, rd, hd, hn, hlen, h0, h1, hz, hg => by
    obtain ⟨n, rfl⟩ : ∃ k, n = k + 1 := ⟨n - 1, by omega⟩
    rw [confidantlaw22_some.l0.eq_2, if_neg (by omega)]
    exact ⟨out, rd, _, rfl, by omega, hg⟩
  | d + 1, n, i, a, b, c, e, out, rd, hd, hn, hlen, h0, h1, hz, hg => by
    obtain ⟨n, rfl⟩ : ∃ k, n = k + 1 := ⟨n - 1, by omega⟩
    have hi : i < l.length := by omega
    have ex : l.getD (i : Int).toNat zS111 = l[i] := by simp [List.getD, hi]
    obtain ⟨o0, o1, o2, o3, _⟩ := ho _ (List.getElem_mem hi)
    have u0 := is_u8 o0
    have u1 := is_u8 o1
    have u2 := is_u8 o2
    have ha := hz a (by simp)
    have hb := hz b (by simp)
    have hc := hz c (by simp)
    have he := hz e (by simp)
    have er : IntKind.i64.wrap (rd + IntKind.i64.wrap (Int.tmod l[i].f0 3)) = rd + l[i].f0 % 3 := by
      rw [Int.tmod_eq_emod_of_nonneg (by omega), w64_id (x := l[i].f0 % 3) (by omega) (by omega), w64_id (by omega) (by omega)]
    have eg : IntKind.i64.wrap (Int.tmod l[i].f2 5) = l[i].f2 % 5 := by
      rw [Int.tmod_eq_emod_of_nonneg (by omega), w64_id (by omega) (by omega)]
    have eb : IntKind.i32.wrap l[i].f2 = l[i].f2 := w32_id (by omega) (by omega)
    obtain ⟨k, hk, hk4⟩ : ∃ k : Nat, IntKind.i64.wrap (Int.tmod l[i].f1 4) = (k : Int) ∧ k < 4 := by
      refine ⟨(l[i].f1 % 4).toNat, ?_, by omega⟩
      rw [Int.tmod_eq_emod_of_nonneg (by omega), w64_id (by omega) (by omega)]; omega
    have e64 : ∀ z : Int, 0 ≤ z → z ≤ i → IntKind.i64.wrap (z + 1) = z + 1 := fun z h h' => w64_id (by omega) (by omega)
    rw [confidantlaw22_some.l0.eq_2, if_pos (by omega)]
    simp only [lt, ex, er, hk, eg, eb, List.length_singleton, e64 a ha.1 ha.2, e64 b hb.1 hb.2, e64 c hc.1 hc.2, e64 e he.1 he.2]
    rw [if_pos (by omega), w64_id (x := (i : Int) + 1) (by omega) (by omega), show ((i : Int) + 1) = ((i + 1 : Nat) : Int) by omega]
    have rec_ : ∀ (a' b' c' e' v : Int) , (0 ≤ v ∧ v ≤ i) → v = four a b c e (k : Int) → (∀ z ∈ [a', b', c', e'], 0 ≤ z ∧ z ≤ ((i + 1 : Nat) : Int)) → (∀ q, four a' b' c' e' q = if (k : Int) = q then four a b c e q + 1 else four a b c e q) →
        ∃ x rd' s', confidantlaw22_some.l0 K l n a' b' c' e' (out ++ [⟨v, l[i].f2 % 5, (k : Int), IntKind.i32.wrap (IntKind.i32.wrap l[i].f3 - 128), rd + l[i].f0 % 3, l[i].f2⟩]) (rd + l[i].f0 % 3) ((i + 1 : Nat) : Int) = some x ∧ x.length = l.length ∧ Made x rd' s' := by
      intro a' b' c' e' v hv g2 g4 g5
      refine some_l K l hl ho d n (i + 1) a' b' c' e' _ _ (by omega) (by omega) (by simp [hlen]) (by omega) (by omega) g4 (hg.add _ ⟨wf64 (x := v) (by omega) (by omega), wf64 (x := l[i].f2 % 5) (by omega) (by omega), wf64 (x := (k : Int)) (by omega) (by omega), ww32 _, wf64 (x := rd + l[i].f0 % 3) (by omega) (by omega), wf32 (x := l[i].f2) (by omega) (by omega), trivial⟩ (by simp only; omega) (by simp only; omega) (by simp only; omega) g2 h0 rfl (by omega) g5)
    rcases (by omega : k = 0 ∨ k = 1 ∨ k = 2 ∨ k = 3) with rfl | rfl | rfl | rfl
    · rw [if_pos (by omega), if_pos (by omega), if_pos (by decide)]
      refine rec_ (a + 1) b c e a ha rfl (fun z hz' => ?_) (fun q => ?_)
      · simp only [List.mem_cons, List.not_mem_nil, or_false] at hz'; omega
      · unfold four; repeat' split
        all_goals omega
    · rw [if_neg (by omega), if_pos (by omega), if_pos (by omega), if_neg (by decide), if_pos (by decide)]
      refine rec_ a (b + 1) c e b hb rfl (fun z hz' => ?_) (fun q => ?_)
      · simp only [List.mem_cons, List.not_mem_nil, or_false] at hz'; omega
      · unfold four; repeat' split
        all_goals omega
    · rw [if_neg (by omega), if_neg (by omega), if_pos (by omega), if_pos (by omega), if_neg (by decide), if_neg (by decide), if_pos (by decide)]
      refine rec_ a b (c + 1) e c hc rfl (fun z hz' => ?_) (fun q => ?_)
      · simp only [List.mem_cons, List.not_mem_nil, or_false] at hz'; omega
      · unfold four; repeat' split
        all_goals omega
    · rw [if_neg (by omega), if_neg (by omega), if_neg (by omega), if_pos (by omega), if_pos (by omega), if_neg (by decide), if_neg (by decide), if_neg (by decide), if_pos (by decide)]
      refine rec_ a b c (e + 1) e he rfl (fun z hz' => ?_) (fun q => ?_)
      · simp only [List.mem_cons, List.not_mem_nil, or_false] at hz'; omega
      · unfold four; repeat' split
        all_goals omega

theorem at_1 (K : Nat) (hK : 2000 ≤ K) (zs : List (List S69)) (hl : zs.length ≤ 10) (hz : ∀ z ∈ zs, Fit z) (to few : List Int) (ht : to.length ≤ 8) (hf : few.length ≤ 8) (j : List (List S69) → Option Bool) (hj : j zs = some true) : ∀ (d n i : Nat), i + d = zs.length → d < n → confidantlaw22_AuditTells.l1 K zs to few j n (i : Int) = some true
  | 0, n, i, hd, hn => by
    obtain ⟨n, rfl⟩ : ∃ k, n = k + 1 := ⟨n - 1, by omega⟩
    rw [confidantlaw22_AuditTells.l1.eq_2, if_neg (by omega)]
    exact hj
  | d + 1, n, i, hd, hn => by
    obtain ⟨n, rfl⟩ : ∃ k, n = k + 1 := ⟨n - 1, by omega⟩
    have hi : i < zs.length := by omega
    have e : zs.getD (i : Int).toNat [] = zs[i] := by simp [List.getD, hi]
    have hfit := hz _ (List.getElem_mem hi)
    have hlen := hfit.len
    obtain ⟨out, g1, g2⟩ := putf K hK zs[i] hfit
    have o1 : (of_ zs[i] to).length ≤ zs[i].length := by unfold of_; exact List.length_filter_le _ _
    have o2 : (of_ zs[i] few).length ≤ zs[i].length := by unfold of_; exact List.length_filter_le _ _
    rw [confidantlaw22_AuditTells.l1.eq_2, if_pos (by omega), if_pos (by omega), e]
    unfold audit_New.f
    simp only [b1, lt]
    rw [add_f K _ _ (by simp) (by omega), List.nil_append, right_f K hK _ hfit, rright_f K hK _ hfit, g1, g2]
    simp only [b1, beq_self_eq_true, if_true]
    rw [all_f K _ (by omega)]
    simp only [b2]
    rw [same_f K hK _ (by omega)]
    simp only [if_true]
    rw [ofa_f K hK _ (by omega) to (by omega), ofr_f K hK _ (by omega) to (by omega)]
    simp only
    rw [same_f K hK _ (by omega)]
    simp only [if_true]
    rw [ofb_f K hK _ (by omega) few (by omega), ofr_f K hK _ (by omega) few (by omega)]
    simp only
    rw [same_f K hK _ (by omega)]
    simp only [Bool.not_true, Bool.false_eq_true, if_false]
    rw [w64_id (by omega) (by omega), show ((i : Int) + 1) = ((i + 1 : Nat) : Int) by omega]
    exact at_1 K hK zs hl hz to few ht hf j hj d n (i + 1) (by omega) (by omega)
theorem at_0 (K : Nat) (to : List Int) (ht : to.length ≤ 8) (j : List Int → Option Bool) (hj : ∀ l, l.length ≤ 8 → j l = some true) : ∀ (d n i : Nat) (b : List Int), i + d = to.length → d < n → b.length = i → confidantlaw22_AuditTells.l0 K to j n b (i : Int) = some true
  | 0, n, i, b, hd, hn, hb => by
    obtain ⟨n, rfl⟩ : ∃ k, n = k + 1 := ⟨n - 1, by omega⟩
    rw [confidantlaw22_AuditTells.l0.eq_2, if_neg (by omega)]
    exact hj b (by omega)
  | d + 1, n, i, b, hd, hn, hb => by
    obtain ⟨n, rfl⟩ : ∃ k, n = k + 1 := ⟨n - 1, by omega⟩
    rw [confidantlaw22_AuditTells.l0.eq_2, if_pos (by omega), if_pos (by omega)]
    simp only [lt, List.length_singleton]
    rw [if_pos (by omega), w64_id (by omega) (by omega), show ((i : Int) + 1) = ((i + 1 : Nat) : Int) by omega]
    exact at_0 K to ht j hj d n (i + 1) _ (by omega) (by omega) (by simp [hb])
theorem fit_set {x : List S69} (h : Fit x) (m : Nat) (r : S69) (hr : okS69 r) : Fit (x.set m r) := by
  refine ⟨by rw [List.length_set]; exact h.len, fun y hy => ?_⟩
  rcases List.mem_or_eq_of_mem_set hy with hy | rfl
  · exact h.ok y hy
  · exact hr
theorem known_f : ∃ K, 5000 ≤ K ∧ confidantlaw22_known.f K = some true := ⟨5000, Nat.le_refl _, by kernel_rfl⟩
theorem AuditTells : confidantlaw22_AuditTells.Pure := by
  intro raw l k what to v _ hraw _ ho hk hw _ _ hv
  have uk := is_u8 hk
  obtain ⟨K, hK, hkn⟩ := known_f
  refine ⟨K, ?_⟩
  unfold confidantlaw22_AuditTells.f
  simp only [hkn, b1, if_true]
  refine lt_all (P := fun J => J true = some true ∧ (raw.length ≤ 20 → l.length ≤ 30 → to.length ≤ 8 → J false = some true)) ⟨by simp, fun h1 h2 h3 => ?_⟩ (fun J hJ => ?_)
  · simp only [Bool.false_eq_true, if_false]
    unfold confidantlaw22_some.f
    have g0 : Made [] 0 (four 0 0 0 0) := by
      refine ⟨by simp, by simp, by simp, fun k h0 h4 => ?_⟩
      unfold four cnt
      simp
    obtain ⟨x, rd, s, hx, hxl, hg⟩ := some_l K l h2 ho l.length K 0 0 0 0 0 [] 0 (by omega) (by omega) rfl (by omega) (by omega) (by simp) g0
    have hx' : confidantlaw22_some.l0 K l K 0 0 0 0 ([] : List S69) 0 0 = some x := hx
    rw [hx']
    have fx : Fit x := ⟨by omega, hg.wf⟩
    have fr : Fit raw := ⟨by omega, hraw⟩
    simp only [List.length_nil, Nat.zero_add, List.nil_append]
    rw [if_pos (by omega)]
    refine lt_all (P := fun z => z = x) rfl (fun x0 hx0 => ?_)
    rw [hx0]
    clear hx0 x0
    refine lt_all (P := fun J1 => ∀ y, Fit y → J1 y = some true) (fun y fy => ?_) (fun J1 hJ1 => ?_)
    · simp only [lt]
      refine at_0 K to h3 _ (fun few hf => ?_) to.length K 0 [] (by omega) (by omega) rfl
      refine at_1 K (by omega) [raw, x, y] (by simp) (fun z hz => ?_) to few h3 hf _ ?_ 3 K 0 (by simp) (by omega)
      · simp only [List.mem_cons, List.not_mem_nil, or_false] at hz
        rcases hz with rfl | rfl | rfl <;> assumption
      · rw [right_f K (by omega) x fx]
        simp only
        rw [decide_eq_true (show RightFrom x 0 from fun q h _ => hg.ok q h)]
    · by_cases h0 : (x.length : Int) > 0
      · rw [if_pos h0, if_neg (by omega)]
        obtain ⟨m, hm, hm2⟩ : ∃ m : Nat, Int.tmod (IntKind.i64.wrap k) (x.length : Int) = (m : Int) ∧ m < x.length := by
          refine ⟨(k % (x.length : Int)).toNat, ?_, ?_⟩
          · rw [w64_id (by omega) (by omega), Int.tmod_eq_emod_of_nonneg (by omega)]
            have := Int.emod_nonneg k (show (x.length : Int) ≠ 0 by omega)
            omega
          · have := Int.emod_nonneg k (show (x.length : Int) ≠ 0 by omega)
            have := Int.emod_lt_of_pos k (show (0 : Int) < x.length by omega)
            omega
        have em : x.getD m zS69 = x[m] := by simp [List.getD, hm2]
        obtain ⟨r0, r1, r2, r3, r4, r5, _⟩ := fx.ok _ (List.getElem_mem hm2)
        simp only [lt, hm, Int.toNat_natCast, em, eta]
        by_cases c0 : Int.tmod what 6 = 0
        · rw [if_pos c0, if_pos (by omega), if_pos (by omega)]
          exact hJ1 _ (fit_set fx m _ ⟨hv, r1, r2, r3, r4, r5, trivial⟩)
        rw [if_neg c0]
        by_cases c1 : Int.tmod what 6 = 1
        · rw [if_pos c1, if_pos (by omega), if_pos (by omega)]
          exact hJ1 _ (fit_set fx m _ ⟨r0, hv, r2, r3, r4, r5, trivial⟩)
        rw [if_neg c1]
        by_cases c2 : Int.tmod what 6 = 2
        · rw [if_pos c2, if_pos (by omega), if_pos (by omega)]
          exact hJ1 _ (fit_set fx m _ ⟨r0, r1, wa64 _ _, r3, r4, r5, trivial⟩)
        rw [if_neg c2]
        by_cases c3 : Int.tmod what 6 = 3
        · rw [if_pos c3, if_pos (by omega), if_pos (by omega)]
          exact hJ1 _ (fit_set fx m _ ⟨r0, r1, r2, r3, hv, r5, trivial⟩)
        rw [if_neg c3]
        by_cases c4 : Int.tmod what 6 = 4
        · rw [if_pos c4, if_pos (by omega), if_pos (by omega)]
          exact hJ1 _ (fit_set fx m _ ⟨r0, r1, r2, r3, r4, ww32 _, trivial⟩)
        rw [if_neg c4, if_pos (by omega), if_pos (by omega), if_pos (by omega), if_pos (by rw [List.length_set]; omega)]
        have hx0 : 0 < x.length := by omega
        have e00 : x.getD (0 : Int).toNat zS69 = x[0] := by
          have : (0 : Int).toNat = 0 := rfl
          rw [this]; simp [List.getD, hx0]
        rw [e00]
        exact hJ1 _ (fit_set (fit_set fx _ _ (fx.ok _ (List.getElem_mem hm2))) _ _ (fx.ok _ (List.getElem_mem hx0)))
      · rw [if_neg h0]
        exact hJ1 x fx
  · by_cases h1 : (raw.length : Int) > 20
    · rw [if_pos h1]; exact hJ.1
    rw [if_neg h1]
    by_cases h2 : (l.length : Int) > 30
    · rw [if_pos h2]; exact hJ.1
    rw [if_neg h2]
    by_cases h3 : (to.length : Int) > 8
    · rw [decide_eq_true h3]; exact hJ.1
    · rw [decide_eq_false h3]; exact hJ.2 (by omega) (by omega) (by omega)
end Go.Proofs.Ytipaaapbapijhaa.Pure
