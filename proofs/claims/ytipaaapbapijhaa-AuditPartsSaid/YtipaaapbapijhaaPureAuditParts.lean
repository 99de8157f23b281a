import Derived.Test.YtipaaapbapijhaaG0
import Derived.Test.YtipaaapbapijhaaG1
import Derived.Test.YtipaaapbapijhaaG2
import Derived.Test.YtipaaapbapijhaaAudit
/- Records of some labels are all of theirs, in order; all together are all. No condition. -/
set_option linter.unusedVariables false
set_option linter.unusedSimpArgs false
namespace Go.Proofs.Ytipaaapbapijhaa.Pure
open Go Go.Fw Go.RowKit Go.Proofs.Ytipaaapbapijhaa.G Go.Proofs.Ytipaaapbapijhaa.Audit

theorem sum4 : ∀ (x : List S69), (∀ r ∈ x, 0 ≤ r.f2 ∧ r.f2 < 4) → (ofk x 0).length + (ofk x 1).length + (ofk x 2).length + (ofk x 3).length = x.length
  | [], _ => rfl
  | r :: x, h => by
    have ih := sum4 x (fun y hy => h y (List.mem_cons_of_mem _ hy))
    have hr := h r List.mem_cons_self
    unfold ofk at ih ⊢
    rcases (by omega : r.f2 = 0 ∨ r.f2 = 1 ∨ r.f2 = 2 ∨ r.f2 = 3) with e | e | e | e <;> simp [e] <;> omega
theorem of_one (x : List S69) (k : Int) : of_ x [k] = ofk x k := by
  unfold of_ ofk
  congr 1
  funext r
  simp
theorem of_len (x : List S69) (to : List Int) : (of_ x to).length ≤ x.length := by unfold of_; exact List.length_filter_le _ _

theorem ap_0 (K : Nat) (x : List S69) (hx : x.length ≤ 30) (j : List S69 → Option Bool) : ∀ (d n i : Nat), i + d = x.length → d < n → confidantlaw22_AuditParts.l0 K x j n (x.take i) (i : Int) = j x
  | 0, n, i, hd, hn => by
    obtain ⟨n, rfl⟩ : ∃ k, n = k + 1 := ⟨n - 1, by omega⟩
    rw [confidantlaw22_AuditParts.l0.eq_2, if_neg (by omega), List.take_of_length_le (by omega)]
  | d + 1, n, i, hd, hn => by
    obtain ⟨n, rfl⟩ : ∃ k, n = k + 1 := ⟨n - 1, by omega⟩
    have hi : i < x.length := by omega
    have e : x.getD (i : Int).toNat zS69 = x[i] := by simp [List.getD, hi]
    have e2 : x.take i ++ [x[i]] = x.take (i + 1) := by rw [List.take_add_one]; simp [hi]
    rw [confidantlaw22_AuditParts.l0.eq_2, if_pos (by omega), if_pos (by omega), e]
    simp only [lt, eta]
    rw [add_f K _ _ (by rw [List.length_take]; omega) (by simp), e2, w64_id (by omega) (by omega), show ((i : Int) + 1) = ((i + 1 : Nat) : Int) by omega]
    simp only [b1]
    exact ap_0 K x hx j d n (i + 1) (by omega) (by omega)

theorem ap_2 (K : Nat) (x : List S69) (hx : x.length ≤ 30) (rd : Int) (s : Int → Int) (hg : Audit.Good x rd s) (k : Int) (hk : 0 ≤ k ∧ k < 4) (j : List S69 → Int → Option Bool) (m : Int) : ∀ (d n i : Nat), i + d = (ofk x k).length → d < n →
    confidantlaw22_AuditParts.l2 K (ofk x k) k j m n (i : Int) = j (ofk x k) (IntKind.i64.wrap (m + ((ofk x k).length : Int)))
  | 0, n, i, hd, hn => by
    obtain ⟨n, rfl⟩ : ∃ k, n = k + 1 := ⟨n - 1, by omega⟩
    rw [confidantlaw22_AuditParts.l2.eq_2, if_neg (by omega)]
  | d + 1, n, i, hd, hn => by
    obtain ⟨n, rfl⟩ : ∃ k, n = k + 1 := ⟨n - 1, by omega⟩
    have hi : i < (ofk x k).length := by omega
    have hle : (ofk x k).length ≤ x.length := by unfold ofk; exact List.length_filter_le _ _
    have e : (ofk x k).getD (i : Int).toNat zS69 = (ofk x k)[i] := by simp [List.getD, hi]
    have hto : (ofk x k)[i].f2 = k := by
      have := (List.mem_filter.1 (List.getElem_mem hi)).2
      exact of_decide_eq_true this
    have hsq := hg.seq k hk.1 hk.2 i hi
    have next := ap_2 K x hx rd s hg k hk j m d n (i + 1) (by omega) (by omega)
    rw [confidantlaw22_AuditParts.l2.eq_2, if_pos (by omega)]
    simp only [lt, e, hto, hsq, if_true]
    rw [if_pos (by omega)]
    by_cases h0 : (i : Int) > 0
    · obtain ⟨q, rfl⟩ : ∃ q, i = q + 1 := ⟨i - 1, by omega⟩
      have eq' : IntKind.i64.wrap (((q + 1 : Nat) : Int) - 1) = (q : Int) := by rw [w64_id (by omega) (by omega)]; omega
      have hq : q < (ofk x k).length := by omega
      have e3 : (ofk x k).getD (q : Int).toNat zS69 = (ofk x k)[q] := by simp [List.getD, hq]
      have hup := hg.up k hk.1 hk.2 q hi
      rw [if_pos h0, eq', if_pos (by omega), if_pos (by omega), e3, if_neg (by simp; omega), w64_id (by omega) (by omega), show (((q + 1 : Nat) : Int) + 1) = ((q + 1 + 1 : Nat) : Int) by omega]
      exact next
    · rw [if_neg h0, if_neg (by simp), w64_id (by omega) (by omega), show ((i : Int) + 1) = ((i + 1 : Nat) : Int) by omega]
      exact next

theorem AuditParts : confidantlaw22_AuditParts.Pure := by
  intro l a b _ ho _ _
  obtain ⟨K, hK, hkn⟩ := known_f
  refine ⟨K, ?_⟩
  unfold confidantlaw22_AuditParts.f audit_New.f confidantlaw22_some.f
  simp only [hkn, b1, if_true, lt]
  by_cases h1 : (l.length : Int) > 30
  · rw [if_pos h1]
  rw [if_neg h1]
  have g0 : Audit.Good [] 0 (four 0 0 0 0) := by
    refine ⟨by simp, by simp, fun k h0 h4 => ?_, fun k h0 h4 j hj => by simp [ofk] at hj, fun k h0 h4 j hj => by simp [ofk] at hj⟩
    unfold four ofk
    simp
  obtain ⟨x, rd, s, hx, hxl, hg⟩ := some_l K l (by omega) ho l.length K 0 0 0 0 0 [] 0 (by omega) (by omega) rfl (by omega) (by omega) (by simp) g0
  have hx' : confidantlaw22_some.l0 K l K 0 0 0 0 ([] : List S69) 0 0 = some x := hx
  rw [hx']
  simp only
  have hx30 : x.length ≤ 30 := by omega
  have hle : ∀ k, (ofk x k).length ≤ x.length := fun k => by unfold ofk; exact List.length_filter_le _ _
  refine Eq.trans (ap_0 K x hx30 _ x.length K 0 (by omega) (by omega)) ?_
  have hsum := sum4 x hg.to
  obtain ⟨n, rfl⟩ : ∃ n, K = n + 5 := ⟨K - 5, by omega⟩
  have turn : ∀ (j : Int → Option Bool) (n' : Nat) (m : Int) (k : Nat), k < 4 → 0 ≤ m → m ≤ 200 → confidantlaw22_AuditParts.l1 (n + 5) x j (n' + 1) m (k : Int) = confidantlaw22_AuditParts.l1 (n + 5) x j n' (m + ((ofk x (k : Int)).length : Int)) ((k + 1 : Nat) : Int) := by
    intro j n' m k hk hm hm2
    have := hle (k : Int)
    rw [confidantlaw22_AuditParts.l1.eq_2, if_pos (by omega)]
    simp only [lt]
    rw [of_f (n + 5) (by omega) x (by omega) _ (by simp), of_one]
    simp only [b1]
    refine Eq.trans (ap_2 (n + 5) x hx30 rd s hg (k : Int) (by omega) _ m (ofk x (k : Int)).length (n + 5) 0 (by omega) (by omega)) ?_
    rw [w64_id (x := m + ((ofk x (k : Int)).length : Int)) (by omega) (by omega), w64_id (x := (k : Int) + 1) (by omega) (by omega), show ((k : Int) + 1) = ((k + 1 : Nat) : Int) by omega]
  have q0 := hle ((0 : Nat) : Int)
  have q1 := hle ((1 : Nat) : Int)
  have q2 := hle ((2 : Nat) : Int)
  have q3 := hle ((3 : Nat) : Int)
  have hsum' : (ofk x ((0 : Nat) : Int)).length + (ofk x ((1 : Nat) : Int)).length + (ofk x ((2 : Nat) : Int)).length + (ofk x ((3 : Nat) : Int)).length = x.length := hsum
  refine Eq.trans (turn _ (n + 4) 0 0 (by omega) (by omega) (by omega)) ?_
  refine Eq.trans (turn _ (n + 3) _ 1 (by omega) (by omega) (by omega)) ?_
  refine Eq.trans (turn _ (n + 2) _ 2 (by omega) (by omega) (by omega)) ?_
  refine Eq.trans (turn _ (n + 1) _ 3 (by omega) (by omega) (by omega)) ?_
  rw [confidantlaw22_AuditParts.l1.eq_2, if_neg (by omega)]
  rw [if_pos (by omega)]
  have all4 : of_ x [0, 1, 2, 3] = x := by
    unfold of_
    rw [List.filter_eq_self]
    intro r hr
    have := hg.to r hr
    refine decide_eq_true ?_
    simp only [List.mem_cons, List.not_mem_nil, or_false]
    omega
  have none_ : of_ x [] = [] := by unfold of_; simp
  have swap : of_ x [b, a, a] = of_ x [a, b] := by
    unfold of_
    congr 1
    funext r
    refine decide_eq_decide.2 ?_
    simp only [List.mem_cons, List.not_mem_nil, or_false]
    constructor
    · rintro (h | h | h)
      · exact .inr h
      · exact .inl h
      · exact .inl h
    · rintro (h | h)
      · exact .inr (.inl h)
      · exact .inl h
  rw [of_f _ (by omega) x (by omega) _ (by simp), all4]
  simp only [b1]
  rw [same_f _ (by omega) x (by omega)]
  simp only [if_true]
  rw [of_f _ (by omega) x (by omega) _ (by simp), none_, of_f _ (by omega) x (by omega) _ (by simp), of_f _ (by omega) x (by omega) _ (by simp), swap]
  simp only [List.length_nil, Int.natCast_zero, if_true]
  have := of_len x [a, b]
  rw [same_f _ (by omega) _ (by omega)]
end Go.Proofs.Ytipaaapbapijhaa.Pure
