import Derived.Test.YtjfnejcanlkknaaG0
import Derived.Test.YtjfnejcanlkknaaG10
import Derived.Test.YtjfnejcanlkknaaFuture
/- Just how many futures may be made at each label. No condition. -/
set_option linter.unusedVariables false
set_option linter.unusedSimpArgs false
namespace Go.Proofs.Ytjfnejcanlkknaa.Pure
open Go Go.Fw Go.RowKit Go.Proofs.Ytjfnejcanlkknaa.G Go.Proofs.Ytjfnejcanlkknaa.Future

/-- the quotas that are told -/
def qo (x : Int) : Int := Int.tmod x 6 - 1

theorem fq_0 (K : Nat) (l : List Int) (hl : l.length ≤ 20) (hw : ∀ x ∈ l, (Lit.int .u8 x).wf = true) (j : List Int → Option Bool) : ∀ (d n i : Nat), i + d = l.length → d < n → confidantlaw13_FutureQuotas.l0 K l j n ((l.take i).map qo) (i : Int) = j (l.map qo)
  | 0, n, i, hd, hn => by
    obtain ⟨n, rfl⟩ : ∃ k, n = k + 1 := ⟨n - 1, by omega⟩
    rw [confidantlaw13_FutureQuotas.l0.eq_2, if_neg (by omega), List.take_of_length_le (by omega)]
  | d + 1, n, i, hd, hn => by
    obtain ⟨n, rfl⟩ : ∃ k, n = k + 1 := ⟨n - 1, by omega⟩
    have hi : i < l.length := by omega
    have e1 : l.getD (i : Int).toNat 0 = l[i] := by simp [List.getD, hi]
    have hu := is_u8 (hw _ (List.getElem_mem hi))
    have e2 : (l.take i).map qo ++ [qo l[i]] = (l.take (i + 1)).map qo := by rw [List.take_add_one]; simp only [List.getElem?_eq_getElem hi, Option.toList_some, List.map_append, List.map_cons, List.map_nil]
    have e3 : IntKind.i64.wrap (IntKind.i64.wrap (Int.tmod l[i] 6) - 1) = qo l[i] := by
      unfold qo
      rw [Int.tmod_eq_emod_of_nonneg (by omega), w64_id (x := l[i] % 6) (by omega) (by omega), w64_id (by omega) (by omega)]
    rw [confidantlaw13_FutureQuotas.l0.eq_2, if_pos (by omega), if_pos (by omega), e1, e3]
    simp only [lt, List.length_map, List.length_take, List.length_cons, List.length_nil]
    rw [if_pos (by omega), e2, w64_id (by omega) (by omega), show ((i : Int) + 1) = ((i + 1 : Nat) : Int) by omega]
    exact fq_0 K l hl hw j d n (i + 1) (by omega) (by omega)

theorem fq_2 (K : Nat) (a : Int) (m : Nat) (hm : IntKind.i64.wrap (Int.tmod a 8) = (m : Int)) (hm2 : m < 8) (q : List Int) (i : Nat) (hi : i < q.length) (hql : q.length ≤ 20) (hq6 : ∀ x ∈ q, -1 ≤ x ∧ x ≤ 4) (j : List (List S75) → Option Bool)
    (hj : ∀ L, Qs L ((q.take 16).map clamp) → (∀ c : Nat, i < c → row L (c : Int) = []) → (i < 16 → count L (i : Int) = mn (m : Int) (mx (q.getD i 0) 0)) → j L = some true) : ∀ (d n k : Nat) (L : List (List S75)), k + d = m → d < n → Qs L ((q.take 16).map clamp) → (∀ c : Nat, i < c → row L (c : Int) = []) → (i < 16 → ((row L (i : Int)).length : Int) = mn (k : Int) (mx (q.getD i 0) 0)) →
    confidantlaw13_FutureQuotas.l2 K a ((q.take 16).map clamp) (i : Int) q j n L (k : Int) = some true
  | 0, n, k, L, hd, hn, hq, hz, hc => by
    obtain ⟨n, rfl⟩ : ∃ k, n = k + 1 := ⟨n - 1, by omega⟩
    rw [confidantlaw13_FutureQuotas.l2.eq_2, hm, if_neg (by omega)]
    refine hj L hq hz fun h16 => ?_
    have hlen := hq.len
    rw [List.length_map, List.length_take] at hlen
    unfold count
    rw [if_pos (by omega), hc h16]
    congr 1
    omega
  | d + 1, n, k, L, hd, hn, hq, hz, hc => by
    obtain ⟨n, rfl⟩ : ∃ k, n = k + 1 := ⟨n - 1, by omega⟩
    have hlen := hq.len
    rw [List.length_map, List.length_take] at hlen
    have ex : q.getD i 0 = q[i] := by simp [List.getD, hi]
    have h6 := hq6 _ (List.getElem_mem hi)
    have hmx : 0 ≤ mx (q.getD i 0) 0 ∧ mx (q.getD i 0) 0 ≤ 4 := by rw [ex]; unfold mx; split <;> omega
    have hq' := made_qs hq (i : Int) 3
    have next : ∀ L', Qs L' ((q.take 16).map clamp) → (∀ c : Nat, i < c → row L' (c : Int) = []) → (i < 16 → ((row L' (i : Int)).length : Int) = mn ((k + 1 : Nat) : Int) (mx (q.getD i 0) 0)) → confidantlaw13_FutureQuotas.l2 K a ((q.take 16).map clamp) (i : Int) q j n L' (IntKind.i64.wrap ((k : Int) + 1)) = some true := by
      intro L' g1 g2 g3
      rw [w64_id (by omega) (by omega), show ((k : Int) + 1) = ((k + 1 : Nat) : Int) by omega]
      exact fq_2 K a m hm hm2 q i hi hql hq6 j hj d n (k + 1) L' (by omega) (by omega) g1 g2 g3
    rw [confidantlaw13_FutureQuotas.l2.eq_2, hm, if_pos (by omega), make_f K _ _ _ _ hq, Int.toNat_natCast]
    by_cases h16 : i < 16
    · have eq : ((q.take 16).map clamp).getD (i : Int).toNat 0 = mx (q.getD i 0) 0 := by
        have h1 : i < (q.take 16).length := by rw [List.length_take]; omega
        rw [ex, Int.toNat_natCast]
        simp [List.getD, hi, h16]
        unfold clamp mn mx
        split <;> split <;> omega
      have hcl := hc h16
      by_cases hR : Room L ((q.take 16).map clamp) (i : Int)
      · have hlt := hR.2.2
        rw [eq, hcl] at hlt
        have hk : (k : Int) < mx (q.getD i 0) 0 := by unfold mn at hlt; split at hlt <;> omega
        have hrk : ((row L (i : Int)).length : Int) = (k : Int) := by rw [hcl]; unfold mn; split <;> omega
        rw [made_room hR] at hq' ⊢
        simp only at hq'
        simp only [b3, lt]
        rw [if_pos (by omega), if_pos (by omega), decide_eq_true hk]
        have e2 : IntKind.i64.wrap ((i : Int) * 65536 + ((row L (i : Int)).length : Int)) = (i : Int) * 65536 + (k : Int) := by rw [hrk, w64_id (by omega) (by omega)]
        have e3 : IntKind.i64.wrap (IntKind.i64.wrap ((i : Int) * 65536) + (k : Int)) = (i : Int) * 65536 + (k : Int) := by rw [w64_id (x := (i : Int) * 65536) (by omega) (by omega), w64_id (by omega) (by omega)]
        simp only [beq_self_eq_true, if_true, e2, e3, decide_true, Bool.not_true, Bool.false_eq_true, if_false]
        refine next _ hq' (fun c hc' => ?_) (fun _ => ?_)
        · rw [row_set L _ _ _ hR.1 hR.2.1 (by omega), if_neg (by omega)]
          exact hz c hc'
        · rw [row_set L _ _ _ hR.1 hR.2.1 (by omega), if_pos rfl]
          simp only [List.length_append, List.length_singleton]
          unfold mn
          split <;> omega
      · have hk : ¬ (k : Int) < mx (q.getD i 0) 0 := by
          intro h
          refine hR ⟨by omega, by omega, ?_⟩
          rw [eq, hcl]
          unfold mn
          split <;> omega
        rw [made_full hR]
        simp only [b3, lt]
        rw [if_pos (by omega), if_pos (by omega), decide_eq_false hk]
        simp only [beq_self_eq_true, if_true, Bool.false_eq_true, if_false]
        refine next L hq hz (fun h => ?_)
        rw [hc h]
        unfold mn
        split <;> split <;> omega
    · have hR : ¬ Room L ((q.take 16).map clamp) (i : Int) := by
        rintro ⟨_, h, _⟩
        omega
      rw [made_full hR]
      simp only [b3, lt]
      rw [if_neg (by omega)]
      simp only [beq_self_eq_true, if_true, Bool.false_eq_true, if_false]
      exact next L hq hz (fun h => absurd h h16)

theorem fq_1 (K : Nat) (hK : 100 ≤ K) (a : Int) (m : Nat) (hm : IntKind.i64.wrap (Int.tmod a 8) = (m : Int)) (hm2 : m < 8) (q : List Int) (hql : q.length ≤ 20) (hq6 : ∀ x ∈ q, -1 ≤ x ∧ x ≤ 4) (j : List (List S75) → Option Bool)
    (hj : ∀ L, Qs L ((q.take 16).map clamp) → j L = some true) : ∀ (d n i : Nat) (L : List (List S75)), i + d = q.length → d < n → Qs L ((q.take 16).map clamp) → (∀ c : Nat, i ≤ c → row L (c : Int) = []) →
    confidantlaw13_FutureQuotas.l1 K q ((q.take 16).map clamp) a j n L (i : Int) = some true
  | 0, n, i, L, hd, hn, hq, hz => by
    obtain ⟨n, rfl⟩ : ∃ k, n = k + 1 := ⟨n - 1, by omega⟩
    rw [confidantlaw13_FutureQuotas.l1.eq_2, if_neg (by omega)]
    exact hj L hq
  | d + 1, n, i, L, hd, hn, hq, hz => by
    obtain ⟨n, rfl⟩ : ∃ k, n = k + 1 := ⟨n - 1, by omega⟩
    have hi : i < q.length := by omega
    have ex : q.getD i 0 = q[i] := by simp [List.getD, hi]
    have h6 := hq6 _ (List.getElem_mem hi)
    rw [confidantlaw13_FutureQuotas.l1.eq_2, if_pos (by omega)]
    simp only [lt]
    refine fq_2 K a m hm hm2 q i hi hql hq6 _ (fun L' hq' hz' hc' => ?_) m K 0 L (by omega) (by omega) hq (fun c hc => hz c (by omega)) (fun _ => ?_)
    · have next : confidantlaw13_FutureQuotas.l1 K q ((q.take 16).map clamp) a j n L' (IntKind.i64.wrap ((i : Int) + 1)) = some true := by
        rw [w64_id (by omega) (by omega), show ((i : Int) + 1) = ((i + 1 : Nat) : Int) by omega]
        exact fq_1 K hK a m hm hm2 q hql hq6 j hj d n (i + 1) L' (by omega) (by omega) hq' (fun c hc => hz' c (by omega))
      by_cases h16 : i < 16
      · rw [if_pos (by omega), count_f, hc' h16, hm]
        simp only [b1]
        rw [if_pos (by omega), Int.toNat_natCast, decide_eq_true rfl]
        simp only [Bool.not_true, Bool.false_eq_true, if_false]
        exact next
      · rw [if_neg (by omega)]
        simp only [Bool.false_eq_true, if_false]
        exact next
    · rw [hz i (by omega)]
      unfold mn mx
      split <;> split <;> simp <;> omega

theorem FutureQuotas : confidantlaw13_FutureQuotas.Pure := by
  intro l a _ hl ha
  have ua := is_u8 ha
  obtain ⟨K, hK, hkn⟩ := known_f
  refine ⟨K, ?_⟩
  obtain ⟨m, hm, hm2⟩ : ∃ m : Nat, IntKind.i64.wrap (Int.tmod a 8) = (m : Int) ∧ m < 8 := by
    rw [Int.tmod_eq_emod_of_nonneg (by omega), w64_id (by omega) (by omega)]
    exact ⟨(a % 8).toNat, by omega, by omega⟩
  unfold confidantlaw13_FutureQuotas.f
  simp only [hkn, b1, if_true, lt]
  by_cases h1 : (l.length : Int) > 20
  · rw [if_pos h1]
  rw [if_neg h1]
  refine Eq.trans (fq_0 K l (by omega) hl _ l.length K 0 (by omega) (by omega)) ?_
  have hq6 : ∀ x ∈ l.map qo, -1 ≤ x ∧ x ≤ 4 := by
    intro x hx
    obtain ⟨y, hy, rfl⟩ := List.mem_map.1 hx
    have := is_u8 (hl y hy)
    unfold qo
    rw [Int.tmod_eq_emod_of_nonneg (by omega)]; omega
  have hlen : (l.map qo).length ≤ 20 := by simp; omega
  generalize l.map qo = q at hq6 hlen
  rw [new_f K q (by omega) (by omega)]
  simp only [b2]
  refine fq_1 K (by omega) a m hm hm2 q hlen hq6 _ (fun L hq => ?_) q.length K 0 _ (by omega) (by omega) (new_qs q) (fun c _ => ?_)
  · rw [all_f K hq (by omega)]
    have h2 := hq.len
    rw [List.length_map, List.length_take] at h2
    simp only
    congr 1
    rw [decide_eq_true_iff]
    unfold mn
    split <;> omega
  · unfold row
    by_cases h : c < (q.take 16).length
    · simp [List.getD, List.getElem?_replicate]
      split <;> rfl
    · simp [List.getD, List.getElem?_replicate]
      split <;> rfl
end Go.Proofs.Ytjfnejcanlkknaa.Pure
