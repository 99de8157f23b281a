import Derived.Test.YtlcnkngpankkpaaG0
import Derived.Test.YtlcnkngpankkpaaG2
import Derived.Test.YtlcnkngpankkpaaVerify
/- Just how deep a stack may be. No condition. -/
set_option linter.unusedVariables false
set_option linter.unusedSimpArgs false
namespace Go.Proofs.Ytlcnkngpankkpaa.Pure
open Go Go.Fw Go.RowKit Go.Proofs.Ytlcnkngpankkpaa.G Go.Proofs.Ytlcnkngpankkpaa.Verify

def pushes (k : Nat) : List S32 := (List.range k).map (fun i : Nat => (⟨1, (i : Int)⟩ : S32))
theorem pushes_len (k : Nat) : (pushes k).length = k := by unfold pushes; simp
theorem pushes_succ (k : Nat) : pushes k ++ [⟨1, (k : Int)⟩] = pushes (k + 1) := by unfold pushes; rw [List.range_succ]; simp
def pops (p : Nat) : List S32 := List.replicate p ⟨2, 0⟩
def code (k p : Nat) : List S32 := pushes k ++ pops p ++ [⟨26, 0⟩]
theorem code_len (k p : Nat) : (code k p).length = k + p + 1 := by unfold code pops; simp [pushes_len]; omega
theorem code_push {k p i : Nat} (h : i < k) : ((code k p).getD i zS32).f0 = 1 := by
  have hl := pushes_len k
  unfold code
  rw [List.append_assoc, List.getD_eq_getElem?_getD, List.getElem?_append_left (by omega)]
  unfold pushes
  simp [h]
theorem code_pop {k p i : Nat} (h : k ≤ i) (h2 : i < k + p) : ((code k p).getD i zS32).f0 = 2 := by
  have hl := pushes_len k
  unfold code
  rw [List.append_assoc, List.getD_eq_getElem?_getD, List.getElem?_append_right (by omega), List.getElem?_append_left (by unfold pops; simp; omega), hl]
  unfold pops
  rw [List.getElem?_replicate, if_pos (by omega)]
  rfl
theorem code_end (k p : Nat) : ((code k p).getD (k + p) zS32).f0 = 26 := by
  have hl : (pushes k ++ pops p).length = k + p := by unfold pops; simp [pushes_len]
  unfold code
  rw [List.getD_eq_getElem?_getD, List.getElem?_append_right (by omega), hl, Nat.sub_self]
  rfl
theorem code_may (K k p : Nat) (c F L G : Int) : ∀ x ∈ code k p, verify_may.f K x.f0 x.f1 c F L G = some true := by
  intro x hx
  unfold code pushes pops at hx
  rcases List.mem_append.1 hx with hx | hx
  · rcases List.mem_append.1 hx with hx | hx
    · obtain ⟨i, _, rfl⟩ := List.mem_map.1 hx
      exact may1 K _ c F L G
    · rw [List.eq_of_mem_replicate hx]; exact may2 K c F L G
  · rw [List.mem_singleton.1 hx]; exact may26 K _ c F L G

/-- how deep it is there -/
def hgt (k j : Nat) : Int := if j ≤ k then (j : Int) else 2 * (k : Int) - (j : Int)
def dep (k len i : Nat) : List Int := (List.range len).map (fun j : Nat => if j ≤ i then hgt k j else -1)
theorem dep_len (k len i : Nat) : (dep k len i).length = len := by unfold dep; simp
theorem dep_get {k len i j : Nat} (h : j < len) : (dep k len i).getD j 0 = if j ≤ i then hgt k j else -1 := by
  unfold dep
  simp [List.getD, h]
theorem dep_at {k len i j : Nat} (h : j < (dep k len i).length) : (dep k len i)[j] = if j ≤ i then hgt k j else -1 := by simp [dep]
theorem dep_set {k len i : Nat} (h : i + 1 < len) : (dep k len i).set (i + 1) (hgt k (i + 1)) = dep k len (i + 1) := by
  refine List.ext_getElem (by simp [dep_len]) (fun j h1 h2 => ?_)
  rw [List.getElem_set, dep_at, dep_at]
  by_cases hj : i + 1 = j
  · subst hj; rw [if_pos rfl, if_pos (Nat.le_refl _)]
  · rw [if_neg hj]
    by_cases h3 : j ≤ i
    · rw [if_pos h3, if_pos (by omega)]
    · rw [if_neg h3, if_neg (by omega)]
theorem dep_zero {k len : Nat} : (List.replicate len (-1 : Int)).set 0 0 = dep k len 0 := by
  refine List.ext_getElem (by simp [dep_len]) (fun j h1 h2 => ?_)
  rw [List.getElem_set, dep_at, List.getElem_replicate]
  by_cases hj : 0 = j
  · subst hj; rw [if_pos rfl, if_pos (Nat.le_refl _)]; unfold hgt; rw [if_pos (Nat.zero_le _)]; rfl
  · rw [if_neg hj, if_neg (by omega)]

theorem run (K : Nat) (hK : 600 ≤ K) (k p m : Nat) (hkp : k + p < 500) (hm : m ≤ k + p) (hok : ∀ i, i < m → (i < k ∧ i + 1 ≤ 32) ∨ (k ≤ i ∧ i < 2 * k ∧ k ≤ 32)) (g : List Int → List Int → Int → Option (List Int × Int)) : ∀ (d n i : Nat), i + d = m →
    verify_walk.l1 K (code k p) g (n + d) [(i : Int)] (dep k (k + p + 1) i) ((code k p).length : Int) = verify_walk.l1 K (code k p) g n [(m : Int)] (dep k (k + p + 1) m) ((code k p).length : Int)
  | 0, n, i, hd => by rw [show i = m by omega]; rfl
  | d + 1, n, i, hd => by
    have hl := code_len k p
    have hdl := dep_len k (k + p + 1) i
    have hg : (dep k (k + p + 1) i).getD i 0 = hgt k i := by rw [dep_get (by omega), if_pos (Nat.le_refl _)]
    have hg2 : (dep k (k + p + 1) i).getD (i + 1) 0 = -1 := by rw [dep_get (by omega), if_neg (by omega)]
    have next := run K hK k p m hkp hm hok g d n (i + 1) (by omega)
    rw [show n + (d + 1) = (n + d) + 1 by omega]
    rcases hok i (by omega) with ⟨h1, h2⟩ | ⟨h1, h2, h3⟩
    · have ho := code_push (p := p) h1
      have hv : hgt k i = (i : Int) := by unfold hgt; rw [if_pos (by omega)]
      have hv2 : hgt k i - 0 + 1 = hgt k (i + 1) := by rw [hv]; unfold hgt; rw [if_pos (by omega)]; omega
      rw [Verify.step K (by omega) (code k p) (by omega) g (n + d) i _ 1 0 1 (hgt k i) (by omega) (by omega) ho (pops1 K) (pushes1 K) (next_on K _ i (by omega) (by omega) 1 ho (.inl rfl)) hg hg2 (by rw [hv]; omega), hv2, dep_set (by omega)]
      exact next
    · have ho := code_pop (p := p) h1 (by omega)
      have hv : hgt k i = 2 * (k : Int) - (i : Int) := by
        unfold hgt
        by_cases h : i ≤ k
        · rw [if_pos h]; omega
        · rw [if_neg h]
      have hv2 : hgt k i - 1 + 0 = hgt k (i + 1) := by rw [hv]; unfold hgt; rw [if_neg (by omega)]; omega
      rw [Verify.step K (by omega) (code k p) (by omega) g (n + d) i _ 2 1 0 (hgt k i) (by omega) (by omega) ho (pops2 K) (pushes2 K) (next_on K _ i (by omega) (by omega) 2 ho (.inr rfl)) hg hg2 (by rw [hv]; omega), hv2, dep_set (by omega)]
      exact next

theorem vs_0 (K : Nat) (a : Int) (k : Nat) (ha : IntKind.i64.wrap (Int.tmod a 40) = (k : Int)) (hk : k ≤ 40) (j : List S32 → Option Bool) : ∀ (d n i : Nat), i + d = k → d < n → confidantlaw8_VerifyStacks.l0 K a j n (pushes i) (i : Int) = j (pushes k)
  | 0, n, i, hd, hn => by
    obtain ⟨n, rfl⟩ : ∃ k, n = k + 1 := ⟨n - 1, by omega⟩
    rw [confidantlaw8_VerifyStacks.l0.eq_2, ha, if_neg (by omega), show i = k by omega]
  | d + 1, n, i, hd, hn => by
    obtain ⟨n, rfl⟩ : ∃ k, n = k + 1 := ⟨n - 1, by omega⟩
    have hl := pushes_len i
    rw [confidantlaw8_VerifyStacks.l0.eq_2, ha, if_pos (by omega), w32_id (by omega) (by omega)]
    simp only [lt, List.length_singleton]
    rw [if_pos (by omega), pushes_succ, w64_id (by omega) (by omega), show ((i : Int) + 1) = ((i + 1 : Nat) : Int) by omega]
    exact vs_0 K a k ha hk j d n (i + 1) (by omega) (by omega)
theorem vs_1 (K : Nat) (a : Int) (k p : Nat) (ha : IntKind.i64.wrap (Int.tmod a 44) = (p : Int)) (hk : k ≤ 40) (hp : p ≤ 44) (j : List S32 → Option Bool) : ∀ (d n i : Nat), i + d = p → d < n → confidantlaw8_VerifyStacks.l1 K a j n (pushes k ++ pops i) (i : Int) = j (pushes k ++ pops p)
  | 0, n, i, hd, hn => by
    obtain ⟨n, rfl⟩ : ∃ k, n = k + 1 := ⟨n - 1, by omega⟩
    rw [confidantlaw8_VerifyStacks.l1.eq_2, ha, if_neg (by omega), show i = p by omega]
  | d + 1, n, i, hd, hn => by
    obtain ⟨n, rfl⟩ : ∃ k, n = k + 1 := ⟨n - 1, by omega⟩
    have hl := pushes_len k
    have hl2 : (pops i).length = i := by unfold pops; simp
    have e : pushes k ++ pops i ++ [⟨2, 0⟩] = pushes k ++ pops (i + 1) := by unfold pops; rw [List.replicate_succ', List.append_assoc]
    rw [confidantlaw8_VerifyStacks.l1.eq_2, ha, if_pos (by omega)]
    simp only [lt, List.length_singleton, List.length_append]
    rw [if_pos (by omega), e, w64_id (by omega) (by omega), show ((i : Int) + 1) = ((i + 1 : Nat) : Int) by omega]
    exact vs_1 K a k p ha hk hp j d n (i + 1) (by omega) (by omega)

theorem VerifyStacks : confidantlaw8_VerifyStacks.Pure := by
  intro a b ha hb
  have ua := is_u8 ha
  have ub := is_u8 hb
  obtain ⟨K, hK, hkn⟩ := known_f
  refine ⟨K, ?_⟩
  obtain ⟨k, hk, hk2⟩ : ∃ k : Nat, IntKind.i64.wrap (Int.tmod a 40) = (k : Int) ∧ k ≤ 39 := by
    refine ⟨(a % 40).toNat, ?_, by omega⟩
    rw [Int.tmod_eq_emod_of_nonneg (by omega), w64_id (by omega) (by omega)]; omega
  obtain ⟨p, hp, hp2⟩ : ∃ k : Nat, IntKind.i64.wrap (Int.tmod b 44) = (k : Int) ∧ k ≤ 43 := by
    refine ⟨(b % 44).toNat, ?_, by omega⟩
    rw [Int.tmod_eq_emod_of_nonneg (by omega), w64_id (by omega) (by omega)]; omega
  unfold confidantlaw8_VerifyStacks.f
  simp only [hkn, b1, if_true, lt]
  refine Eq.trans (vs_0 K a k hk (by omega) _ k K 0 (by omega) (by omega)) ?_
  have e0 : pushes k = pushes k ++ pops 0 := by unfold pops; simp
  rw [e0]
  refine Eq.trans (vs_1 K b k p hp (by omega) (by omega) _ p K 0 (by omega) (by omega)) ?_
  have hl1 : (pushes k ++ pops p).length = k + p := by unfold pops; simp [pushes_len]
  have ec : pushes k ++ pops p ++ [⟨26, 0⟩] = code k p := rfl
  have hl := code_len k p
  simp only [hk, hp, List.length_singleton, hl1, ec]
  rw [if_pos (by omega)]
  have hdz : (List.replicate (code k p).length (-1 : Int)).set 0 0 = dep k (k + p + 1) 0 := by rw [hl]; exact dep_zero
  by_cases h1 : 32 < k
  · have hw : verify_walk.f K (code k p) = some (told (code k p) (dep k (k + p + 1) 32) 32) := by
      refine walk_f K (by omega) _ (by omega) (by omega) _ _ (fun g => ?_)
      rw [hdz, show K = (K - 32) + 32 by omega]
      generalize hK' : K - 32 = n
      rw [show n + 32 = K by omega]
      have hr := run K (by omega) k p 32 (by omega) (by omega) (fun i hi => .inl (by omega)) g 32 n 0 (by omega)
      rw [show n + 32 = K by omega] at hr
      refine Eq.trans hr ?_
      obtain ⟨n', rfl⟩ : ∃ n', n = n' + 2 := ⟨n - 2, by omega⟩
      have hg : (dep k (k + p + 1) 32).getD 32 0 = 32 := by rw [dep_get (by omega), if_pos (Nat.le_refl _)]; unfold hgt; rw [if_pos (by omega)]; rfl
      exact stopBad K _ (by omega) g n' 32 _ 1 0 1 32 (by rw [dep_len]; omega) (by omega) (code_push h1) (pops1 K) (pushes1 K) hg (by omega)
    have ht : (told (code k p) (dep k (k + p + 1) 32) 32).2 = 32 := by unfold told; rw [if_neg (by omega)]
    rw [func_f K (by omega) _ (by omega) (by omega) _ _ _ (code_may K k p _ _ _ _) _ _ hw, ht, show (if (32 : Int) ≥ 0 then ((32 : Int), (24 : Int)) else (0, 0)) = (32, 24) from rfl]
    simp only [b2]
    rw [if_pos (by omega)]
    rfl
  · by_cases h2 : k < p
    · have hw : verify_walk.f K (code k p) = some (told (code k p) (dep k (k + p + 1) (2 * k)) ((2 * k : Nat) : Int)) := by
        refine walk_f K (by omega) _ (by omega) (by omega) _ _ (fun g => ?_)
        rw [hdz]
        obtain ⟨n', hn'⟩ : ∃ n', K = (n' + 2) + 2 * k := ⟨K - 2 * k - 2, by omega⟩
        have hr := run K (by omega) k p (2 * k) (by omega) (by omega) (fun i hi => by omega) g (2 * k) (n' + 2) 0 (by omega)
        rw [← hn'] at hr
        refine Eq.trans hr ?_
        have hg : (dep k (k + p + 1) (2 * k)).getD (2 * k) 0 = 0 := by
          rw [dep_get (by omega), if_pos (Nat.le_refl _)]
          unfold hgt
          split <;> omega
        exact stopBad K _ (by omega) g n' (2 * k) _ 2 1 0 0 (by rw [dep_len]; omega) (by omega) (code_pop (by omega) (by omega)) (pops2 K) (pushes2 K) hg (by omega)
      have ht : (told (code k p) (dep k (k + p + 1) (2 * k)) ((2 * k : Nat) : Int)).2 = ((2 * k : Nat) : Int) := by unfold told; rw [if_neg (by omega)]
      rw [func_f K (by omega) _ (by omega) (by omega) _ _ _ (code_may K k p _ _ _ _) _ _ hw, ht, show (if ((2 * k : Nat) : Int) ≥ 0 then (((2 * k : Nat) : Int), (24 : Int)) else (0, 0)) = (((2 * k : Nat) : Int), 24) from if_pos (by omega)]
      simp only [b2, if_true]
      rw [if_neg (by omega), if_pos (by omega), w64_id (by omega) (by omega)]
      congr 1
      exact decide_eq_true (by omega)
    · have hw : verify_walk.f K (code k p) = some (told (code k p) (dep k (k + p + 1) (k + p)) ((code k p).length : Int)) := by
        refine walk_f K (by omega) _ (by omega) (by omega) _ _ (fun g => ?_)
        rw [hdz]
        obtain ⟨n', hn'⟩ : ∃ n', K = (n' + 2) + (k + p) := ⟨K - (k + p) - 2, by omega⟩
        have hr := run K (by omega) k p (k + p) (by omega) (by omega) (fun i hi => by omega) g (k + p) (n' + 2) 0 (by omega)
        rw [← hn'] at hr
        refine Eq.trans hr ?_
        have hg : (dep k (k + p + 1) (k + p)).getD (k + p) 0 = (k : Int) - (p : Int) := by
          rw [dep_get (by omega), if_pos (Nat.le_refl _)]
          unfold hgt
          split <;> omega
        exact stopEnd K (by omega) _ (by omega) g n' (k + p) _ 26 0 0 _ (by rw [dep_len]; omega) (by omega) (code_end k p) (pops26 K) (pushes26 K) (next_end K _ _ (by omega) (by omega) 26 (code_end k p) (.inr rfl)) hg (by omega)
      have ht : (told (code k p) (dep k (k + p + 1) (k + p)) ((code k p).length : Int)).2 = -1 := by unfold told; rw [if_pos rfl]
      rw [func_f K (by omega) _ (by omega) (by omega) _ _ _ (code_may K k p _ _ _ _) _ _ hw, ht, show (if (-1 : Int) ≥ 0 then ((-1 : Int), (24 : Int)) else (0, 0)) = (0, 0) from rfl, depths_f K (by omega) _ (by omega) (by omega) (code_may K k p _ _ _ _) _ _ hw (by rw [ht]; decide)]
      simp only [b2, b1, if_true]
      have hdl := dep_len k (k + p + 1) (k + p)
      have ei : IntKind.i64.wrap (((k + p + 1 : Nat) : Int) - 1) = ((k + p : Nat) : Int) := by rw [w64_id (by omega) (by omega)]; omega
      simp only [hdl, hl, ei, Int.toNat_natCast, if_true]
      rw [if_neg (by omega), if_neg (by omega), if_pos (by omega), if_pos (by omega), dep_get (by omega), if_pos (Nat.le_refl _), w64_id (by omega) (by omega)]
      congr 1
      refine decide_eq_true ?_
      unfold hgt
      split <;> omega
end Go.Proofs.Ytlcnkngpankkpaa.Pure
