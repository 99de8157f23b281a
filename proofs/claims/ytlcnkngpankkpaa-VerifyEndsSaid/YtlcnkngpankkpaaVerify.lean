import Derived.Test.YtlcnkngpankkpaaG0
import Derived.Test.YtlcnkngpankkpaaG1
import Derived.Test.YtlcnkngpankkpaaFwLaw
/- What verify tells of code that goes straight on. Conditions: in the lemmas. -/
set_option linter.unusedVariables false
set_option linter.unusedSimpArgs false
namespace Go.Proofs.Ytlcnkngpankkpaa.Verify
open Go Go.Fw Go.RowKit Go.Proofs.Ytlcnkngpankkpaa.G

theorem pops1 (K : Nat) : ops_Pops.f K 1 = some 0 := by kernel_rfl
theorem pops2 (K : Nat) : ops_Pops.f K 2 = some 1 := by kernel_rfl
theorem pops25 (K : Nat) : ops_Pops.f K 25 = some 1 := by kernel_rfl
theorem pops26 (K : Nat) : ops_Pops.f K 26 = some 0 := by kernel_rfl
theorem pushes1 (K : Nat) : ops_Pushes.f K 1 = some 1 := by kernel_rfl
theorem pushes2 (K : Nat) : ops_Pushes.f K 2 = some 0 := by kernel_rfl
theorem pushes25 (K : Nat) : ops_Pushes.f K 25 = some 0 := by kernel_rfl
theorem pushes26 (K : Nat) : ops_Pushes.f K 26 = some 0 := by kernel_rfl
theorem may1 (K : Nat) (x c F L G : Int) : verify_may.f K 1 x c F L G = some true := by kernel_rfl
theorem may2 (K : Nat) (c F L G : Int) : verify_may.f K 2 0 c F L G = some true := by kernel_rfl
theorem may25 (K : Nat) (c F L G : Int) : verify_may.f K 25 0 c F L G = some true := by kernel_rfl
theorem may26 (K : Nat) (x c F L G : Int) : verify_may.f K 26 x c F L G = some true := by kernel_rfl

theorem next_on (K : Nat) (f : List S32) (i : Nat) (hi : i < f.length) (hl : f.length ≤ 512) (o : Int) (ho : (f.getD i zS32).f0 = o) (h : o = 1 ∨ o = 2) : verify_next.f K f (i : Int) = some [((i + 1 : Nat) : Int)] := by
  unfold verify_next.f ops_Ends.f
  rw [if_pos (by omega), if_pos (by omega), Int.toNat_natCast, ho]
  have e : IntKind.i64.wrap ((i : Int) + 1) = ((i + 1 : Nat) : Int) := by rw [w64_id (by omega) (by omega)]; omega
  rcases h with rfl | rfl <;> rw [e] <;> rfl
theorem next_end (K : Nat) (f : List S32) (i : Nat) (hi : i < f.length) (hl : f.length ≤ 512) (o : Int) (ho : (f.getD i zS32).f0 = o) (h : o = 25 ∨ o = 26) : verify_next.f K f (i : Int) = some [] := by
  unfold verify_next.f ops_Ends.f
  rw [if_pos (by omega), if_pos (by omega), Int.toNat_natCast, ho]
  rcases h with rfl | rfl <;> rfl

theorem step (K : Nat) (hK : 3 ≤ K) (f : List S32) (hf : f.length ≤ 512) (g : List Int → List Int → Int → Option (List Int × Int)) (n i : Nat) (D : List Int) (o c q v : Int) (hD : D.length = f.length) (hi : i + 1 < f.length) (ho : (f.getD i zS32).f0 = o)
    (hp : ops_Pops.f K o = some c) (hq : ops_Pushes.f K o = some q) (hn : verify_next.f K f (i : Int) = some [((i + 1 : Nat) : Int)]) (hv : D.getD i 0 = v) (hneg : D.getD (i + 1) 0 = -1) (hb : 0 ≤ v - c ∧ v ≤ 100 ∧ 0 ≤ q ∧ v - c + q ≤ 32 ∧ 0 ≤ c) :
    verify_walk.l1 K f g (n + 1) [(i : Int)] D (f.length : Int) = verify_walk.l1 K f g n [((i + 1 : Nat) : Int)] (D.set (i + 1) (v - c + q)) (f.length : Int) := by
  obtain ⟨m, rfl⟩ : ∃ m, K = m + 2 := ⟨K - 2, by omega⟩
  have e0 : ([(i : Int)] : List Int).getD (0 : Int).toNat 0 = (i : Int) := rfl
  have e1 : ([((i + 1 : Nat) : Int)] : List Int).getD (0 : Int).toNat 0 = ((i + 1 : Nat) : Int) := rfl
  have e2 : IntKind.i64.wrap (v - c) = v - c := w64_id (by omega) (by omega)
  have e3 : IntKind.i64.wrap (v - c + q) = v - c + q := w64_id (by omega) (by omega)
  have e4 : IntKind.i64.wrap (0 + 1) = 1 := by decide
  rw [verify_walk.l1.eq_2, if_pos (by simp)]
  simp only [lt, e0, Int.toNat_natCast, ho, hv]
  rw [if_pos (by simp), if_pos (by omega), if_pos (by omega), if_pos (by omega), hp]
  simp only [b1, e2, hq, e3]
  rw [if_neg (by omega), if_neg (by simp; omega), hn]
  simp only
  rw [verify_walk.l2.eq_2, if_pos (by simp)]
  simp only [lt, e1, Int.toNat_natCast, e3, e4, hneg]
  rw [if_pos (by omega), if_neg (by omega), if_pos (by omega), if_pos (by omega), if_pos (by omega), if_pos (by simp), verify_walk.l2.eq_2, if_neg (by simp)]
  simp only [List.length_append, List.length_singleton]
  rw [if_pos (by omega)]
  rfl
theorem gone (K : Nat) (f : List S32) (g : List Int → List Int → Int → Option (List Int × Int)) (n : Nat) (D : List Int) (b : Int) : verify_walk.l1 K f g (n + 1) [] D b = g [] D b := by
  rw [verify_walk.l1.eq_2, if_neg (by simp)]
theorem stopBad (K : Nat) (f : List S32) (hf : f.length ≤ 512) (g : List Int → List Int → Int → Option (List Int × Int)) (n i : Nat) (D : List Int) (o c q v : Int) (hD : D.length = f.length) (hi : i < f.length) (ho : (f.getD i zS32).f0 = o)
    (hp : ops_Pops.f K o = some c) (hq : ops_Pushes.f K o = some q) (hv : D.getD i 0 = v) (hb : (v - c < 0 ∨ v - c + q > 32) ∧ 0 ≤ v ∧ v ≤ 100 ∧ 0 ≤ q ∧ q ≤ 2 ∧ 0 ≤ c ∧ c ≤ 2) :
    verify_walk.l1 K f g (n + 2) [(i : Int)] D (f.length : Int) = g [] D (i : Int) := by
  have e0 : ([(i : Int)] : List Int).getD (0 : Int).toNat 0 = (i : Int) := rfl
  have e2 : IntKind.i64.wrap (v - c) = v - c := w64_id (by omega) (by omega)
  have e3 : IntKind.i64.wrap (v - c + q) = v - c + q := w64_id (by omega) (by omega)
  have e5 : mn (f.length : Int) (i : Int) = (i : Int) := by unfold mn; split <;> omega
  rw [verify_walk.l1.eq_2, if_pos (by simp)]
  simp only [lt, e0, Int.toNat_natCast, ho, hv]
  rw [if_pos (by simp), if_pos (by omega), if_pos (by omega), if_pos (by omega), hp]
  simp only [b1, e2, hq, e3, e5]
  have last : (if (1 : Int) ≤ (([(i : Int)] : List Int).length : Int) then verify_walk.l1 K f g (n + 1) (([(i : Int)] : List Int).drop 1) D (i : Int) else none) = g [] D (i : Int) := by
    rw [if_pos (by simp)]
    exact gone K f g n D _
  by_cases h : v - c < 0
  · rw [if_pos h, if_pos trivial]; exact last
  · rw [if_neg h, if_pos (decide_eq_true (by omega))]; exact last
theorem stopEnd (K : Nat) (hK : 1 ≤ K) (f : List S32) (hf : f.length ≤ 512) (g : List Int → List Int → Int → Option (List Int × Int)) (n i : Nat) (D : List Int) (o c q v : Int) (hD : D.length = f.length) (hi : i < f.length) (ho : (f.getD i zS32).f0 = o)
    (hp : ops_Pops.f K o = some c) (hq : ops_Pushes.f K o = some q) (hn : verify_next.f K f (i : Int) = some []) (hv : D.getD i 0 = v) (hb : 0 ≤ v - c ∧ v ≤ 100 ∧ 0 ≤ q ∧ v - c + q ≤ 32 ∧ 0 ≤ c) :
    verify_walk.l1 K f g (n + 2) [(i : Int)] D (f.length : Int) = g [] D (f.length : Int) := by
  obtain ⟨m, rfl⟩ : ∃ m, K = m + 1 := ⟨K - 1, by omega⟩
  have e0 : ([(i : Int)] : List Int).getD (0 : Int).toNat 0 = (i : Int) := rfl
  have e2 : IntKind.i64.wrap (v - c) = v - c := w64_id (by omega) (by omega)
  have e3 : IntKind.i64.wrap (v - c + q) = v - c + q := w64_id (by omega) (by omega)
  rw [verify_walk.l1.eq_2, if_pos (by simp)]
  simp only [lt, e0, Int.toNat_natCast, ho, hv]
  rw [if_pos (by simp), if_pos (by omega), if_pos (by omega), if_pos (by omega), hp]
  simp only [b1, e2, hq, e3]
  rw [if_neg (by omega), if_neg (by simp; omega), hn]
  simp only
  rw [verify_walk.l2.eq_2, if_neg (by simp)]
  rw [if_pos (by simp)]
  exact gone _ f g n D _

/-! ### ahead of the walk -/
theorem fill (K : Nat) (c5 : List Int) (hc : c5.length ≤ 512) (g : List Int → Option (List Int × Int)) : ∀ (d n i : Nat), i + d = c5.length → d < n → verify_walk.l0 K c5 g n (List.replicate i (-1) ++ List.replicate (c5.length - i) 0) (i : Int) = g (List.replicate c5.length (-1))
  | 0, n, i, hd, hn => by
    obtain ⟨n, rfl⟩ : ∃ k, n = k + 1 := ⟨n - 1, by omega⟩
    rw [verify_walk.l0.eq_2, if_neg (by omega), show i = c5.length by omega]
    simp
  | d + 1, n, i, hd, hn => by
    obtain ⟨n, rfl⟩ : ∃ k, n = k + 1 := ⟨n - 1, by omega⟩
    obtain ⟨m, hm⟩ : ∃ m, c5.length - i = m + 1 := ⟨c5.length - i - 1, by omega⟩
    have hm2 : c5.length - (i + 1) = m := by omega
    have e : (List.replicate i (-1 : Int) ++ List.replicate (m + 1) 0).set i (-1) = List.replicate (i + 1) (-1) ++ List.replicate m 0 := by
      rw [List.set_append_right _ _ (by simp)]
      simp only [List.length_replicate, Nat.sub_self, List.replicate_succ, List.set_cons_zero]
      rw [← List.replicate_succ, List.replicate_succ', List.append_assoc]
      rfl
    rw [verify_walk.l0.eq_2, if_pos (by omega), if_pos (by omega), if_pos (by simp; omega), hm, Int.toNat_natCast, e]
    simp only [lt]
    rw [w64_id (by omega) (by omega), show ((i : Int) + 1) = ((i + 1 : Nat) : Int) by omega]
    have := fill K c5 hc g d n (i + 1) (by omega) (by omega)
    rw [hm2] at this
    exact this
/-- what is told behind the walk -/
def told (f : List S32) (D : List Int) (b : Int) : List Int × Int := (D, if b = (f.length : Int) then -1 else b)
theorem walk_f (K : Nat) (hK : 600 ≤ K) (f : List S32) (hf : f.length ≤ 512) (hf0 : 0 < f.length) (D : List Int) (b : Int)
    (h : ∀ g, verify_walk.l1 K f g K [0] ((List.replicate f.length (-1)).set 0 0) (f.length : Int) = g [] D b) : verify_walk.f K f = some (told f D b) := by
  unfold verify_walk.f
  rw [if_pos (by omega), if_pos (by omega)]
  simp only [lt, Int.toNat_natCast]
  have h0 := fill K (List.replicate f.length 0) (by simpa using hf)
  simp only [List.length_replicate] at h0
  refine Eq.trans (h0 _ f.length K 0 (by omega) (by omega)) ?_
  simp only [List.length_replicate]
  rw [if_pos (by omega)]
  refine Eq.trans (h _) ?_
  unfold told
  split <;> rfl
theorem func_l (K : Nat) (f : List S32) (hf : f.length ≤ 512) (F L G : Int) (j : Option (Int × Int)) (hm : ∀ x ∈ f, verify_may.f K x.f0 x.f1 (f.length : Int) F L G = some true) : ∀ (d n i : Nat), i + d = f.length → d < n → verify_Func.l0 K f F L G j n (i : Int) = j
  | 0, n, i, hd, hn => by
    obtain ⟨n, rfl⟩ : ∃ k, n = k + 1 := ⟨n - 1, by omega⟩
    rw [verify_Func.l0.eq_2, if_neg (by omega)]
  | d + 1, n, i, hd, hn => by
    obtain ⟨n, rfl⟩ : ∃ k, n = k + 1 := ⟨n - 1, by omega⟩
    have hi : i < f.length := by omega
    have e : f.getD (i : Int).toNat zS32 = f[i] := by simp [List.getD, hi]
    rw [verify_Func.l0.eq_2, if_pos (by omega), if_pos (by omega), e, hm _ (List.getElem_mem hi)]
    simp only [b1, if_true]
    rw [w64_id (by omega) (by omega), show ((i : Int) + 1) = ((i + 1 : Nat) : Int) by omega]
    exact func_l K f hf F L G j hm d n (i + 1) (by omega) (by omega)
theorem func_f (K : Nat) (hK : 600 ≤ K) (f : List S32) (hf : f.length ≤ 512) (hf0 : 0 < f.length) (F L G : Int) (hm : ∀ x ∈ f, verify_may.f K x.f0 x.f1 (f.length : Int) F L G = some true) (D : List Int) (b : Int)
    (h : verify_walk.f K f = some (told f D b)) : verify_Func.f K f F L G = some (if (told f D b).2 ≥ 0 then ((told f D b).2, 24) else (0, 0)) := by
  unfold verify_Func.f
  rw [if_neg (by omega), if_neg (by omega)]
  simp only [lt]
  refine Eq.trans (func_l K f hf F L G _ hm f.length K 0 (by omega) (by omega)) ?_
  rw [h]
  simp only [b2]
  split <;> rfl
theorem depths_f (K : Nat) (hK : 600 ≤ K) (f : List S32) (hf : f.length ≤ 512) (hf0 : 0 < f.length) (hm : ∀ x ∈ f, verify_may.f K x.f0 x.f1 (f.length : Int) 2147483648 2147483648 2147483648 = some true) (D : List Int) (b : Int)
    (h : verify_walk.f K f = some (told f D b)) (hb : (told f D b).2 < 0) : verify_Depths.f K f = some D := by
  unfold verify_Depths.f
  rw [func_f K hK f hf hf0 _ _ _ hm D b h, if_neg (by omega)]
  simp only [b2]
  rw [if_pos trivial, h]
  rfl
theorem known_f : ∃ K, 5000 ≤ K ∧ confidantlaw8_known.f K = some true := ⟨5000, Nat.le_refl _, by kernel_rfl⟩
end Go.Proofs.Ytlcnkngpankkpaa.Verify
