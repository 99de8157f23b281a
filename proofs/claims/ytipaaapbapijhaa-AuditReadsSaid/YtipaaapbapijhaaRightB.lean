import Derived.Test.YtipaaapbapijhaaG0
import Derived.Test.YtipaaapbapijhaaG2
import Derived.Test.YtipaaapbapijhaaReads
import Derived.Test.YtipaaapbapijhaaFwMap
/- Which records may be, and their bytes: the program and the document tell alike. Conditions: in the lemmas. -/
set_option linter.unusedVariables false
set_option linter.unusedSimpArgs false
namespace Go.Proofs.Ytipaaapbapijhaa.RightB
open Go Go.Fw Go.RowKit Go.Proofs.Ytipaaapbapijhaa.G Go.Proofs.Ytipaaapbapijhaa.Reads

theorem mget_mput : ∀ (l : List (Int × Int)) (x v y : Int), mget (mput l x v) y = if x = y then v else mget l y
  | [], x, v, y => by simp [mput, mget]
  | p :: l, x, v, y => by
    have ih := mget_mput l x v y
    unfold mput
    by_cases h : p.1 = x
    · rw [if_pos h]
      simp only [mget]
      by_cases h2 : x = y
      · rw [if_pos h2, if_pos h2]
      · rw [if_neg h2, if_neg h2, if_neg (by rw [h]; exact h2)]
    · rw [if_neg h]
      simp only [mget, ih]
      by_cases h2 : p.1 = y
      · rw [if_pos h2, if_pos h2, if_neg (fun g => h (by rw [h2, g]))]
      · rw [if_neg h2, if_neg h2]

/-- how many of a label stand ahead of i -/
def cnt (z : List S69) (i : Nat) (k : Int) : Nat := ((z.take i).filter (fun r => decide (r.f2 = k))).length
theorem cnt_le (z : List S69) (i : Nat) (k : Int) : cnt z i k ≤ i := by
  unfold cnt
  refine Nat.le_trans (List.length_filter_le _ _) ?_
  rw [List.length_take]; omega
theorem cnt_succ (z : List S69) (i : Nat) (k : Int) (h : i < z.length) : cnt z (i + 1) k = cnt z i k + (if z[i].f2 = k then 1 else 0) := by
  unfold cnt
  have e2 : z.take (i + 1) = z.take i ++ [z[i]] := by rw [List.take_add_one]; simp [h]
  rw [e2, List.filter_append, List.length_append]
  by_cases hk : z[i].f2 = k <;> simp [hk]
def OkAt (z : List S69) (i : Nat) : Prop := 0 ≤ (z.getD i zS69).f4 ∧ (0 < i → (z.getD (i - 1) zS69).f4 ≤ (z.getD i zS69).f4) ∧ 0 ≤ (z.getD i zS69).f1 ∧ 0 ≤ (z.getD i zS69).f2 ∧ 0 ≤ (z.getD i zS69).f5 ∧ (z.getD i zS69).f0 = (cnt z i (z.getD i zS69).f2 : Int)
instance (z : List S69) (i : Nat) : Decidable (OkAt z i) := by unfold OkAt; infer_instance
def RightFrom (z : List S69) (i : Nat) : Prop := ∀ q, q < z.length → i ≤ q → OkAt z q
instance (z : List S69) (i : Nat) : Decidable (RightFrom z i) := by unfold RightFrom; infer_instance
theorem right_end (z : List S69) (i : Nat) (h : z.length ≤ i) : RightFrom z i := fun q h1 h2 => by omega
theorem right_step (z : List S69) (i : Nat) (h : OkAt z i) : RightFrom z i ↔ RightFrom z (i + 1) := by
  constructor
  · exact fun g q h1 h2 => g q h1 (by omega)
  · intro g q h1 h2
    by_cases e : q = i
    · subst e; exact h
    · exact g q h1 (by omega)
theorem right_not (z : List S69) (i : Nat) (hi : i < z.length) (h : ¬ OkAt z i) : ¬ RightFrom z i := fun g => h (g i hi (Nat.le_refl _))

/-- what a record may be -/
def okR (s : S69) : Prop := ((Lit.int .i64 s.f0).wf = true) ∧ ((Lit.int .i64 s.f1).wf = true) ∧ ((Lit.int .i64 s.f2).wf = true) ∧ ((Lit.int .i32 s.f3).wf = true) ∧ ((Lit.int .i64 s.f4).wf = true) ∧ ((Lit.int .i32 s.f5).wf = true) ∧ True
/-- what a list of records may be -/
structure Fit (z : List S69) : Prop where
  len : z.length ≤ 400
  ok : ∀ r ∈ z, okR r
theorem Fit.at_ {z : List S69} (h : Fit z) {i : Nat} (hi : i < z.length) : (-9223372036854775808 ≤ z[i].f0 ∧ z[i].f0 ≤ 9223372036854775807) ∧ (-9223372036854775808 ≤ z[i].f4 ∧ z[i].f4 ≤ 9223372036854775807) ∧ (-2147483648 ≤ z[i].f5 ∧ z[i].f5 ≤ 2147483647) := by
  obtain ⟨h0, h1, h2, h3, h4, h5, _⟩ := h.ok _ (List.getElem_mem hi)
  exact ⟨is_i64 h0, is_i64 h4, is_i32 h5⟩

theorem right_l (K : Nat) (z : List S69) (hz : Fit z) : ∀ (d n i : Nat) (m : List (Int × Int)) (last : Int), i + d = z.length → d < n → (∀ k, mget m k = (cnt z i k : Int)) → last = (if i = 0 then 0 else (z.getD (i - 1) zS69).f4) → 0 ≤ last →
    audit_Right.l0 K z n m last (i : Int) = some (decide (RightFrom z i))
  | 0, n, i, m, last, hd, hn, hm, hl, h0 => by
    obtain ⟨n, rfl⟩ : ∃ k, n = k + 1 := ⟨n - 1, by omega⟩
    rw [audit_Right.l0.eq_2, if_neg (by omega), decide_eq_true (right_end z i (by omega))]
  | d + 1, n, i, m, last, hd, hn, hm, hl, h0 => by
    obtain ⟨n, rfl⟩ : ∃ k, n = k + 1 := ⟨n - 1, by omega⟩
    have hi : i < z.length := by omega
    have hlen := hz.len
    have e : z.getD i zS69 = z[i] := by simp [List.getD, hi]
    obtain ⟨u0, u4, u5⟩ := hz.at_ hi
    have hc := cnt_le z i z[i].f2
    rw [audit_Right.l0.eq_2, if_pos (by omega), if_pos (by omega)]
    simp only [lt, Int.toNat_natCast, e, hm]
    have e5 : IntKind.i64.wrap z[i].f5 = z[i].f5 := w64_id (by omega) (by omega)
    have emn : (mn (mn z[i].f1 z[i].f2) z[i].f5 < 0) ↔ (z[i].f1 < 0 ∨ z[i].f2 < 0 ∨ z[i].f5 < 0) := by
      unfold mn
      constructor
      · intro g; split at g <;> (try split at g) <;> omega
      · intro g; split <;> (try split) <;> omega
    have hlast : (z[i].f4 < last) ↔ ¬ (0 ≤ z[i].f4 ∧ (0 < i → (z.getD (i - 1) zS69).f4 ≤ z[i].f4)) := by
      by_cases hi0 : i = 0
      · rw [if_pos hi0] at hl; subst hl
        constructor
        · intro g h; omega
        · intro g; apply Int.not_le.1; intro h; exact g ⟨h, fun h' => by omega⟩
      · rw [if_neg hi0] at hl
        constructor
        · intro g h; have := h.2 (by omega); omega
        · intro g; apply Int.not_le.1; intro h; exact g ⟨by omega, fun _ => by omega⟩
    rw [e5]
    by_cases h1 : z[i].f4 < last
    · rw [if_pos h1, if_pos trivial, decide_eq_false (right_not z i hi (fun g => (hlast.1 h1) (by unfold OkAt at g; rw [e] at g; exact ⟨g.1, g.2.1⟩)))]
    rw [if_neg h1]
    have h1' : 0 ≤ z[i].f4 ∧ (0 < i → (z.getD (i - 1) zS69).f4 ≤ z[i].f4) := Decidable.byContradiction (fun g => h1 (hlast.2 g))
    by_cases h2 : z[i].f0 = (cnt z i z[i].f2 : Int)
    · rw [if_pos h2]
      by_cases h3 : mn (mn z[i].f1 z[i].f2) z[i].f5 < 0
      · rw [if_pos (decide_eq_true h3), decide_eq_false (right_not z i hi (fun g => by unfold OkAt at g; rw [e] at g; have := emn.1 h3; omega))]
      · rw [if_neg (by simpa using h3)]
        have hok : OkAt z i := by
          unfold OkAt; rw [e]
          have : ¬ (z[i].f1 < 0 ∨ z[i].f2 < 0 ∨ z[i].f5 < 0) := fun g => h3 (emn.2 g)
          exact ⟨h1'.1, h1'.2, by omega, by omega, by omega, h2⟩
        rw [decide_eq_decide.2 (right_step z i hok), w64_id (x := (cnt z i z[i].f2 : Int) + 1) (by omega) (by omega), w64_id (by omega) (by omega), show ((i : Int) + 1) = ((i + 1 : Nat) : Int) by omega]
        refine right_l K z hz d n (i + 1) _ _ (by omega) (by omega) (fun k => ?_) ?_ h1'.1
        · rw [mget_mput, hm k, cnt_succ z i k hi]
          by_cases hk : z[i].f2 = k
          · rw [if_pos hk, if_pos hk, hk]; omega
          · rw [if_neg hk, if_neg hk]; omega
        · rw [if_neg (by omega), Nat.add_sub_cancel, e]
    · rw [if_neg h2, if_pos trivial, decide_eq_false (right_not z i hi (fun g => h2 (by unfold OkAt at g; rw [e] at g; exact g.2.2.2.2.2)))]
theorem right_f (K : Nat) (hK : 2000 ≤ K) (z : List S69) (hz : Fit z) : audit_Right.f K z = some (decide (RightFrom z 0)) :=
  right_l K z hz z.length K 0 [] 0 (by omega) (by have := hz.len; omega) (fun k => by simp [mget, cnt]) rfl (by omega)

theorem rcount (K : Nat) (z : List S69) (hlen : z.length ≤ 400) (i : Nat) (hi : i < z.length) (j : Int → Option Bool) : ∀ (d n k : Nat), k + d = i → d < n → confidantref21_AuditRight.l1 K (i : Int) z j n (cnt z k z[i].f2 : Int) (k : Int) = j (cnt z i z[i].f2 : Int)
  | 0, n, k, hd, hn => by
    obtain ⟨n, rfl⟩ : ∃ k, n = k + 1 := ⟨n - 1, by omega⟩
    rw [confidantref21_AuditRight.l1.eq_2, if_neg (by omega), show k = i by omega]
  | d + 1, n, k, hd, hn => by
    obtain ⟨n, rfl⟩ : ∃ k, n = k + 1 := ⟨n - 1, by omega⟩
    have hk : k < z.length := by omega
    have e : z.getD i zS69 = z[i] := by simp [List.getD, hi]
    have e2 : z.getD k zS69 = z[k] := by simp [List.getD, hk]
    have hc := cnt_le z k z[i].f2
    have next := rcount K z hlen i hi j d n (k + 1) (by omega) (by omega)
    rw [cnt_succ z k _ hk] at next
    rw [confidantref21_AuditRight.l1.eq_2, if_pos (by omega)]
    simp only [lt, Int.toNat_natCast, e, e2]
    rw [if_pos (by omega), if_pos (by omega), w64_id (x := (k : Int) + 1) (by omega) (by omega), show ((k : Int) + 1) = ((k + 1 : Nat) : Int) by omega]
    by_cases h : z[k].f2 = z[i].f2
    · rw [if_pos h] at next ⊢
      rw [w64_id (by omega) (by omega), show ((cnt z k z[i].f2 : Int) + 1) = ((cnt z k z[i].f2 + 1 : Nat) : Int) by omega]
      exact next
    · rw [if_neg h] at next ⊢
      exact next
theorem rright_l (K : Nat) (hK : 2000 ≤ K) (z : List S69) (hz : Fit z) : ∀ (d n i : Nat), i + d = z.length → d < n → confidantref21_AuditRight.l0 K z n (i : Int) = some (decide (RightFrom z i))
  | 0, n, i, hd, hn => by
    obtain ⟨n, rfl⟩ : ∃ k, n = k + 1 := ⟨n - 1, by omega⟩
    rw [confidantref21_AuditRight.l0.eq_2, if_neg (by omega), decide_eq_true (right_end z i (by omega))]
  | d + 1, n, i, hd, hn => by
    obtain ⟨n, rfl⟩ : ∃ k, n = k + 1 := ⟨n - 1, by omega⟩
    have hi : i < z.length := by omega
    have hlen := hz.len
    have e : z.getD i zS69 = z[i] := by simp [List.getD, hi]
    have next := rright_l K hK z hz d n (i + 1) (by omega) (by omega)
    rw [confidantref21_AuditRight.l0.eq_2, if_pos (by omega)]
    have en : IntKind.i64.wrap ((i : Int) + 1) = ((i + 1 : Nat) : Int) := by rw [w64_id (by omega) (by omega)]; omega
    simp only [lt, Int.toNat_natCast, e, en, next]
    rw [if_pos (by omega)]
    have bad : ¬ OkAt z i → (some false : Option Bool) = some (decide (RightFrom z i)) := fun g => by rw [decide_eq_false (right_not z i hi g)]
    have good : 0 ≤ z[i].f4 → (0 < i → (z.getD (i - 1) zS69).f4 ≤ z[i].f4) → ¬ z[i].f1 < 0 → ¬ z[i].f2 < 0 → ¬ z[i].f5 < 0 →
        confidantref21_AuditRight.l1 K (i : Int) z (fun b => if z[i].f0 = b then some (decide (RightFrom z (i + 1))) else some false) K 0 0 = some (decide (RightFrom z i)) := by
      intro g1 g2 g3 g4 g5
      have h0 : cnt z 0 z[i].f2 = 0 := by unfold cnt; simp
      have := rcount K z hlen i hi (fun b => if z[i].f0 = b then some (decide (RightFrom z (i + 1))) else some false) i K 0 (by omega) (by omega)
      rw [h0] at this
      refine Eq.trans this ?_
      by_cases h : z[i].f0 = (cnt z i z[i].f2 : Int)
      · rw [if_pos h, ← decide_eq_decide.2 (right_step z i (by unfold OkAt; rw [e]; exact ⟨g1, g2, by omega, by omega, by omega, h⟩))]
      · rw [if_neg h]
        exact bad (fun g => h (by unfold OkAt at g; rw [e] at g; exact g.2.2.2.2.2))
    by_cases h1 : z[i].f4 < 0
    · rw [if_pos h1, if_pos trivial]; exact bad (fun g => by unfold OkAt at g; rw [e] at g; omega)
    rw [if_neg h1]
    have tail : (0 < i → (z.getD (i - 1) zS69).f4 ≤ z[i].f4) → (if z[i].f1 < 0 then (if True then some false else confidantref21_AuditRight.l1 K (i : Int) z (fun b => if z[i].f0 = b then some (decide (RightFrom z (i + 1))) else some false) K 0 0) else if z[i].f2 < 0 then (if True then some false else confidantref21_AuditRight.l1 K (i : Int) z (fun b => if z[i].f0 = b then some (decide (RightFrom z (i + 1))) else some false) K 0 0) else if decide (z[i].f5 < 0) = true then some false else confidantref21_AuditRight.l1 K (i : Int) z (fun b => if z[i].f0 = b then some (decide (RightFrom z (i + 1))) else some false) K 0 0) = some (decide (RightFrom z i)) := by
      intro g2
      by_cases g3 : z[i].f1 < 0
      · rw [if_pos g3, if_pos trivial]; exact bad (fun g => by unfold OkAt at g; rw [e] at g; omega)
      rw [if_neg g3]
      by_cases g4 : z[i].f2 < 0
      · rw [if_pos g4, if_pos trivial]; exact bad (fun g => by unfold OkAt at g; rw [e] at g; omega)
      rw [if_neg g4]
      by_cases g5 : z[i].f5 < 0
      · rw [if_pos (decide_eq_true g5)]; exact bad (fun g => by unfold OkAt at g; rw [e] at g; omega)
      rw [if_neg (by simpa using g5)]
      exact good (by omega) g2 g3 g4 g5
    by_cases hi0 : (i : Int) > 0
    · have ep : IntKind.i64.wrap ((i : Int) - 1) = ((i - 1 : Nat) : Int) := by rw [w64_id (by omega) (by omega)]; omega
      rw [if_pos hi0, ep, if_pos (by omega), if_pos (by omega), Int.toNat_natCast]
      by_cases g2 : z[i].f4 < (z.getD (i - 1) zS69).f4
      · rw [if_pos g2, if_pos trivial]; exact bad (fun g => by unfold OkAt at g; rw [e] at g; have := g.2.1 (by omega); omega)
      · rw [if_neg g2]
        exact tail (fun _ => by omega)
    · rw [if_neg hi0]
      exact tail (fun h => by omega)
theorem rright_f (K : Nat) (hK : 2000 ≤ K) (z : List S69) (hz : Fit z) : confidantref21_AuditRight.f K z = some (decide (RightFrom z 0)) :=
  rright_l K hK z hz z.length K 0 (by omega) (by have := hz.len; omega)
end Go.Proofs.Ytipaaapbapijhaa.RightB
