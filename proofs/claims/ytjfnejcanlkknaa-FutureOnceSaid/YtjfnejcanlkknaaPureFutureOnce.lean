import Derived.Test.YtjfnejcanlkknaaG0
import Derived.Test.YtjfnejcanlkknaaG8
import Derived.Test.YtjfnejcanlkknaaFuture
/- What came first stays, whatever comes behind. No condition. -/
set_option linter.unusedVariables false
set_option linter.unusedSimpArgs false
namespace Go.Proofs.Ytjfnejcanlkknaa.Pure
open Go Go.Fw Go.RowKit Go.Proofs.Ytjfnejcanlkknaa.G Go.Proofs.Ytjfnejcanlkknaa.Future

theorem ended1 (x : S75) (s v c : Int) : ended [[x]] 0 s v c = if x.f1 = 0 then ([[⟨x.f0, s, v, c⟩]], true) else ([[x]], false) := by
  unfold ended
  have ht : There [[x]] 0 := ⟨by omega, by simp, by simp [row]⟩
  have ha : at_ [[x]] 0 = x := rfl
  rw [ha]
  by_cases h : x.f1 = 0
  · rw [if_pos ⟨ht, h⟩, if_pos h]; rfl
  · rw [if_neg (fun g => h g.2), if_neg h]

/-- what the first one makes of it -/
def first (l : List Int) (v : Int) : S75 := if Int.tmod (l.getD 0 0) 2 = 0 then ⟨0, 1, v, 0⟩ else ⟨0, 2, 0, 1⟩
theorem first_shut (l : List Int) (v : Int) : (first l v).f1 ≠ 0 := by unfold first; split <;> simp

theorem fo_1 (K : Nat) (l : List Int) (hl : l.length ≤ 20) (v : Int) (x : S75) (hx : x.f1 ≠ 0) (j : List (List S75) → Option Bool) : ∀ (d n i : Nat), i + d = l.length → d < n → 1 ≤ i → confidantlaw13_FutureOnce.l0 K l [1] 0 v j n [[x]] (i : Int) = j [[x]]
  | 0, n, i, hd, hn, hi => by
    obtain ⟨n, rfl⟩ : ∃ k, n = k + 1 := ⟨n - 1, by omega⟩
    rw [confidantlaw13_FutureOnce.l0.eq_2, if_neg (by omega)]
  | d + 1, n, i, hd, hn, hi => by
    obtain ⟨n, rfl⟩ : ∃ k, n = k + 1 := ⟨n - 1, by omega⟩
    have hi0 : ¬ (i : Int) = 0 := by omega
    have next : confidantlaw13_FutureOnce.l0 K l [1] 0 v j n [[x]] (IntKind.i64.wrap ((i : Int) + 1)) = j [[x]] := by
      rw [w64_id (by omega) (by omega), show ((i : Int) + 1) = ((i + 1 : Nat) : Int) by omega]
      exact fo_1 K l hl v x hx j d n (i + 1) (by omega) (by omega) (by omega)
    rw [confidantlaw13_FutureOnce.l0.eq_2, if_pos (by omega)]
    simp only [lt]
    rw [if_pos (by omega), keep_f K _ _ _ _ (by omega), break_f K _ _ _ _ (by omega), ended1, ended1, if_neg hx, if_neg hx]
    simp only [b2, decide_eq_false hi0, beq_self_eq_true, if_true, next, ite_self]

theorem FutureOnce : confidantlaw13_FutureOnce.Pure := by
  intro l v _ hl hv
  have uv := is_i32 hv
  obtain ⟨K, hK, hkn⟩ := known_f
  refine ⟨K, ?_⟩
  unfold confidantlaw13_FutureOnce.f
  simp only [hkn, b1, if_true, lt]
  by_cases h1 : (l.length : Int) > 20
  · rw [if_pos h1]
  rw [if_neg h1]
  by_cases h2 : (l.length : Int) = 0
  · rw [if_pos (decide_eq_true h2)]
  have hq := new_qs [1]
  have e1 : (List.replicate (([1] : List Int).take 16).length ([] : List S75)) = [[]] := rfl
  have e2 : (([1] : List Int).take 16).map clamp = [1] := by decide
  rw [e1, e2] at hq
  rw [if_neg (by simpa using h2), new_f K _ (by simp) (by omega), e1, e2]
  simp only [b2]
  rw [make_f K _ _ _ _ hq, made_room ⟨by omega, by decide, by decide⟩]
  simp only [b3, if_true]
  have e3 : ([[]] : List (List S75)).set (0 : Int).toNat (row [[]] 0 ++ [⟨0, 0, 0, 0⟩]) = [[⟨0, 0, 0, 0⟩]] := rfl
  have e4 : (0 : Int) * 65536 + ((row ([[]] : List (List S75)) 0).length : Int) = 0 := rfl
  rw [e3, e4]
  obtain ⟨k, hk⟩ : ∃ k, K = k + 1 := ⟨K - 1, by omega⟩
  have first_step : ∀ j : List (List S75) → Option Bool, confidantlaw13_FutureOnce.l0 K l [1] 0 v j (k + 1) [[⟨0, 0, 0, 0⟩]] 0 = j [[first l v]] := by
    intro j
    have next : confidantlaw13_FutureOnce.l0 K l [1] 0 v j k [[first l v]] (IntKind.i64.wrap (0 + 1)) = j [[first l v]] := by
      rw [w64_id (by omega) (by omega)]
      exact fo_1 K l (by omega) v _ (first_shut l v) j (l.length - 1) k 1 (by omega) (by omega) (by omega)
    rw [confidantlaw13_FutureOnce.l0.eq_2, if_pos (by omega)]
    simp only [lt]
    rw [if_pos (by omega), keep_f K _ _ _ _ (by omega), break_f K _ _ _ _ (by omega), ended1, ended1, if_pos rfl, if_pos rfl]
    have e5 : IntKind.i32.wrap (v + IntKind.i32.wrap 0) = v := by rw [w32_id (x := 0) (by omega) (by omega), w32_id (by omega) (by omega)]; omega
    have e6 : IntKind.i64.wrap (0 + 1) = 1 := by decide
    rw [e5]
    simp only [b2, decide_true, beq_self_eq_true, if_true]
    have e7 : (0 : Int).toNat = 0 := rfl
    rw [e7]
    unfold first at next ⊢
    by_cases hp : Int.tmod (l.getD 0 0) 2 = 0
    · rw [if_pos hp] at next ⊢
      rw [if_pos hp]
      exact next
    · rw [if_neg hp] at next ⊢
      rw [if_neg hp]
      rw [e6] at next ⊢
      exact next
  rw [show confidantlaw13_FutureOnce.l0 K l [1] 0 v _ K [[⟨0, 0, 0, 0⟩]] 0 = confidantlaw13_FutureOnce.l0 K l [1] 0 v _ (k + 1) [[⟨0, 0, 0, 0⟩]] 0 from by rw [← hk], first_step]
  have ht : There [[first l v]] 0 := ⟨by omega, by simp, by simp [row]⟩
  have ha : at_ [[first l v]] 0 = first l v := rfl
  rw [get_f K _ _ _ (by omega), if_pos ht, ha]
  simp only [b2, if_true]
  rw [if_pos (by omega)]
  have e7 : (0 : Int).toNat = 0 := rfl
  rw [e7]
  have hpos : 0 < l.length := by omega
  have hm : 0 ≤ l.getD 0 0 := by
    have : l.getD 0 0 = l[0] := by simp [List.getD, hpos]
    rw [this]
    exact (is_u8 (hl _ (List.getElem_mem hpos))).1
  unfold first
  by_cases hp : Int.tmod (l.getD 0 0) 2 = 0
  · rw [if_pos hp, if_pos hp]
    simp
  · have hp1 : Int.tmod (l.getD 0 0) 2 = 1 := by
      rw [Int.tmod_eq_emod_of_nonneg hm] at hp ⊢; omega
    rw [if_neg hp, if_neg hp, if_pos hp1]
    simp
end Go.Proofs.Ytjfnejcanlkknaa.Pure
