import Derived.Test.YtipaaapbapijhaaG0
import Derived.Test.YtipaaapbapijhaaG2
import Derived.Test.YtipaaapbapijhaaG12
import Derived.Test.YtipaaapbapijhaaPark
/- Who waits stays, in order, as long as nothing has come and there is fuel. No condition. -/
set_option linter.unusedVariables false
set_option linter.unusedSimpArgs false
namespace Go.Proofs.Ytipaaapbapijhaa.Pure
open Go Go.Fw Go.RowKit Go.Proofs.Ytipaaapbapijhaa.G Go.Proofs.Ytipaaapbapijhaa.Future Go.Proofs.Ytipaaapbapijhaa.Park

/-- the one of a number -/
def mk (i : Nat) : S60 := ⟨⟨(i : Int), 0, 0, [], ⟨0, 0, 0, 0⟩, 0, 0, 0, 0⟩, (i : Int)⟩
def items (i : Nat) : List S60 := (List.range i).map mk
theorem items_len (i : Nat) : (items i).length = i := by unfold items; simp
theorem items_succ (i : Nat) : items (i + 1) = items i ++ [mk i] := by unfold items; rw [List.range_succ]; simp
theorem items_get {k i : Nat} (h : i < k) : (items k)[i]'(by rw [items_len]; exact h) = mk i := by unfold items; simp
theorem items_mem {k : Nat} {x : S60} (h : x ∈ items k) : ∃ i, i < k ∧ x = mk i := by
  unfold items at h
  obtain ⟨i, hi, rfl⟩ := List.mem_map.1 h
  exact ⟨i, List.mem_range.1 hi, rfl⟩

/-- all open -/
def opens (k : Nat) : List (List S96) := [List.replicate k zS96]
theorem opens_qs {k : Nat} (h : k ≤ 10) : Qs (opens k) [20] := by
  refine ⟨rfl, by simp [opens], fun x hx => ?_, fun y hy => ?_⟩
  · rw [List.mem_singleton.1 hx]; omega
  · unfold opens at hy; rw [List.mem_singleton.1 hy]; simp; omega
theorem row1 (r : List S96) : row [r] 0 = r := rfl
theorem at1 (r : List S96) {i : Nat} (h : i < 65536) : at_ [r] (i : Int) = r.getD i zS96 := by
  have e1 : (i : Int) / 65536 = 0 := by omega
  have e2 : (i : Int) % 65536 = (i : Int) := by omega
  unfold at_
  rw [e1, e2, row1, Int.toNat_natCast]
theorem there1 {r : List S96} {i : Nat} (h : i < r.length) (h2 : r.length ≤ 65536) : There [r] (i : Int) := by
  have e1 : (i : Int) / 65536 = 0 := by omega
  have e2 : (i : Int) % 65536 = (i : Int) := by omega
  refine ⟨by omega, by rw [e1]; simp, by rw [e1, e2, row1]; omega⟩
theorem open_not {k i : Nat} (h : i < k) (hk : k ≤ 10) : ¬ Done (opens k) (mk i).f1 := by
  intro hd
  have h1 := hd.2
  unfold opens at h1
  have e : (mk i).f1 = (i : Int) := rfl
  rw [e, at1 _ (by omega)] at h1
  apply h1
  simp [List.getD, List.getElem?_replicate, h, zS96]
/-- one broken -/
def broken (k m : Nat) : List (List S96) := [(List.replicate k zS96).set m ⟨0, 2, 0, 5⟩]
theorem broken_f {k m : Nat} (h : m < k) (hk : k ≤ 10) : ended (opens k) (m : Int) 2 0 5 = (broken k m, true) := by
  have e1 : (m : Int) / 65536 = 0 := by omega
  have e2 : (m : Int) % 65536 = (m : Int) := by omega
  have ha : at_ (opens k) (m : Int) = zS96 := by
    unfold opens
    rw [at1 _ (by omega)]
    simp [List.getD, List.getElem?_replicate, h]
  unfold ended
  rw [ha, if_pos ⟨there1 (by simpa using h) (by simp; omega), rfl⟩, e1, e2]
  unfold opens broken
  rw [row1, Int.toNat_natCast]
  rfl
theorem broken_done {k m i : Nat} (h : i < k) (hm : m < k) (hk : k ≤ 10) : Done (broken k m) (mk i).f1 ↔ i = m := by
  have e : (mk i).f1 = (i : Int) := rfl
  have hl : i < ((List.replicate k zS96).set m ⟨0, 2, 0, 5⟩).length := by simpa using h
  have ht : There (broken k m) (i : Int) := there1 hl (by simp; omega)
  have ha : at_ (broken k m) (i : Int) = if m = i then ⟨0, 2, 0, 5⟩ else zS96 := by
    unfold broken
    rw [at1 _ (by omega)]
    by_cases hh : m = i
    · subst hh; simp [List.getD, hm]
    · simp [List.getD, List.getElem?_set, List.getElem?_replicate, hh, h]
  rw [e]
  unfold Done
  rw [ha]
  constructor
  · intro g
    have g2 := g.2
    by_cases hh : m = i
    · exact hh.symm
    · rw [if_neg hh] at g2; exact absurd rfl g2
  · intro g
    refine ⟨ht, ?_⟩
    rw [if_pos g.symm]; decide

theorem ps_0 (K : Nat) (hK : 5000 ≤ K) (a4 : Int) (k : Nat) (ha : IntKind.i64.wrap (IntKind.i64.wrap (Int.tmod a4 10) + 1) = (k : Int)) (hk : k ≤ 10) (j : List S60 → List (List S96) → Option Bool) : ∀ (d n i : Nat), i + d = k → d < n →
    confidantlaw20_ParkStays.l0 K a4 [20] j n (items i) (opens i) (i : Int) = j (items k) (opens k)
  | 0, n, i, hd, hn => by
    obtain ⟨n, rfl⟩ : ∃ k, n = k + 1 := ⟨n - 1, by omega⟩
    rw [confidantlaw20_ParkStays.l0.eq_2, ha, if_neg (by omega), show i = k by omega]
  | d + 1, n, i, hd, hn => by
    obtain ⟨n, rfl⟩ : ∃ k, n = k + 1 := ⟨n - 1, by omega⟩
    have hroom : Room (opens i) [20] 0 := ⟨by omega, by simp [opens], by unfold opens; rw [row1, List.length_replicate]; show (i : Int) < 20; omega⟩
    have e4 : made (opens i) [20] 0 0 = (opens (i + 1), (i : Int), true) := by
      rw [made_room hroom]
      unfold opens
      rw [row1, List.replicate_succ', List.length_replicate]
      simp only [Int.zero_mul, Int.zero_add]
      rfl
    have hl := items_len i
    rw [confidantlaw20_ParkStays.l0.eq_2, ha, if_pos (by omega), make_f K _ _ _ _ (opens_qs (by omega)), e4]
    simp only [b3, if_true]
    rw [add_f K _ (by omega) _ _ _ _ _ _ _ _ _ _ _ _ _ (by simp), w32_id (by omega) (by omega), w64_id (x := (i : Int) + 1) (by omega) (by omega), show ((i : Int) + 1) = ((i + 1 : Nat) : Int) by omega]
    simp only [b1]
    have e5 : items i ++ [(⟨⟨(i : Int), 0, 0, [], ⟨0, 0, 0, 0⟩, 0, 0, 0, 0⟩, (i : Int)⟩ : S60)] = items (i + 1) := (items_succ i).symm
    rw [e5]
    exact ps_0 K hK a4 k ha hk j d n (i + 1) (by omega) (by omega)

theorem items_id (k : Nat) (hk : k ≤ 10) : ∀ x ∈ items k, -2147483648 ≤ x.f1 ∧ x.f1 < 2147483648 := by
  intro x hx
  obtain ⟨i, hi, rfl⟩ := items_mem hx
  show -2147483648 ≤ (i : Int) ∧ (i : Int) < 2147483648
  omega
theorem ps_1 (K : Nat) (hK : 5000 ≤ K) (a4 a5 : Int) (k s : Nat) (ha : IntKind.i64.wrap (IntKind.i64.wrap (Int.tmod a4 10) + 1) = (k : Int)) (hk : k ≤ 10) (hs : IntKind.i64.wrap (Int.tmod a5 5) = (s : Int)) (hs2 : s ≤ 5) (j : List S60 → Option Bool) : ∀ (d n i : Nat), i + d = s → d < n →
    confidantlaw20_ParkStays.l1 K a5 (opens k) [20] a4 j n (items k) (i : Int) = j (items k)
  | 0, n, i, hd, hn => by
    obtain ⟨n, rfl⟩ : ∃ k, n = k + 1 := ⟨n - 1, by omega⟩
    rw [confidantlaw20_ParkStays.l1.eq_2, hs, if_neg (by omega)]
  | d + 1, n, i, hd, hn => by
    obtain ⟨n, rfl⟩ : ∃ k, n = k + 1 := ⟨n - 1, by omega⟩
    have hl := items_len k
    have hmx : mx (100 : Int) 0 = ((100 : Nat) : Int) := by decide
    have hlook := look_all (opens k) (items k) 100 (fun x hx => by obtain ⟨i, hi, rfl⟩ := items_mem hx; exact open_not hi hk) (by omega)
    rw [confidantlaw20_ParkStays.l1.eq_2, hs, if_pos (by omega), look_f K (items k) (by omega) (items_id k hk) _ _ 100 _ hmx (by omega) (by omega), hlook]
    simp only [b4, b1, lt, len_f, ha, hl, List.length_nil]
    rw [if_pos (by decide), if_pos (by decide), if_pos (by rw [w64_id (by omega) (by omega)]; omega), if_neg (by simp), w64_id (by omega) (by omega), show ((i : Int) + 1) = ((i + 1 : Nat) : Int) by omega]
    exact ps_1 K hK a4 a5 k s ha hk hs hs2 j d n (i + 1) (by omega) (by omega)

theorem ps_2 (K : Nat) (l : List S60) (k m : Nat) (hl : l.length + 1 = k) (hk : k ≤ 10) (hg : ∀ (i : Nat) (h : i < l.length), l[i] = mk (if m ≤ i then i + 1 else i)) : ∀ (d n i : Nat), i + d = l.length → d < n → confidantlaw20_ParkStays.l2 K l (m : Int) n (i : Int) = some true
  | 0, n, i, hd, hn => by
    obtain ⟨n, rfl⟩ : ∃ k, n = k + 1 := ⟨n - 1, by omega⟩
    rw [confidantlaw20_ParkStays.l2.eq_2, if_neg (by omega)]
  | d + 1, n, i, hd, hn => by
    obtain ⟨n, rfl⟩ : ∃ k, n = k + 1 := ⟨n - 1, by omega⟩
    have hi : i < l.length := by omega
    have e : l.getD (i : Int).toNat zS60 = l[i] := by simp [List.getD, hi]
    have e2 : ∀ j : Nat, (mk j).f0.f0 = (j : Int) := fun _ => rfl
    have e3 : IntKind.i64.wrap ((i : Int) + 1) = ((i + 1 : Nat) : Int) := by rw [w64_id (by omega) (by omega)]; omega
    rw [confidantlaw20_ParkStays.l2.eq_2, if_pos (by omega), e, hg i hi, e2]
    simp only [lt, e3]
    have next := ps_2 K l k m hl hk hg d n (i + 1) (by omega) (by omega)
    by_cases h : m ≤ i
    · rw [if_pos h, if_pos (by omega), if_pos (by omega), if_pos (by rw [w64_id (by omega) (by omega)])]
      exact next
    · rw [if_neg h, if_neg (by omega), if_pos (by omega), if_pos (by rw [w64_id (by omega) (by omega)])]
      exact next

theorem ParkStays : confidantlaw20_ParkStays.Pure := by
  intro a4 a5 a6 h4 h5 h6
  have u4 := is_u8 h4
  have u5 := is_u8 h5
  have u6 := is_u8 h6
  obtain ⟨K, hK, hkn⟩ := known_f
  refine ⟨K, ?_⟩
  obtain ⟨k, ha, hk, hk0⟩ : ∃ k : Nat, IntKind.i64.wrap (IntKind.i64.wrap (Int.tmod a4 10) + 1) = (k : Int) ∧ k ≤ 10 ∧ 0 < k := by
    refine ⟨(Int.tmod a4 10 + 1).toNat, ?_, ?_, ?_⟩
    · rw [Int.tmod_eq_emod_of_nonneg (by omega), w64_id (x := a4 % 10) (by omega) (by omega), w64_id (by omega) (by omega)]; omega
    · rw [Int.tmod_eq_emod_of_nonneg (by omega)]; omega
    · rw [Int.tmod_eq_emod_of_nonneg (by omega)]; omega
  obtain ⟨s, hs, hs2⟩ : ∃ k : Nat, IntKind.i64.wrap (Int.tmod a5 5) = (k : Int) ∧ k ≤ 5 := by
    refine ⟨(a5 % 5).toNat, ?_, by omega⟩
    rw [Int.tmod_eq_emod_of_nonneg (by omega), w64_id (by omega) (by omega)]; omega
  obtain ⟨m, hm, hm2⟩ : ∃ m : Nat, Int.tmod (IntKind.i64.wrap a6) (k : Int) = (m : Int) ∧ m < k := by
    refine ⟨(a6 % (k : Int)).toNat, ?_, ?_⟩
    · rw [w64_id (by omega) (by omega), Int.tmod_eq_emod_of_nonneg (by omega)]
      have := Int.emod_nonneg a6 (show (k : Int) ≠ 0 by omega)
      omega
    · have := Int.emod_nonneg a6 (show (k : Int) ≠ 0 by omega)
      have := Int.emod_lt_of_pos a6 (show (0 : Int) < k by omega)
      omega
  unfold confidantlaw20_ParkStays.f park_New.f
  simp only [hkn, b1, if_true, lt]
  have e1 : (List.replicate (([20] : List Int).take 16).length ([] : List S96)) = opens 0 := rfl
  have e2 : (([20] : List Int).take 16).map clamp = [20] := by decide
  rw [new_f K _ (by simp) (by omega), e1, e2]
  simp only [b2]
  have h0 := ps_0 K hK a4 k ha hk
  have e0 : items 0 = [] := rfl
  refine Eq.trans (ps_0 K hK a4 k ha hk _ k K 0 (by omega) (by omega)) ?_
  refine Eq.trans (ps_1 K hK a4 a5 k s ha hk hs hs2 _ s K 0 (by omega) (by omega)) ?_
  have hmw : IntKind.i32.wrap (m : Int) = (m : Int) := w32_id (by omega) (by omega)
  simp only [ha, hm, hmw]
  rw [if_neg (by omega), break_f K _ _ _ _ (by omega), broken_f hm2 hk]
  simp only
  have hl := items_len k
  have hml : m < (items k).length := by omega
  have split : items k = (items k).take m ++ ((items k)[m] :: (items k).drop (m + 1)) := by rw [← List.drop_eq_getElem_cons hml, List.take_append_drop]
  have ht : ((items k).take m).length = m := by rw [List.length_take]; omega
  have hdr : ((items k).drop (m + 1)).length = k - (m + 1) := by rw [List.length_drop, hl]
  have htake : ∀ x ∈ (items k).take m, ¬ Done (broken k m) x.f1 := by
    intro x hx
    obtain ⟨i, hi, rfl⟩ := List.mem_iff_getElem.1 hx
    rw [List.getElem_take, items_get (by omega)]
    intro hd
    have := (broken_done (by omega) hm2 hk).1 hd
    omega
  have hdrop : ∀ x ∈ (items k).drop (m + 1), ¬ Done (broken k m) x.f1 := by
    intro x hx
    obtain ⟨i, hi, rfl⟩ := List.mem_iff_getElem.1 hx
    rw [List.getElem_drop, items_get (by omega)]
    intro hd
    have := (broken_done (by omega) hm2 hk).1 hd
    omega
  have hlook : Park.look (broken k m) (items k) 100 = ((items k).take m ++ (items k).drop (m + 1), [(mk m).f0], [], 99 - m - (k - (m + 1))) := by
    conv => lhs; rw [split]
    rw [look_app _ _ _ _ htake (by omega), ht]
    obtain ⟨p, hp⟩ : ∃ p, 100 - m = p + 1 := ⟨99 - m, by omega⟩
    rw [hp, items_get (k := k) hm2]
    have hx := look_all (broken k m) ((items k).drop (m + 1)) p hdrop (by omega)
    simp only [Park.look, if_pos ((broken_done hm2 hm2 hk).2 rfl), hx, hdr]
    have : p = 99 - m := by omega
    rw [this]
  have hmx : mx (100 : Int) 0 = ((100 : Nat) : Int) := by decide
  rw [look_f K (items k) (by omega) (items_id k hk) _ _ 100 _ hmx (by omega) (by omega), hlook]
  simp only [b4]
  have hS : ((items k).take m ++ (items k).drop (m + 1)).length + 1 = k := by rw [List.length_append, ht, hdr]; omega
  have hSm : ∀ x ∈ (items k).take m ++ (items k).drop (m + 1), x ∈ items k := by
    intro x hx
    rcases List.mem_append.1 hx with hx | hx
    · exact List.mem_of_mem_take hx
    · exact List.mem_of_mem_drop hx
  rw [Park.all_f K _ (by omega) (fun x hx => by obtain ⟨i, hi, rfl⟩ := items_mem (hSm x hx); simp [mk]) (by omega)]
  have hg : ∀ (i : Nat) (h : i < ((items k).take m ++ (items k).drop (m + 1)).length), ((items k).take m ++ (items k).drop (m + 1))[i] = mk (if m ≤ i then i + 1 else i) := by
    intro i h
    by_cases hi : m ≤ i
    · rw [List.getElem_append_right (by omega), List.getElem_drop, items_get (by omega), if_pos hi, ht]
      congr 1; omega
    · rw [List.getElem_append_left (by omega), List.getElem_take, items_get (by omega), if_neg hi]
  generalize (items k).take m ++ (items k).drop (m + 1) = S at hS hg
  simp only [b1]
  have e7 : (([(mk m).f0] : List S36).getD (0 : Int).toNat zS36).f0 = (m : Int) := rfl
  simp only [List.length_singleton, e7, List.length_nil]
  rw [if_pos (by decide), if_pos (by decide), if_pos (by rw [w64_id (by omega) (by omega)]), if_pos (by decide), if_neg (by
    rw [w64_id (by omega) (by omega)]
    simp
    omega)]
  exact ps_2 K S k m hS hk hg S.length K 0 (by omega) (by omega)
end Go.Proofs.Ytipaaapbapijhaa.Pure
