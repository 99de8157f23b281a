import Derived.Test.YtjfnejcanlkknaaG1
import Derived.Test.YtjfnejcanlkknaaFwLaw
/- Rings of tasks: what each function tells of what a ring holds. Conditions: in the lemmas. -/
set_option linter.unusedVariables false
set_option linter.unusedSimpArgs false
namespace Go.Proofs.Ytjfnejcanlkknaa.Ring
open Go Go.Fw Go.RowKit Go.Proofs.Ytjfnejcanlkknaa.G

/-- the ring l, its top at t, holds xs -/
structure Holds (l : List S37) (t : Nat) (xs : List S37) : Prop where
  pos : 0 < l.length
  le : l.length ≤ 64
  top : t < l.length
  fits : xs.length ≤ l.length
  at_ : ∀ i, i < xs.length → l.getD ((t + i) % l.length) zS37 = xs.getD i zS37
  small : ∀ x ∈ xs, x.f3.length ≤ 1000

theorem at_f (K : Nat) (l : List S37) (t i : Nat) (n : Int) (h : 0 < l.length) (h2 : l.length ≤ 64) (ht : t < l.length) (hi : i ≤ 64) : ring_Ring_at.f K l (t : Int) n (i : Int) = some ((t : Int), n, (((t + i) % l.length : Nat) : Int)) := by
  unfold ring_Ring_at.f
  have hm : (t + i) % l.length < l.length := Nat.mod_lt _ h
  have e : Int.tmod (IntKind.i64.wrap ((t : Int) + (i : Int))) (l.length : Int) = (((t + i) % l.length : Nat) : Int) := by
    rw [w64_id (by omega) (by omega), Int.tmod_eq_emod_of_nonneg (by omega)]
    exact (Int.natCast_emod _ _).symm
  rw [if_neg (by omega), e, if_pos (by omega), if_pos (by omega)]

theorem clone_f (K : Nat) (l : List Int) (h : l.length ≤ 1000000) : slices_Clone_int32_int32.f K l = some l := by
  unfold slices_Clone_int32_int32.f
  simp only [lt, List.length_nil, Nat.zero_add, List.nil_append]
  rw [if_pos (by omega)]

theorem copied_f (K : Nat) (a0 a1 a2 : Int) (l3 : List Int) (c0 c1 c2 c3 a5 a6 a7 a8 : Int) (h : l3.length ≤ 1000000) :
    ring_copied.f K a0 a1 a2 l3 c0 c1 c2 c3 a5 a6 a7 a8 = some ⟨a0, a1, a2, l3, ⟨c0, c1, c2, c3⟩, a5, a6, a7, a8⟩ := by
  unfold ring_copied.f task_Drop.f
  have e : IntKind.i64.wrap ((l3.length : Int) - mn (mx 0 0) (l3.length : Int)) = (l3.length : Int) := by
    have : mn (mx 0 0) (l3.length : Int) = 0 := by unfold mn mx; split <;> simp_all <;> omega
    rw [this, w64_id (by omega) (by omega)]; omega
  simp only [lt, b1, e]
  rw [if_pos (by omega), if_pos (by omega), Int.toNat_natCast, List.take_length, clone_f K l3 h]
  simp only [List.length_nil, Nat.add_zero, List.append_nil]
  rw [if_pos (by omega)]

def pushed (R : Nat) (xs : List S37) (x : S37) : List S37 := if xs.length < R then xs ++ [x] else xs

theorem push_f (K : Nat) {l : List S37} {t : Nat} {xs : List S37} (h : Holds l t xs) (a0 a1 a2 : Int) (l3 : List Int) (c0 c1 c2 c3 a5 a6 a7 a8 : Int) (h3 : l3.length ≤ 1000) :
    ∃ l', ring_Ring_Push.f K l (t : Int) (xs.length : Int) a0 a1 a2 l3 c0 c1 c2 c3 a5 a6 a7 a8 = some (l', (t : Int), ((pushed l.length xs ⟨a0, a1, a2, l3, ⟨c0, c1, c2, c3⟩, a5, a6, a7, a8⟩).length : Int), decide (xs.length < l.length)) ∧
      Holds l' t (pushed l.length xs ⟨a0, a1, a2, l3, ⟨c0, c1, c2, c3⟩, a5, a6, a7, a8⟩) ∧ l'.length = l.length := by
  have hp := h.pos
  have hle := h.le
  have hf := h.fits
  unfold ring_Ring_Push.f pushed
  by_cases hn : xs.length < l.length
  · rw [if_neg (by omega), at_f K l t xs.length _ h.pos h.le h.top (by omega), copied_f K a0 a1 a2 l3 c0 c1 c2 c3 a5 a6 a7 a8 (by omega), if_pos hn, decide_eq_true hn]
    simp only [b3, b1, lt, Int.toNat_natCast, List.length_append, List.length_singleton]
    rw [w64_id (by omega) (by omega)]
    refine ⟨_, rfl, ⟨by simpa using h.pos, by simpa using h.le, by simpa using h.top, by simp; omega, fun i hi => ?_, fun x hx => ?_⟩, by simp⟩
    · rw [List.length_set]
      have hm1 : (t + i) % l.length < l.length := Nat.mod_lt _ hp
      have hm2 : (t + xs.length) % l.length < l.length := Nat.mod_lt _ hp
      simp only [List.length_append, List.length_singleton] at hi
      by_cases he : i = xs.length
      · subst he
        simp [List.getD, hm1]
      · have hne : (t + xs.length) % l.length ≠ (t + i) % l.length := by
          intro e
          have ht := h.top
          have e1 : (t + xs.length) % l.length = if t + xs.length < l.length then t + xs.length else t + xs.length - l.length := by
            split
            · exact Nat.mod_eq_of_lt (by assumption)
            · rw [Nat.mod_eq_sub_mod (by omega), Nat.mod_eq_of_lt (by omega)]
          have e2 : (t + i) % l.length = if t + i < l.length then t + i else t + i - l.length := by
            split
            · exact Nat.mod_eq_of_lt (by assumption)
            · rw [Nat.mod_eq_sub_mod (by omega), Nat.mod_eq_of_lt (by omega)]
          rw [e1, e2] at e
          split at e <;> split at e <;> omega
        have h1 := h.at_ i (by omega)
        have hi' : i < xs.length := by omega
        simp only [List.getD, List.getElem?_set, if_neg hne] at h1 ⊢
        rw [h1, List.getElem?_append_left hi']
    · rcases List.mem_append.1 hx with hx | hx
      · exact h.small x hx
      · rw [List.mem_singleton.1 hx]; exact h3
  · have : xs.length = l.length := by omega
    rw [if_pos (by omega), if_neg hn, decide_eq_false hn]
    exact ⟨l, rfl, h, rfl⟩

theorem eta (x : S37) : (⟨x.f0, x.f1, x.f2, x.f3, ⟨x.f4.f0, x.f4.f1, x.f4.f2, x.f4.f3⟩, x.f5, x.f6, x.f7, x.f8⟩ : S37) = x := rfl
theorem zero37 : (⟨0, 0, 0, [], ⟨0, 0, 0, 0⟩, 0, 0, 0, 0⟩ : S37) = zS37 := rfl

theorem pop_f (K : Nat) {l : List S37} {t : Nat} {xs : List S37} (h : Holds l t xs) :
    ring_Ring_Pop.f K l (t : Int) (xs.length : Int) = some ((t : Int), (xs.dropLast.length : Int), (if xs = [] then zS37 else xs.getD (xs.length - 1) zS37), !xs.isEmpty) ∧ Holds l t xs.dropLast := by
  have hp := h.pos
  have hle := h.le
  have hf := h.fits
  constructor
  · unfold ring_Ring_Pop.f
    by_cases h0 : xs = []
    · subst h0; rfl
    · have hpos := List.length_pos_iff.2 h0
      have e1 : IntKind.i64.wrap ((xs.length : Int) - 1) = ((xs.length - 1 : Nat) : Int) := by rw [w64_id (by omega) (by omega)]; omega
      rw [if_neg (by omega), e1, at_f K l t (xs.length - 1) _ h.pos h.le h.top (by omega)]
      have h1 := h.at_ (xs.length - 1) (by omega)
      simp only [b3, Int.toNat_natCast]
      rw [eta, h1, if_neg h0]
      have : xs.isEmpty = false := by simpa using h0
      rw [this]
      simp
  · refine ⟨h.pos, h.le, h.top, by simp; omega, fun i hi => ?_, fun x hx => h.small x ((List.dropLast_sublist xs).subset hx)⟩
    simp only [List.length_dropLast] at hi
    rw [h.at_ i (by omega)]
    have hi' : i < xs.length := by omega
    simp [List.getD, List.getElem?_dropLast, hi, hi']

theorem steal_f (K : Nat) {l : List S37} {t : Nat} {xs : List S37} (h : Holds l t xs) :
    ∃ t' : Nat, ring_Ring_Steal.f K l (t : Int) (xs.length : Int) = some ((t' : Int), (xs.tail.length : Int), (if xs = [] then zS37 else xs.getD 0 zS37), !xs.isEmpty) ∧ Holds l t' xs.tail := by
  have hp := h.pos
  have hle := h.le
  have hf := h.fits
  have ht := h.top
  unfold ring_Ring_Steal.f
  cases xs with
  | nil => exact ⟨t, rfl, h⟩
  | cons x xs =>
    refine ⟨(t + 1) % l.length, ?_, ⟨h.pos, h.le, Nat.mod_lt _ hp, by simp at hf ⊢; omega, fun i hi => ?_, fun x hx => h.small x (List.mem_cons_of_mem _ hx)⟩⟩
    · rw [if_neg (by simp; omega), show (0 : Int) = ((0 : Nat) : Int) from rfl, at_f K l t 0 _ h.pos h.le h.top (by omega)]
      have h1 := h.at_ 0 (by simp)
      have e1 : IntKind.i64.wrap (((x :: xs).length : Int) - 1) = ((xs.length : Nat) : Int) := by simp at hf; rw [List.length_cons, w64_id (by omega) (by omega)]; omega
      have e2 : Int.tmod (IntKind.i64.wrap ((t : Int) + 1)) (l.length : Int) = (((t + 1) % l.length : Nat) : Int) := by
        rw [w64_id (by omega) (by omega), Int.tmod_eq_emod_of_nonneg (by omega)]
        exact (Int.natCast_emod _ _).symm
      simp only [b3, Int.toNat_natCast]
      rw [eta, h1, e1, e2, if_neg (by omega)]
      rfl
    · have h1 := h.at_ (i + 1) (by simp at hi ⊢; omega)
      have e3 : ((t + 1) % l.length + i) % l.length = (t + (i + 1)) % l.length := by
        rw [Nat.mod_add_mod]; congr 1; omega
      rw [e3, h1]
      rfl

theorem all_l (K : Nat) {l : List S37} {t : Nat} {xs : List S37} (h : Holds l t xs) : ∀ (d n i : Nat), i + d = xs.length → d < n → ring_Ring_All.l0 K (xs.length : Int) l n (t : Int) (xs.length : Int) (xs.take i) (i : Int) = some ((t : Int), (xs.length : Int), xs)
  | 0, n, i, hd, hn => by
    obtain ⟨n, rfl⟩ : ∃ k, n = k + 1 := ⟨n - 1, by omega⟩
    rw [ring_Ring_All.l0.eq_2, if_neg (by omega), List.take_of_length_le (by omega)]
  | d + 1, n, i, hd, hn => by
    obtain ⟨n, rfl⟩ : ∃ k, n = k + 1 := ⟨n - 1, by omega⟩
    have hle := h.le
    have hf := h.fits
    have hi : i < xs.length := by omega
    have h1 := h.at_ i hi
    have e1 : xs.getD i zS37 = xs[i] := by simp [List.getD, hi]
    have hs := h.small _ (List.getElem_mem hi)
    rw [ring_Ring_All.l0.eq_2, if_pos (by omega), at_f K l t i _ h.pos h.le h.top (by omega)]
    simp only [b3, Int.toNat_natCast, h1, e1]
    rw [copied_f K _ _ _ _ _ _ _ _ _ _ _ _ (by omega)]
    simp only [b1, lt]
    rw [eta, if_pos (by simp; omega), w64_id (by omega) (by omega), show ((i : Int) + 1) = ((i + 1 : Nat) : Int) by omega]
    have e2 : xs.take i ++ [xs[i]] = xs.take (i + 1) := by rw [List.take_add_one]; simp [hi]
    rw [e2]
    exact all_l K h d n (i + 1) (by omega) (by omega)
theorem all_f (K : Nat) {l : List S37} {t : Nat} {xs : List S37} (h : Holds l t xs) (hK : 70 ≤ K) : ring_Ring_All.f K l (t : Int) (xs.length : Int) = some ((t : Int), (xs.length : Int), xs) := by
  have hle := h.le
  have hf := h.fits
  exact all_l K h xs.length K 0 (by omega) (by omega)

theorem half_l (K : Nat) {l : List S37} (n0 : Nat) (j : Int → Int → List S37 → Option (Int × Int × List S37)) (xs : List S37) (hn0 : n0 = xs.length) (h64 : n0 ≤ 64) : ∀ (d n i : Nat) (t : Nat), i + d = (n0 + 1) / 2 → d < n → Holds l t (xs.drop i) →
    ∃ t' : Nat, Holds l t' (xs.drop ((n0 + 1) / 2)) ∧ ring_Ring_Half.l0 K (n0 : Int) l j n (t : Int) ((xs.drop i).length : Int) (xs.take i) (i : Int) = j (t' : Int) ((xs.drop ((n0 + 1) / 2)).length : Int) (xs.take ((n0 + 1) / 2))
  | 0, n, i, t, hd, hn, h => by
    obtain ⟨n, rfl⟩ : ∃ k, n = k + 1 := ⟨n - 1, by omega⟩
    have e : IntKind.i64.wrap (Int.tdiv (IntKind.i64.wrap ((n0 : Int) + 1)) 2) = (((n0 + 1) / 2 : Nat) : Int) := by
      rw [w64_id (x := (n0 : Int) + 1) (by omega) (by omega), Int.tdiv_eq_ediv_of_nonneg (by omega), w64_id (by omega) (by omega)]; omega
    have hi : i = (n0 + 1) / 2 := by omega
    refine ⟨t, by rw [← hi]; exact h, ?_⟩
    rw [ring_Ring_Half.l0.eq_2, e, if_neg (by omega), hi]
  | d + 1, n, i, t, hd, hn, h => by
    obtain ⟨n, rfl⟩ : ∃ k, n = k + 1 := ⟨n - 1, by omega⟩
    have e : IntKind.i64.wrap (Int.tdiv (IntKind.i64.wrap ((n0 : Int) + 1)) 2) = (((n0 + 1) / 2 : Nat) : Int) := by
      rw [w64_id (x := (n0 : Int) + 1) (by omega) (by omega), Int.tdiv_eq_ediv_of_nonneg (by omega), w64_id (by omega) (by omega)]; omega
    have hi : i < xs.length := by omega
    obtain ⟨t1, g1, g2⟩ := steal_f K h
    have e1 : xs.drop i = xs[i] :: xs.drop (i + 1) := List.drop_eq_getElem_cons hi
    have e2 : (xs.drop i).tail = xs.drop (i + 1) := by rw [e1]; rfl
    have e3 : (if xs.drop i = [] then zS37 else (xs.drop i).getD 0 zS37) = xs[i] := by rw [e1]; rfl
    rw [e2] at g2
    obtain ⟨t', g3, g4⟩ := half_l K n0 j xs hn0 h64 d n (i + 1) t1 (by omega) (by omega) g2
    refine ⟨t', g3, ?_⟩
    rw [ring_Ring_Half.l0.eq_2, e, if_pos (by omega), g1, e2, e3]
    simp only [b4, lt]
    rw [eta, if_pos (by simp; omega), w64_id (by omega) (by omega), show ((i : Int) + 1) = ((i + 1 : Nat) : Int) by omega]
    have e4 : xs.take i ++ [xs[i]] = xs.take (i + 1) := by rw [List.take_add_one]; simp [hi]
    rw [e4]
    exact g4
theorem half_f (K : Nat) {l : List S37} {t : Nat} {xs : List S37} (h : Holds l t xs) (hK : 70 ≤ K) : ∃ t' : Nat, Holds l t' (xs.drop ((xs.length + 1) / 2)) ∧ ring_Ring_Half.f K l (t : Int) (xs.length : Int) = some ((t' : Int), ((xs.drop ((xs.length + 1) / 2)).length : Int), xs.take ((xs.length + 1) / 2)) := by
  have hle := h.le
  have hf := h.fits
  unfold ring_Ring_Half.f
  simp only [lt]
  obtain ⟨t', g1, g2⟩ := half_l K xs.length (fun x2205 x2206 x2207 => some (x2205, x2206, x2207)) xs rfl (by omega) ((xs.length + 1) / 2) K 0 t (by omega) (by omega) (by simpa using h)
  exact ⟨t', g1, by simpa using g2⟩

def room (a : Int) : Nat := (mn (mx a 1) 64).toNat
theorem room_in (a : Int) : 1 ≤ room a ∧ room a ≤ 64 ∧ ((room a : Nat) : Int) = mn (mx a 1) 64 := by
  have : 1 ≤ mn (mx a 1) 64 ∧ mn (mx a 1) 64 ≤ 64 := by unfold mn mx; split <;> split <;> omega
  unfold room; omega
theorem new_f (K : Nat) (a : Int) : ring_New.f K a = some (List.replicate (room a) zS37, 0, 0) := by
  obtain ⟨h1, h2, h3⟩ := room_in a
  unfold ring_New.f
  simp only [lt]
  rw [if_pos (by omega), if_pos (by omega)]
  rfl
theorem new_holds (a : Int) : Holds (List.replicate (room a) zS37) 0 [] := by
  obtain ⟨h1, h2, h3⟩ := room_in a
  exact ⟨by simp; omega, by simp; omega, by simp; omega, by simp, fun i hi => by simp at hi, fun x hx => by simp at hx⟩

/-- a task that is told by its identity -/
def mk (i : Int) : S37 := ⟨i, 0, 0, [], ⟨0, 0, 0, 0⟩, 0, 0, 0, 0⟩
theorem known_f : ∃ K, 5000 ≤ K ∧ confidantlaw15_known.f K = some true := ⟨5000, Nat.le_refl _, by kernel_rfl⟩

/-! ### tasks one behind another -/
def upto (lo k : Nat) : List S37 := (List.range' lo k).map fun i : Nat => mk (i : Int)
theorem upto_len (lo k : Nat) : (upto lo k).length = k := by simp [upto]
theorem upto_snoc (lo k : Nat) : upto lo k ++ [mk ((lo + k : Nat) : Int)] = upto lo (k + 1) := by
  unfold upto
  rw [List.range'_concat]
  simp
theorem upto_cons (lo k : Nat) : upto lo (k + 1) = mk (lo : Int) :: upto (lo + 1) k := by
  unfold upto
  rw [List.range'_succ]
  simp
theorem upto_get (lo k i : Nat) (h : i < k) : (upto lo k).getD i zS37 = mk ((lo + i : Nat) : Int) := by
  simp [upto, List.getD, h]

end Go.Proofs.Ytjfnejcanlkknaa.Ring
