import Derived.Test.YtjfnejcanlkknaaRing
import Derived.Test.YtjfnejcanlkknaaG3
/- A ring holds just its room of tasks, also when many have come and gone. No condition. -/
set_option linter.unusedVariables false
set_option linter.unusedSimpArgs false
namespace Go.Proofs.Ytjfnejcanlkknaa.Pure
open Go Go.Fw Go.RowKit Go.Proofs.Ytjfnejcanlkknaa.G Go.Proofs.Ytjfnejcanlkknaa.Ring

/-- the k-th task that comes to a ring of so much room -/
def sq (w k : Nat) : S37 := if k < w then mk (k : Int) else mk ((1000 + (k - w) : Nat) : Int)
def sqs (w lo k : Nat) : List S37 := (List.range' lo k).map (sq w)
theorem sqs_len (w lo k : Nat) : (sqs w lo k).length = k := by simp [sqs]
theorem sqs_snoc (w lo k : Nat) : sqs w lo k ++ [sq w (lo + k)] = sqs w lo (k + 1) := by
  unfold sqs
  rw [List.range'_concat]
  simp
theorem sqs_cons (w lo k : Nat) : sqs w lo (k + 1) = sq w lo :: sqs w (lo + 1) k := by
  unfold sqs
  rw [List.range'_succ]
  simp

theorem rr_1 (K : Nat) (ps : List S47) (q : Int) (w : Nat) (hq : (ps.getD q.toNat zS47).f1 = (w : Int)) (hw : 1 ≤ w ∧ w ≤ 64) (j : List S37 → Int → Int → Option Bool) (hj : ∀ l t, Holds l t (sqs w 0 w) → l.length = w → j l (t : Int) (w : Int) = some true) : ∀ (d n i : Nat) (l : List S37) (t : Nat), i + d = 70 → d < n → Holds l t (sqs w 0 (min i w)) → l.length = w →
    confidantlaw15_RingRooms.l1 K ps q j n l (t : Int) ((min i w : Nat) : Int) (i : Int) = some true
  | 0, n, i, l, t, hd, hn, h, hl => by
    obtain ⟨n, rfl⟩ : ∃ k, n = k + 1 := ⟨n - 1, by omega⟩
    rw [confidantlaw15_RingRooms.l1.eq_2, if_neg (by omega)]
    have : min i w = w := by omega
    rw [this] at h ⊢
    exact hj l t h hl
  | d + 1, n, i, l, t, hd, hn, h, hl => by
    obtain ⟨n, rfl⟩ : ∃ k, n = k + 1 := ⟨n - 1, by omega⟩
    have e1 : IntKind.i32.wrap (i : Int) = (i : Int) := w32_id (by omega) (by omega)
    obtain ⟨l', g1, g2, g3⟩ := push_f K h (i : Int) 0 0 [] 0 0 0 0 0 0 0 0 (by simp)
    rw [sqs_len] at g1
    have e2 : pushed l.length (sqs w 0 (min i w)) ⟨(i : Int), 0, 0, [], ⟨0, 0, 0, 0⟩, 0, 0, 0, 0⟩ = sqs w 0 (min (i + 1) w) := by
      unfold pushed
      rw [sqs_len]
      by_cases hi : i < w
      · rw [if_pos (by omega), show min i w = i by omega, show min (i + 1) w = i + 1 by omega, ← sqs_snoc]
        simp [sq, hi, mk]
      · rw [if_neg (by omega), show min i w = w by omega, show min (i + 1) w = w by omega]
    rw [e2, sqs_len] at g1
    rw [e2] at g2
    have e3 : (decide (min i w < l.length) == decide ((i : Int) < (w : Int))) = true := by
      rw [hl]
      by_cases hi : i < w
      · rw [decide_eq_true (by omega), decide_eq_true (by omega)]; rfl
      · rw [decide_eq_false (by omega), decide_eq_false (by omega)]; rfl
    rw [confidantlaw15_RingRooms.l1.eq_2, if_pos (by omega), e1, g1]
    simp only [b4]
    rw [hq, if_pos e3, w64_id (by omega) (by omega), show ((i : Int) + 1) = ((i + 1 : Nat) : Int) by omega]
    exact rr_1 K ps q w hq hw j hj d n (i + 1) l' t (by omega) (by omega) g2 (by omega)

theorem rr_2 (K : Nat) (ps : List S47) (q : Int) (w : Nat) (hq : (ps.getD q.toNat zS47).f1 = (w : Int)) (hw : 1 ≤ w ∧ w ≤ 64) (j : List S37 → Int → Int → Option Bool) (hj : ∀ l a b, j l a b = some true) : ∀ (d n i : Nat) (l : List S37) (t : Nat), i + d = 200 → d < n → Holds l t (sqs w i w) → l.length = w →
    confidantlaw15_RingRooms.l2 K ps q j n l (t : Int) (w : Int) (i : Int) = some true
  | 0, n, i, l, t, hd, hn, h, hl => by
    obtain ⟨n, rfl⟩ : ∃ k, n = k + 1 := ⟨n - 1, by omega⟩
    rw [confidantlaw15_RingRooms.l2.eq_2, if_neg (by omega)]
    exact hj _ _ _
  | d + 1, n, i, l, t, hd, hn, h, hl => by
    obtain ⟨n, rfl⟩ : ∃ k, n = k + 1 := ⟨n - 1, by omega⟩
    obtain ⟨v, hv⟩ : ∃ v, w = v + 1 := ⟨w - 1, by omega⟩
    obtain ⟨t', g1, g2⟩ := steal_f K h
    have ec : sqs w i w = sq w i :: sqs w (i + 1) v := by rw [hv, sqs_cons]
    have e1 : (sqs w i w).tail = sqs w (i + 1) v := by rw [ec]; rfl
    have e2 : (if sqs w i w = [] then zS37 else (sqs w i w).getD 0 zS37) = sq w i := by rw [ec]; rfl
    have e3 : (sqs w i w).isEmpty = false := by rw [ec]; rfl
    rw [e1, e2, e3, sqs_len, sqs_len] at g1
    rw [e1] at g2
    have e4 : IntKind.i32.wrap (IntKind.i64.wrap (1000 + (i : Int))) = ((1000 + i : Nat) : Int) := by rw [w64_id (by omega) (by omega), w32_id (by omega) (by omega)]; omega
    obtain ⟨l1, p1, p2, p3⟩ := push_f K g2 ((1000 + i : Nat) : Int) 0 0 [] 0 0 0 0 0 0 0 0 (by simp)
    have e5 : pushed l.length (sqs w (i + 1) v) ⟨((1000 + i : Nat) : Int), 0, 0, [], ⟨0, 0, 0, 0⟩, 0, 0, 0, 0⟩ = sqs w (i + 1) w := by
      unfold pushed
      rw [sqs_len, if_pos (by omega)]
      have : (⟨((1000 + i : Nat) : Int), 0, 0, [], ⟨0, 0, 0, 0⟩, 0, 0, 0, 0⟩ : S37) = sq w (i + 1 + v) := by
        unfold sq
        rw [if_neg (by omega), show 1000 + (i + 1 + v - w) = 1000 + i by omega]
        rfl
      rw [this, sqs_snoc, ← hv]
    rw [e5, sqs_len, sqs_len, decide_eq_true (by omega)] at p1
    rw [e5] at p2
    obtain ⟨l2, q1, q2, q3⟩ := push_f K p2 0 0 0 [] 0 0 0 0 0 0 0 0 (by simp)
    have e6 : pushed l1.length (sqs w (i + 1) w) ⟨0, 0, 0, [], ⟨0, 0, 0, 0⟩, 0, 0, 0, 0⟩ = sqs w (i + 1) w := by
      unfold pushed
      rw [sqs_len, if_neg (by omega)]
    rw [e6, sqs_len, decide_eq_false (by omega)] at q1
    rw [e6] at q2
    have next := rr_2 K ps q w hq hw j hj d n (i + 1) l2 t' (by omega) (by omega) q2 (by omega)
    have tail : (b4 (ring_Ring_Push.f K l (t' : Int) (v : Int) ((1000 + i : Nat) : Int) 0 0 [] 0 0 0 0 0 0 0 0) fun t22997 t22998 t22999 t23000 => if t23000 = true then b4 (ring_Ring_Push.f K t22997 t22998 t22999 0 0 0 [] 0 0 0 0 0 0 0 0) fun t23005 t23006 t23007 t23008 => if t23008 = true then some false else confidantlaw15_RingRooms.l2 K ps q j n t23005 t23006 t23007 (IntKind.i64.wrap ((i : Int) + 1)) else if True then some false else confidantlaw15_RingRooms.l2 K ps q j n t22997 t22998 t22999 (IntKind.i64.wrap ((i : Int) + 1))) = some true := by
      rw [p1]
      simp only [b4, if_true]
      rw [q1]
      simp only [Bool.false_eq_true, if_false]
      rw [w64_id (by omega) (by omega), show ((i : Int) + 1) = ((i + 1 : Nat) : Int) by omega]
      exact next
    rw [confidantlaw15_RingRooms.l2.eq_2, if_pos (by omega), g1]
    simp only [b4, lt, Bool.not_false, if_true, hq, e4]
    by_cases hi : (i : Int) < (w : Int)
    · have e7 : IntKind.i64.wrap (sq w i).f0 = (i : Int) := by
        unfold sq
        rw [if_pos (by omega)]
        exact w64_id (x := (i : Int)) (by omega) (by omega)
      rw [if_pos hi, e7, if_pos rfl]
      exact tail
    · rw [if_neg hi]
      exact tail

theorem RingRooms : confidantlaw15_RingRooms.Pure := by
  intro a b ha hb
  have ub := is_u8 hb
  obtain ⟨K, hK, hkn⟩ := known_f
  refine ⟨K, ?_⟩
  unfold confidantlaw15_RingRooms.f
  simp only [hkn, b1, if_true, lt]
  have one : ∀ (ps : List S47) (n i : Nat) (x : Int) (next : confidantlaw15_RingRooms.l0 K ps n ((i + 1 : Nat) : Int) = some true), i < ps.length → ps.length ≤ 10 → ps.getD i zS47 = ⟨x, mn (mx x 1) 64⟩ → confidantlaw15_RingRooms.l0 K ps (n + 1) (i : Int) = some true := by
    intro ps n i x next hi hl hp
    obtain ⟨r1, r2, r3⟩ := room_in x
    have hq : (ps.getD (i : Int).toNat zS47).f1 = ((room x : Nat) : Int) := by rw [Int.toNat_natCast, hp, r3]
    rw [confidantlaw15_RingRooms.l0.eq_2, if_pos (by omega)]
    simp only [lt]
    rw [if_pos (by omega), Int.toNat_natCast, hp]
    simp only
    rw [new_f]
    simp only [b3]
    rw [w64_id (x := (i : Int) + 1) (by omega) (by omega), show ((i : Int) + 1) = ((i + 1 : Nat) : Int) by omega]
    refine rr_1 K ps i (room x) hq ⟨r1, r2⟩ _ (fun l t h hl => ?_) 70 K 0 _ 0 (by omega) (by omega) (by simpa [sqs] using new_holds x) (by simp)
    unfold ring_Ring_Len.f ring_Ring_Room.f
    simp only
    rw [if_pos (by rw [r3]), hl, ← r3, decide_eq_true rfl]
    simp only [Bool.not_true, Bool.false_eq_true, if_false]
    exact rr_2 K ps i (room x) hq ⟨r1, r2⟩ _ (fun _ _ _ => next) 200 K 0 l t (by omega) (by omega) h hl
  have fin : ∀ (ps : List S47) (n : Nat), ps.length = 2 → confidantlaw15_RingRooms.l0 K ps (n + 1) ((2 : Nat) : Int) = some true := by
    intro ps n hl
    rw [confidantlaw15_RingRooms.l0.eq_2, if_neg (by omega)]
  have emx : ([(⟨a, mn (mx a 1) 64⟩ : S47), ⟨IntKind.i64.wrap (IntKind.i64.wrap (Int.tmod b 70) + 1), mn (IntKind.i64.wrap (IntKind.i64.wrap (Int.tmod b 70) + 1)) 64⟩] : List S47).getD 1 zS47 = ⟨IntKind.i64.wrap (IntKind.i64.wrap (Int.tmod b 70) + 1), mn (mx (IntKind.i64.wrap (IntKind.i64.wrap (Int.tmod b 70) + 1)) 1) 64⟩ := by
    have : 1 ≤ IntKind.i64.wrap (IntKind.i64.wrap (Int.tmod b 70) + 1) := by
      rw [Int.tmod_eq_emod_of_nonneg (by omega), w64_id (x := b % 70) (by omega) (by omega), w64_id (by omega) (by omega)]; omega
    have e : mx (IntKind.i64.wrap (IntKind.i64.wrap (Int.tmod b 70) + 1)) 1 = IntKind.i64.wrap (IntKind.i64.wrap (Int.tmod b 70) + 1) := by unfold mx; rw [if_neg (by omega)]
    rw [e]
    rfl
  obtain ⟨k, rfl⟩ : ∃ k, K = k + 3 := ⟨K - 3, by omega⟩
  exact one _ (k + 2) 0 a (one _ (k + 1) 1 (IntKind.i64.wrap (IntKind.i64.wrap (Int.tmod b 70) + 1)) (fin _ k rfl) (by simp) (by simp) emx) (by simp) (by simp) rfl
end Go.Proofs.Ytjfnejcanlkknaa.Pure
