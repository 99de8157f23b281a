import Derived.Test.YtlcnkngpankkpaaG8
import Derived.Test.YtlcnkngpankkpaaRefStep
import Derived.Test.YtlcnkngpankkpaaSeat
import Derived.Test.YtlcnkngpankkpaaTaskSame
/- A task that runs by itself. No condition. -/
set_option linter.unusedVariables false
set_option linter.unusedSimpArgs false
namespace Go.Proofs.Ytlcnkngpankkpaa.Pure
open Go Go.Fw Go.RowKit Go.Proofs.Ytlcnkngpankkpaa.G Go.Proofs.Ytlcnkngpankkpaa.Task Go.Proofs.Ytlcnkngpankkpaa.Seat

/-! ### how deep the stack is at each place -/
def popsN (o : Int) : Nat := if o = 2 ∨ o = 3 ∨ o = 13 then 1 else if 4 ≤ o ∧ o ≤ 9 then 2 else 0
def pushN (o : Int) : Nat := if o = 1 ∨ o = 12 ∨ o = 14 ∨ 4 ≤ o ∧ o ≤ 9 then 1 else if o = 3 then 2 else 0
def okB (base : Nat) (ds : List Nat) (n j : Nat) (i : S32) : Prop :=
  15 ≤ i.f0 ∨ (i.f0 = 10 ∧ ∃ t : Nat, i.f1 = ((base + t : Nat) : Int) ∧ t ≤ n ∧ ds.getD t 0 = ds.getD j 0) ∨
  (i.f0 = 11 ∧ (∃ t : Nat, i.f1 = ((base + t : Nat) : Int) ∧ t ≤ n ∧ ds.getD t 0 + 1 = ds.getD j 0) ∧ ds.getD (j + 1) 0 + 1 = ds.getD j 0) ∨
  (i.f0 ≠ 10 ∧ i.f0 ≠ 11 ∧ ds.getD (j + 1) 0 + popsN i.f0 = ds.getD j 0 + pushN i.f0)
structure Blk (base : Nat) (c : List S32) (ds : List Nat) : Prop where
  len : c.length = ds.length
  le : ∀ d ∈ ds, d ≤ 4
  head : ds.headD 0 = 0
  arg : ∀ i ∈ c, (Lit.int .i32 i.f1).wf = true
  ok : ∀ j, j < c.length → okB base ds c.length j (c.getD j zS32)

theorem getD_left {α : Type} (a b : List α) (z : α) (j : Nat) (h : j < a.length) : (a ++ b).getD j z = a.getD j z := by
  simp only [List.getD_eq_getElem?_getD]; rw [List.getElem?_append_left h]
theorem getD_right {α : Type} (a b : List α) (z : α) (j : Nat) : (a ++ b).getD (a.length + j) z = b.getD j z := by
  simp only [List.getD_eq_getElem?_getD]; rw [List.getElem?_append_right (by omega)]; congr 2; omega
theorem head_getD (ds : List Nat) : ds.headD 0 = ds.getD 0 0 := by cases ds <;> rfl

theorem Blk.append {b : Nat} {x y : List S32} {dx dy : List Nat} (hx : Blk b x dx) (hy : Blk (b + x.length) y dy) : Blk b (x ++ y) (dx ++ dy) := by
  have hl := hx.len
  have at_ : ∀ j, j ≤ x.length → (dx ++ dy).getD j 0 = dx.getD j 0 := by
    intro j hj
    by_cases h : j < dx.length
    · exact getD_left _ _ _ _ h
    · have : j = dx.length + 0 := by omega
      rw [this, getD_right, ← head_getD, hy.head, List.getD_eq_getElem?_getD, List.getElem?_eq_none (by omega)]; rfl
  have at2 : ∀ j, (dx ++ dy).getD (x.length + j) 0 = dy.getD j 0 := by intro j; rw [hl]; exact getD_right _ _ _ _
  refine ⟨by rw [List.length_append, List.length_append, hx.len, hy.len], ?_, ?_, ?_, ?_⟩
  · intro d hd
    rcases List.mem_append.1 hd with h | h
    · exact hx.le d h
    · exact hy.le d h
  · rw [head_getD, at_ 0 (by omega), ← head_getD, hx.head]
  · intro i hi
    rcases List.mem_append.1 hi with h | h
    · exact hx.arg i h
    · exact hy.arg i h
  · intro j hj
    rw [List.length_append] at hj ⊢
    by_cases h : j < x.length
    · rw [getD_left _ _ _ _ h]
      have := hx.ok j h
      unfold okB at this ⊢
      rw [at_ j (by omega), at_ (j + 1) (by omega)]
      rcases this with k | ⟨k, t, k1, k2, k3⟩ | ⟨k, ⟨t, k1, k2, k3⟩, k4⟩ | k
      · exact .inl k
      · exact .inr (.inl ⟨k, t, k1, by omega, by rw [at_ t k2]; exact k3⟩)
      · exact .inr (.inr (.inl ⟨k, ⟨t, k1, by omega, by rw [at_ t k2]; exact k3⟩, k4⟩))
      · exact .inr (.inr (.inr k))
    · obtain ⟨q, rfl⟩ : ∃ q, j = x.length + q := ⟨j - x.length, by omega⟩
      rw [getD_right]
      have := hy.ok q (by omega)
      unfold okB at this ⊢
      rw [at2 q, show x.length + q + 1 = x.length + (q + 1) from by omega, at2 (q + 1)]
      rcases this with k | ⟨k, t, k1, k2, k3⟩ | ⟨k, ⟨t, k1, k2, k3⟩, k4⟩ | k
      · exact .inl k
      · exact .inr (.inl ⟨k, x.length + t, by rw [k1]; congr 1; omega, by omega, by rw [at2]; exact k3⟩)
      · exact .inr (.inr (.inl ⟨k, ⟨x.length + t, by rw [k1]; congr 1; omega, by omega, by rw [at2]; exact k3⟩, k4⟩))
      · exact .inr (.inr (.inr k))

/-- code that goes straight on -/
def chk : List Int → List Nat → Bool
  | [], [] => true
  | o :: os, d :: ds => (decide (15 ≤ o) || (decide (o ≠ 10) && decide (o ≠ 11) && decide (ds.headD 0 + popsN o = d + pushN o))) && decide (d ≤ 4) && chk os ds
  | _, _ => false
theorem chk_len : ∀ (os : List Int) (ds : List Nat), chk os ds = true → os.length = ds.length ∧ ∀ d ∈ ds, d ≤ 4
  | [], [], _ => ⟨rfl, by simp⟩
  | o :: os, d :: ds, h => by
    simp only [chk, Bool.and_eq_true] at h
    have := chk_len os ds h.2
    refine ⟨by simp [this.1], fun x hx => ?_⟩
    rcases List.mem_cons.1 hx with rfl | hx
    · simpa using h.1.2
    · exact this.2 x hx
  | [], _ :: _, h => by cases h
  | _ :: _, [], h => by cases h
theorem chk_at : ∀ (os : List Int) (ds : List Nat) (j : Nat), chk os ds = true → j < os.length → 15 ≤ os.getD j 0 ∨ (os.getD j 0 ≠ 10 ∧ os.getD j 0 ≠ 11 ∧ ds.getD (j + 1) 0 + popsN (os.getD j 0) = ds.getD j 0 + pushN (os.getD j 0))
  | o :: os, d :: ds, 0, h, _ => by
    simp only [chk, Bool.and_eq_true, Bool.or_eq_true, decide_eq_true_eq] at h
    rcases h.1.1 with k | k
    · exact .inl k
    · refine .inr ⟨k.1.1, k.1.2, ?_⟩
      have := k.2
      rw [head_getD] at this
      exact this
  | o :: os, d :: ds, j + 1, h, hj => by
    simp only [chk, Bool.and_eq_true] at h
    exact chk_at os ds j h.2 (by simpa using hj)
theorem map_getD (c : List S32) (j : Nat) : (c.map (·.f0)).getD j 0 = (c.getD j zS32).f0 := by
  simp only [List.getD_eq_getElem?_getD, List.getElem?_map]
  cases c[j]? <;> rfl
theorem Blk.ofChk {b : Nat} {c : List S32} {ds : List Nat} (h : chk (c.map (·.f0)) ds = true) (h0 : ds.headD 0 = 0) (ha : ∀ i ∈ c, (Lit.int .i32 i.f1).wf = true) : Blk b c ds := by
  have hl := chk_len _ _ h
  refine ⟨by simpa using hl.1, hl.2, h0, ha, fun j hj => ?_⟩
  have := chk_at _ _ j h (by simpa using hj)
  rw [map_getD] at this
  rcases this with k | k
  · exact .inl k
  · exact .inr (.inr (.inr k))
theorem Blk.guard {b : Nat} {c : List S32} {ds : List Nat} (x T : Int) (h : chk (c.map (·.f0)) ds = true) (h0 : ds.headD 0 = 0) (ha : ∀ i ∈ c, (Lit.int .i32 i.f1).wf = true) (hx : (Lit.int .i32 x).wf = true) (hT : T = ((b + (2 + c.length) : Nat) : Int)) (hw : (Lit.int .i32 T).wf = true) :
    Blk b ([(⟨12, x⟩ : S32), ⟨11, T⟩] ++ c) ([0, 1] ++ ds) := by
  have hl := chk_len _ _ h
  have hlen : c.length = ds.length := by simpa using hl.1
  refine ⟨by simp [hlen], ?_, rfl, ?_, fun j hj => ?_⟩
  · intro d hd
    simp only [List.cons_append, List.nil_append, List.mem_cons] at hd
    rcases hd with rfl | rfl | hd
    · omega
    · omega
    · exact hl.2 d hd
  · intro i hi
    simp only [List.cons_append, List.nil_append, List.mem_cons] at hi
    rcases hi with rfl | rfl | hi
    · exact hx
    · exact hw
    · exact ha i hi
  · match j, hj with
    | 0, _ => exact .inr (.inr (.inr ⟨show (12 : Int) ≠ 10 by decide, show (12 : Int) ≠ 11 by decide, rfl⟩))
    | 1, _ =>
      refine .inr (.inr (.inl ⟨rfl, ⟨2 + c.length, hT, by simp; omega, ?_⟩, ?_⟩))
      · show ([0, 1] ++ ds).getD (2 + c.length) 0 + 1 = 1
        have := getD_right [0, 1] ds 0 c.length
        simp only [List.length_cons, List.length_nil] at this
        rw [show 2 + c.length = 0 + 1 + 1 + c.length from by omega, this, List.getD_eq_getElem?_getD, List.getElem?_eq_none (by omega)]; rfl
      · show ([0, 1] ++ ds).getD 2 0 + 1 = 1
        have := getD_right [0, 1] ds 0 0
        simp only [List.length_cons, List.length_nil] at this
        rw [show 2 = 0 + 1 + 1 + 0 from rfl, this, ← head_getD, h0]
    | q + 2, hq =>
      have := chk_at _ _ q h (by simp at hq ⊢; omega)
      rw [map_getD] at this
      rcases this with k | k
      · exact .inl k
      · exact .inr (.inr (.inr k))
theorem wf32 (x : Int) (h1 : -2147483648 ≤ x) (h2 : x ≤ 2147483647) : (Lit.int .i32 x).wf = true := by
  simp [Lit.wf, IntKind.min, IntKind.max, IntKind.signed, IntKind.bits]; omega
theorem wfw (x : Int) : (Lit.int .i32 (IntKind.i32.wrap x)).wf = true := by rw [w32]; exact wf32 _ (by omega) (by omega)
/-- once more, while the count isn't nought -/
theorem Blk.again (b : Nat) (hb : b ≤ 100) (x1 x2 x3 x4 x5 T U : Int) (h1 : (Lit.int .i32 x1).wf = true) (h2 : (Lit.int .i32 x2).wf = true) (h3 : (Lit.int .i32 x3).wf = true) (h4 : (Lit.int .i32 x4).wf = true) (h5 : (Lit.int .i32 x5).wf = true) (hT : T = ((b + 7 : Nat) : Int)) (hU : U = ((b + 0 : Nat) : Int)) :
    Blk b [(⟨12, x1⟩ : S32), ⟨1, x2⟩, ⟨5, x3⟩, ⟨13, x4⟩, ⟨12, x5⟩, ⟨11, T⟩, ⟨10, U⟩] [0, 1, 2, 1, 0, 1, 0] := by
  refine ⟨rfl, by decide, rfl, ?_, ?_⟩
  · intro i hi
    simp only [List.mem_cons, List.mem_nil_iff, or_false] at hi
    rcases hi with rfl | rfl | rfl | rfl | rfl | rfl | rfl
    · exact h1
    · exact h2
    · exact h3
    · exact h4
    · exact h5
    · exact wf32 _ (by simp only; omega) (by simp only; omega)
    · exact wf32 _ (by simp only; omega) (by simp only; omega)
  · intro j hj
    simp only [List.length_cons, List.length_nil] at hj
    rcases (by omega : j = 0 ∨ j = 1 ∨ j = 2 ∨ j = 3 ∨ j = 4 ∨ j = 5 ∨ j = 6) with rfl | rfl | rfl | rfl | rfl | rfl | rfl
    · exact .inr (.inr (.inr ⟨show (12 : Int) ≠ 10 by decide, show (12 : Int) ≠ 11 by decide, rfl⟩))
    · exact .inr (.inr (.inr ⟨show (1 : Int) ≠ 10 by decide, show (1 : Int) ≠ 11 by decide, rfl⟩))
    · exact .inr (.inr (.inr ⟨show (5 : Int) ≠ 10 by decide, show (5 : Int) ≠ 11 by decide, rfl⟩))
    · exact .inr (.inr (.inr ⟨show (13 : Int) ≠ 10 by decide, show (13 : Int) ≠ 11 by decide, rfl⟩))
    · exact .inr (.inr (.inr ⟨show (12 : Int) ≠ 10 by decide, show (12 : Int) ≠ 11 by decide, rfl⟩))
    · exact .inr (.inr (.inl ⟨rfl, ⟨7, hT, by simp, rfl⟩, rfl⟩))
    · exact .inr (.inl ⟨rfl, 0, hU, by simp, rfl⟩)

/-! ### pieces -/
def good (q : List S32) : Prop := (∀ i ∈ q, (Lit.int .i32 i.f1).wf = true) ∧ ∃ ds, chk (q.map (·.f0)) ds = true ∧ ds.headD 0 = 0
theorem good_of (q : List S32) (ds : List Nat) (hq : ∀ i ∈ q, ∃ x, i.f1 = IntKind.i32.wrap x) (h : chk (q.map (·.f0)) ds = true) (h0 : ds.headD 0 = 0) : good q :=
  ⟨fun i hi => by obtain ⟨x, hx⟩ := hq i hi; rw [hx]; exact wfw x, ds, h, h0⟩
theorem args_w (l : List (Int × Int)) : ∀ i ∈ l.map (fun p => (⟨p.1, IntKind.i32.wrap p.2⟩ : S32)), ∃ x, i.f1 = IntKind.i32.wrap x := by
  intro i hi
  obtain ⟨p, _, rfl⟩ := List.mem_map.1 hi
  exact ⟨p.2, rfl⟩
set_option maxHeartbeats 2000000 in
theorem piece_good (K : Nat) (k a b : Int) (ha : 0 ≤ a) : ∃ q, confidantseat_piece.f K k a b 1 1 0 true = some q ∧ q.length ≤ 5 ∧ good q ∧ (Int.tmod k 16 = 14 → q.length = 2) := by
  unfold confidantseat_piece.f
  have h6 : 0 ≤ Int.tmod a 6 ∧ Int.tmod a 6 < 6 := by rw [Int.tmod_eq_emod_of_nonneg ha]; omega
  rw [if_neg (by decide), if_neg (by decide)]
  simp only [in_eq, b2, lt]
  have W : ∀ (l : List (Int × Int)) (os : List Int) (ds : List Nat), l.map (·.1) = os → chk os ds = true → ds.headD 0 = 0 → good (l.map (fun p => (⟨p.1, IntKind.i32.wrap p.2⟩ : S32))) := fun l os ds e h h0 => good_of _ ds (args_w l) (by rw [List.map_map]; subst e; exact h) h0
  by_cases c0 : Int.tmod k 16 = 0
  · rw [if_pos c0, if_pos h6.1, if_pos (by simpa using h6.2)]
    refine ⟨_, rfl, by simp, ?_, fun h => by omega⟩
    obtain ⟨m, hm⟩ : ∃ m : Nat, Int.tmod a 6 = (m : Int) := ⟨(Int.tmod a 6).toNat, by omega⟩
    rw [hm, Int.toNat_natCast]
    have hm6 : m < 6 := by omega
    rcases (by omega : m = 0 ∨ m = 1 ∨ m = 2 ∨ m = 3 ∨ m = 4 ∨ m = 5) with rfl | rfl | rfl | rfl | rfl | rfl
    · exact W [(1, _), (1, _), (4, _), (13, _)] [1, 1, 4, 13] [0, 1, 2, 1] rfl (by decide) rfl
    · exact W [(1, _), (1, _), (5, _), (13, _)] [1, 1, 5, 13] [0, 1, 2, 1] rfl (by decide) rfl
    · exact W [(1, _), (1, _), (6, _), (13, _)] [1, 1, 6, 13] [0, 1, 2, 1] rfl (by decide) rfl
    · exact W [(1, _), (1, _), (7, _), (13, _)] [1, 1, 7, 13] [0, 1, 2, 1] rfl (by decide) rfl
    · exact W [(1, _), (1, _), (8, _), (13, _)] [1, 1, 8, 13] [0, 1, 2, 1] rfl (by decide) rfl
    · exact W [(1, _), (1, _), (9, _), (13, _)] [1, 1, 9, 13] [0, 1, 2, 1] rfl (by decide) rfl
  rw [if_neg c0]
  by_cases c1 : Int.tmod k 16 = 1
  · rw [if_pos c1]; exact ⟨_, rfl, by simp, W [(1, _), (12, _), (20, _), (21, _), (13, _)] [1, 12, 20, 21, 13] [0, 1, 2, 1, 1] rfl (by decide) rfl, fun h => by omega⟩
  rw [if_neg c1]
  by_cases c2 : Int.tmod k 16 = 2
  · rw [if_pos c2]; exact ⟨_, rfl, by simp, W [(1, _), (1, _), (20, _), (13, _)] [1, 1, 20, 13] [0, 1, 2, 1] rfl (by decide) rfl, fun h => by omega⟩
  rw [if_neg c2]
  by_cases c3 : Int.tmod k 16 = 3
  · rw [if_pos c3]; exact ⟨_, rfl, by simp, W [(12, _), (21, _), (13, _)] [12, 21, 13] [0, 1, 1] rfl (by decide) rfl, fun h => by omega⟩
  rw [if_neg c3]
  by_cases c4 : Int.tmod k 16 = 4
  · rw [if_pos c4]; exact ⟨_, rfl, by simp, W [(1, _), (16, _), (13, _)] [1, 16, 13] [0, 1, 1] rfl (by decide) rfl, fun h => by omega⟩
  rw [if_neg c4]
  by_cases c5 : Int.tmod k 16 = 5
  · rw [if_pos c5]; exact ⟨_, rfl, by simp, W [(12, _), (17, _), (13, _)] [12, 17, 13] [0, 1, 1] rfl (by decide) rfl, fun h => by omega⟩
  rw [if_neg c5]
  by_cases c6 : Int.tmod k 16 = 6
  · rw [if_pos c6]; exact ⟨_, rfl, by simp, W [(12, _), (18, _), (13, _)] [12, 18, 13] [0, 1, 1] rfl (by decide) rfl, fun h => by omega⟩
  rw [if_neg c6]
  by_cases c7 : Int.tmod k 16 = 7
  · rw [if_pos c7]; exact ⟨_, rfl, by simp, W [(12, _), (12, _), (19, _)] [12, 12, 19] [0, 1, 2] rfl (by decide) rfl, fun h => by omega⟩
  rw [if_neg c7]
  by_cases c8 : Int.tmod k 16 = 8
  · rw [if_pos c8, if_pos trivial]; exact ⟨_, rfl, by simp, W [(12, _), (22, _)] [12, 22] [0, 1] rfl (by decide) rfl, fun h => by omega⟩
  rw [if_neg c8]
  by_cases c9 : Int.tmod k 16 = 9
  · rw [if_pos (decide_eq_true c9)]; exact ⟨_, rfl, by simp, W [(12, _), (22, _)] [12, 22] [0, 1] rfl (by decide) rfl, fun h => by omega⟩
  rw [if_neg (by simpa using c9)]
  by_cases c10 : Int.tmod k 16 = 10
  · rw [if_pos c10]; exact ⟨_, rfl, by simp, W [(15, _)] [15] [0] rfl (by decide) rfl, fun h => by omega⟩
  rw [if_neg c10]
  by_cases c11 : Int.tmod k 16 = 11
  · rw [if_pos c11]; exact ⟨_, rfl, by simp, W [(14, _), (22, _)] [14, 22] [0, 1] rfl (by decide) rfl, fun h => by omega⟩
  rw [if_neg c11]
  by_cases c12 : Int.tmod k 16 = 12
  · rw [if_pos c12, if_pos trivial, if_pos trivial]; exact ⟨_, rfl, by simp, W [(1, _), (21, _), (2, _)] [1, 21, 2] [0, 1, 1] rfl (by decide) rfl, fun h => by omega⟩
  rw [if_neg c12]
  by_cases c13 : Int.tmod k 16 = 13
  · rw [if_pos c13, if_pos trivial]; exact ⟨_, rfl, by simp, W [(1, _), (18, _), (2, _)] [1, 18, 2] [0, 1, 1] rfl (by decide) rfl, fun h => by omega⟩
  rw [if_neg c13]
  by_cases c14 : Int.tmod k 16 = 14
  · rw [if_pos c14]; exact ⟨_, rfl, by simp, W [(1, _), (13, _)] [1, 13] [0, 1] rfl (by decide) rfl, fun _ => rfl⟩
  rw [if_neg c14]
  exact ⟨_, rfl, by simp, W [(1, _), (3, _), (4, _), (2, _)] [1, 3, 4, 2] [0, 1, 2, 1] rfl (by decide) rfl, fun h => absurd h c14⟩

/-! ### the code -/
def right (c : List S32) : Prop := ∃ ds, Blk 0 c ds
theorem right_nil : right [] := ⟨[], rfl, by simp, rfl, by simp, fun j hj => by simp at hj⟩
theorem right_app {c q : List S32} {ds : List Nat} (hc : right c) (hq : Blk c.length q ds) : right (c ++ q) := by
  obtain ⟨d, hd⟩ := hc
  exact ⟨d ++ ds, hd.append (by rw [Nat.zero_add]; exact hq)⟩

theorem l1_right {R : List (List S32) → Prop} (K : Nat) (l : List Int) (hl : l.length ≤ 1000) (hw : ∀ x ∈ l, (Lit.int .u8 x).wf = true) (g : List S32 → Option (List (List S32)))
    (hg : ∀ c : List S32, c.length ≤ 60 → right c → ∃ r, g c = some r ∧ R r) : ∀ (n i : Nat) (c : List S32), l.length + 1 ≤ i + n → 1 ≤ n → i ≤ 10000 → c.length ≤ 60 → right c → ∃ r, confidantseat_Code.l1 K 1 l 1 0 true g n c (i : Int) = some r ∧ R r := by
  intro n
  induction n with
  | zero => intro i c _ h; omega
  | succ n ih =>
    intro i c hn _ hi hc hr
    rw [confidantseat_Code.l1.eq_2]
    have w2 : IntKind.i64.wrap ((i : Int) + 2) = (i : Int) + 2 := w64_id (by omega) (by omega)
    have w1 : IntKind.i64.wrap ((i : Int) + 1) = (i : Int) + 1 := w64_id (by omega) (by omega)
    have wF : IntKind.i64.wrap (3 * 1) = 3 := by decide
    have wi : IntKind.i64.wrap ((i : Int) + 3) = ((i + 3 : Nat) : Int) := by rw [w64_id (by omega) (by omega)]; omega
    simp only [lt, w2, w1, wF, wi]
    by_cases h2 : (i : Int) + 2 < (l.length : Int)
    · rw [if_pos h2]
      by_cases h30 : (c.length : Int) < 30
      · rw [if_pos (decide_eq_true h30), if_pos (by omega), if_pos (by omega), if_pos (by omega), if_pos (by omega), if_pos (by omega), if_pos (by omega)]
        have hb : 0 ≤ l.getD ((i : Int) + 1).toNat 0 := by
          rw [List.getD_eq_getElem?_getD, List.getElem?_eq_getElem (by omega)]
          exact (is_u8 (hw _ (List.getElem_mem _))).1
        obtain ⟨q, hq, hq5, ⟨hqa, ds, hqc, hq0⟩, hq2⟩ := piece_good K (l.getD (i : Int).toNat 0) (l.getD ((i : Int) + 1).toNat 0) (l.getD ((i : Int) + 2).toNat 0) hb
        rw [hq]
        simp only [b1, in_eq, b2, List.length_cons, List.length_nil]
        have tail : ∀ d : List S32, d.length ≤ 32 → right (d ++ q) → ∃ r, (if (d.length + q.length) * 16 ≤ 140737488355328 then (if Int.tmod (l.getD (i : Int).toNat 0) 16 = 14 then (if ((d ++ q).length + (0 + 1 + 1 + 1 + 1 + 1 + 1 + 1)) * 16 ≤ 140737488355328 then confidantseat_Code.l1 K 1 l 1 0 true g n (d ++ q ++ [⟨12, IntKind.i32.wrap 1⟩, ⟨1, IntKind.i32.wrap 1⟩, ⟨5, IntKind.i32.wrap 0⟩, ⟨13, IntKind.i32.wrap 1⟩, ⟨12, IntKind.i32.wrap 1⟩, ⟨11, IntKind.i32.wrap (IntKind.i64.wrap (((d ++ q).length : Int) + 7))⟩, ⟨10, IntKind.i32.wrap (mx (IntKind.i64.wrap (IntKind.i64.wrap (((d ++ q).length : Int) - (q.length : Int)) + 2)) 0)⟩]) ((i + 3 : Nat) : Int) else none) else confidantseat_Code.l1 K 1 l 1 0 true g n (d ++ q) ((i + 3 : Nat) : Int)) else none) = some r ∧ R r := by
          intro d hd hdr
          rw [if_pos (by omega)]
          have hdq : (d ++ q).length ≤ 37 := by rw [List.length_append]; omega
          by_cases c14 : Int.tmod (l.getD (i : Int).toNat 0) 16 = 14
          · rw [if_pos c14, if_pos (by omega)]
            refine ih (i + 3) _ (by omega) (by omega) (by omega) (by rw [List.length_append]; simp only [List.length_cons, List.length_nil]; omega) ?_
            have e2 := hq2 c14
            refine right_app hdr (Blk.again (d ++ q).length (by omega) _ _ _ _ _ _ _ (wfw _) (wfw _) (wfw _) (wfw _) (wfw _) ?_ ?_)
            · rw [w64_id (by omega) (by omega), w32_id (by omega) (by omega)]; omega
            · rw [w64_id (x := ((d ++ q).length : Int) - (q.length : Int)) (by omega) (by omega), w64_id (by omega) (by omega)]
              have : mx (((d ++ q).length : Int) - (q.length : Int) + 2) 0 = ((d ++ q).length : Int) := by
                have : (d ++ q).length = d.length + q.length := List.length_append
                unfold mx; split <;> omega
              rw [this, w32_id (by omega) (by omega)]; omega
          · rw [if_neg c14]
            exact ih (i + 3) _ (by omega) (by omega) (by omega) (by omega) hdr
        by_cases c5 : Int.tmod (l.getD ((i : Int) + 1).toNat 0) 5 = 4
        · rw [if_pos c5, if_pos (by omega)]
          refine tail _ (by rw [List.length_append]; simp only [List.length_cons, List.length_nil]; omega) ?_
          rw [List.append_assoc]
          have hT : IntKind.i32.wrap (IntKind.i64.wrap (IntKind.i64.wrap ((c.length : Int) + 2) + (q.length : Int))) = ((c.length + (2 + q.length) : Nat) : Int) := by
            rw [w64_id (x := (c.length : Int) + 2) (by omega) (by omega), w64_id (by omega) (by omega), w32_id (by omega) (by omega)]; omega
          exact right_app hr (Blk.guard _ _ hqc hq0 hqa (wfw _) hT (wfw _))
        · rw [if_neg c5]
          exact tail c (by omega) (right_app hr (Blk.ofChk hqc hq0 hqa))
      · rw [if_neg (by simpa using h30)]
        exact hg c hc hr
    · rw [if_neg h2, if_neg (by simp)]
      exact hg c hc hr

theorem code_right (K : Nat) (l : List Int) (hl : l.length ≤ 1000) (hK : l.length + 200 ≤ K) (hw : ∀ x ∈ l, (Lit.int .u8 x).wf = true) : ∃ c, confidantseat_Code.f K l 1 1 0 true = some [c] ∧ right c ∧ c.length ≤ 100 := by
  have : ∃ r, confidantseat_Code.f K l 1 1 0 true = some r ∧ ∃ c, r = [c] ∧ right c ∧ c.length ≤ 100 := by
    unfold confidantseat_Code.f
    obtain ⟨M, rfl⟩ : ∃ M, K = M + 2 := ⟨K - 2, by omega⟩
    rw [confidantseat_Code.l0.eq_2, if_pos (by decide)]
    have w3 : IntKind.i64.wrap (3 * 0) = ((0 : Nat) : Int) := by decide
    have wf1 : IntKind.i64.wrap (0 + 1) = 1 := by decide
    simp only [lt, in_eq, b2, w3, wf1, List.length_cons, List.length_nil]
    refine l1_right (R := fun r => ∃ c, r = [c] ∧ right c ∧ c.length ≤ 100) (M + 2) l hl hw _ (fun c hc hr => ?_) (M + 2) 0 [] (by omega) (by omega) (by omega) (by simp) right_nil
    rw [if_neg (by decide), if_neg (by simp), if_pos (by omega), if_pos (by omega), confidantseat_Code.l0.eq_2, if_neg (by decide)]
    refine ⟨_, rfl, _, rfl, right_app hr (ds := [0, 1]) (Blk.ofChk (by decide) rfl ?_), by rw [List.length_append]; simp only [List.length_cons, List.length_nil]; omega⟩
    intro i hi
    simp only [List.mem_cons, List.mem_nil_iff, or_false] at hi
    rcases hi with rfl | rfl
    · exact wfw (Int.tmod 0 4)
    · exact wfw 0
  obtain ⟨r, h1, c, rfl, h2, h3⟩ := this
  exact ⟨c, h1, h2, h3⟩

/-! ### the run -/
structure Inv (c : List S32) (ds : List Nat) (t : S58) : Prop where
  id : t.f0 = 4
  fn : t.f1 = 0
  pc : ∃ n : Nat, t.f2 = (n : Int) ∧ n ≤ c.length ∧ t.f3.length = ds.getD n 0
  st : ∀ x ∈ t.f3, (Lit.int .i32 x).wf = true
  vs : (Lit.int .i32 t.f4.f0).wf = true ∧ (Lit.int .i32 t.f4.f1).wf = true ∧ (Lit.int .i32 t.f4.f2).wf = true ∧ (Lit.int .i32 t.f4.f3).wf = true
  lb : t.f5 = 2
  cl : t.f6 = 3
  pr : t.f7 = 5
theorem depth_le {b : Nat} {c : List S32} {ds : List Nat} (h : Blk b c ds) (n : Nat) : ds.getD n 0 ≤ 4 := by
  rw [List.getD_eq_getElem?_getD]
  cases he : ds[n]? with
  | none => simp
  | some d => exact h.le d (List.mem_of_getElem? he)
theorem var_wf {t : S58} (h : (Lit.int .i32 t.f4.f0).wf = true ∧ (Lit.int .i32 t.f4.f1).wf = true ∧ (Lit.int .i32 t.f4.f2).wf = true ∧ (Lit.int .i32 t.f4.f3).wf = true) (a : Int) : (Lit.int .i32 (varP t a)).wf = true := by
  unfold varP
  split
  · exact h.1
  split
  · exact h.2.1
  split
  · exact h.2.2.1
  · exact h.2.2.2
theorem set_wf (v : S55) (a x : Int) (h : (Lit.int .i32 v.f0).wf = true ∧ (Lit.int .i32 v.f1).wf = true ∧ (Lit.int .i32 v.f2).wf = true ∧ (Lit.int .i32 v.f3).wf = true) (hx : (Lit.int .i32 x).wf = true) : (Lit.int .i32 (setP v a x).f0).wf = true ∧ (Lit.int .i32 (setP v a x).f1).wf = true ∧ (Lit.int .i32 (setP v a x).f2).wf = true ∧ (Lit.int .i32 (setP v a x).f3).wf = true := by
  unfold setP
  split
  · exact ⟨hx, h.2.1, h.2.2.1, h.2.2.2⟩
  split
  · exact ⟨h.1, hx, h.2.2.1, h.2.2.2⟩
  split
  · exact ⟨h.1, h.2.1, hx, h.2.2.2⟩
  · exact ⟨h.1, h.2.1, h.2.2.1, hx⟩

/-- a task goes on -/
theorem inv_drop {c : List S32} {ds : List Nat} {t : S58} (h : Inv c ds t) (n : Nat) (hn : t.f2 = (n : Int)) (hnl : n < c.length) (hc : c.length ≤ 100) (k : Nat) (hk : k ≤ t.f3.length) (xs : List Int) (hx : ∀ x ∈ xs, (Lit.int .i32 x).wf = true) (hd : ds.getD (n + 1) 0 + k = t.f3.length + xs.length) : Inv c ds (dropP t (k : Int) xs) := by
  have e : ((t.f3.length : Int) - mn (mx (k : Int) 0) (t.f3.length : Int)).toNat = t.f3.length - k := by unfold mn mx; split <;> split <;> omega
  refine ⟨h.id, h.fn, ⟨n + 1, ?_, by omega, ?_⟩, ?_, h.vs, h.lb, h.cl, h.pr⟩
  · show IntKind.i64.wrap (t.f2 + 1) = _
    rw [hn, w64_id (by omega) (by omega)]; omega
  · show (t.f3.take _ ++ xs).length = _
    rw [e, List.length_append, List.length_take]; omega
  · intro x hx'
    rcases List.mem_append.1 hx' with q | q
    · exact h.st x (List.mem_of_mem_take q)
    · exact hx x q
theorem inv_move {c : List S32} {ds : List Nat} {t : S58} (h : Inv c ds t) (a : Int) (T : Nat) (ha : a = (T : Int)) (hT : T ≤ c.length) (hc : c.length ≤ 100) (hd : ds.getD T 0 = t.f3.length) : Inv c ds {t with f2 := IntKind.i64.wrap a} :=
  ⟨h.id, h.fn, ⟨T, by show IntKind.i64.wrap a = _; rw [ha, w64_id (by omega) (by omega)], hT, by show t.f3.length = _; omega⟩, h.st, h.vs, h.lb, h.cl, h.pr⟩

theorem top_wfL (t : S58) (h : ∀ x ∈ t.f3, (Lit.int .i32 x).wf = true) (k : Nat) : (Lit.int .i32 (topP t k)).wf = true := by
  unfold topP
  rw [List.getD_eq_getElem?_getD]
  cases he : t.f3[t.f3.length - 1 - k]? with
  | none => decide
  | some x => exact h x (List.mem_of_getElem? he)

theorem okB_plain {ds : List Nat} {m n : Nat} {o a : Int} (h : okB 0 ds m n ⟨o, a⟩) (h15 : o < 15) (h10 : o ≠ 10) (h11 : o ≠ 11) : ds.getD (n + 1) 0 + popsN o = ds.getD n 0 + pushN o := by
  rcases h with k | ⟨k, _⟩ | ⟨k, _⟩ | k
  · have : (15 : Int) ≤ o := k
    omega
  · exact absurd k h10
  · exact absurd k h11
  · exact k.2.2
theorem okB_10 {ds : List Nat} {m n : Nat} {a : Int} (h : okB 0 ds m n ⟨10, a⟩) : ∃ T : Nat, a = (T : Int) ∧ T ≤ m ∧ ds.getD T 0 = ds.getD n 0 := by
  rcases h with k | ⟨_, T, k1, k2, k3⟩ | ⟨k, _⟩ | k
  · exact absurd k (show ¬ (15 : Int) ≤ 10 by decide)
  · exact ⟨T, by rw [Nat.zero_add] at k1; exact k1, k2, k3⟩
  · exact absurd k (show ¬ (10 : Int) = 11 by decide)
  · exact absurd rfl k.1
theorem okB_11 {ds : List Nat} {m n : Nat} {a : Int} (h : okB 0 ds m n ⟨11, a⟩) : (∃ T : Nat, a = (T : Int) ∧ T ≤ m ∧ ds.getD T 0 + 1 = ds.getD n 0) ∧ ds.getD (n + 1) 0 + 1 = ds.getD n 0 := by
  rcases h with k | ⟨k, _⟩ | ⟨_, ⟨T, k1, k2, k3⟩, k4⟩ | k
  · exact absurd k (show ¬ (15 : Int) ≤ 11 by decide)
  · exact absurd k (show ¬ (11 : Int) = 10 by decide)
  · exact ⟨⟨T, by rw [Nat.zero_add] at k1; exact k1, k2, k3⟩, k4⟩
  · exact absurd rfl k.2.1
set_option maxHeartbeats 1000000 in
theorem step_inv (c : List S32) (ds : List Nat) (hB : Blk 0 c ds) (hc : c.length ≤ 100) (t : S58) (h : Inv c ds t) : ((stepP t [c]).1.f0 = 1 ∧ Inv c ds (stepP t [c]).2) ∨ ((stepP t [c]).1.f0 ≠ 1 ∧ (stepP t [c]).2 = t) := by
  obtain ⟨n, hn, hnl, hlen⟩ := h.pc
  unfold stepP
  cases hat : atP t [c] with
  | none => exact .inr ⟨show (3 : Int) ≠ 1 by decide, rfl⟩
  | some i =>
    simp only
    by_cases hm : mayP t i = true
    · rw [if_pos hm]
      have hpc : n < c.length ∧ i = c.getD n zS32 := by
        unfold atP at hat
        split at hat
        · rename_i q
          obtain ⟨_, _, _, q4⟩ := q
          rw [h.fn, hn] at q4
          have q5 : (n : Int) < (c.length : Int) := q4
          simp only [Option.some.injEq] at hat
          rw [h.fn, hn] at hat
          refine ⟨by omega, ?_⟩
          rw [← hat]; simp
        · cases hat
      obtain ⟨hpl, hi⟩ := hpc
      obtain ⟨o, a⟩ := i
      have hmay : (1 ≤ o ∧ o ≤ 26) ∧ popsP o ≤ t.f3.length ∧ (argP o ≠ 3 ∨ 0 ≤ a ∧ a < 4) := by simpa [mayP, and_assoc] using hm
      obtain ⟨⟨r1, r2⟩, r3, _⟩ := hmay
      have hok := hB.ok n hpl
      rw [← hi] at hok
      have haw : (Lit.int .i32 a).wf = true := by
        have : (⟨o, a⟩ : S32) ∈ c := by
          rw [hi, List.getD_eq_getElem?_getD, List.getElem?_eq_getElem hpl]; exact List.getElem_mem _
        exact hB.arg _ this
      have dep := depth_le hB n
      have D0 : ∀ xs : List Int, (∀ x ∈ xs, (Lit.int .i32 x).wf = true) → ds.getD (n + 1) 0 + 0 = t.f3.length + xs.length → Inv c ds (dropP t 0 xs) := fun xs hx hd => inv_drop h n hn hpl hc 0 (by omega) xs hx hd
      have D1 : ∀ xs : List Int, (∀ x ∈ xs, (Lit.int .i32 x).wf = true) → 1 ≤ t.f3.length → ds.getD (n + 1) 0 + 1 = t.f3.length + xs.length → Inv c ds (dropP t 1 xs) := fun xs hx hk hd => inv_drop h n hn hpl hc 1 hk xs hx hd
      have D2 : ∀ x : Int, (Lit.int .i32 x).wf = true → 2 ≤ t.f3.length → ds.getD (n + 1) 0 + 2 = t.f3.length + 1 → Inv c ds (dropP t 2 [x]) := fun x hx hk hd => inv_drop h n hn hpl hc 2 hk [x] (by simpa using hx) (by simpa using hd)
      have T0 := top_wfL t h.st 0
      rcases (by omega : o = 1 ∨ o = 2 ∨ o = 3 ∨ o = 4 ∨ o = 5 ∨ o = 6 ∨ o = 7 ∨ o = 8 ∨ o = 9 ∨ o = 10 ∨ o = 11 ∨ o = 12 ∨ o = 13 ∨ o = 14 ∨ 15 ≤ o) with rfl | rfl | rfl | rfl | rfl | rfl | rfl | rfl | rfl | rfl | rfl | rfl | rfl | rfl | h15
      · have e : ds.getD (n + 1) 0 + 0 = ds.getD n 0 + 1 := okB_plain hok (by decide) (by decide) (by decide)
        exact .inl ⟨rfl, D0 [a] (by simpa using haw) (by simp only [List.length_singleton, List.length_nil]; omega)⟩
      · have e : ds.getD (n + 1) 0 + 1 = ds.getD n 0 + 0 := okB_plain hok (by decide) (by decide) (by decide)
        exact .inl ⟨rfl, D1 [] (by simp) (by omega) (by simp only [List.length_singleton, List.length_nil]; omega)⟩
      · have e : ds.getD (n + 1) 0 + 1 = ds.getD n 0 + 2 := okB_plain hok (by decide) (by decide) (by decide)
        exact .inl ⟨rfl, D0 [topP t 0] (by simpa using T0) (by simp only [List.length_singleton, List.length_nil]; omega)⟩
      · have e : ds.getD (n + 1) 0 + 2 = ds.getD n 0 + 1 := okB_plain hok (by decide) (by decide) (by decide)
        have := pops_at 4 4 rfl (by omega)
        exact .inl ⟨rfl, D2 _ (wfw _) (by simp at this; omega) (by omega)⟩
      · have e : ds.getD (n + 1) 0 + 2 = ds.getD n 0 + 1 := okB_plain hok (by decide) (by decide) (by decide)
        have := pops_at 5 5 rfl (by omega)
        exact .inl ⟨rfl, D2 _ (wfw _) (by simp at this; omega) (by omega)⟩
      · have e : ds.getD (n + 1) 0 + 2 = ds.getD n 0 + 1 := okB_plain hok (by decide) (by decide) (by decide)
        have := pops_at 6 6 rfl (by omega)
        exact .inl ⟨rfl, D2 _ (wfw _) (by simp at this; omega) (by omega)⟩
      · have e : ds.getD (n + 1) 0 + 2 = ds.getD n 0 + 1 := okB_plain hok (by decide) (by decide) (by decide)
        have := pops_at 7 7 rfl (by omega)
        have hd : doP t 7 a = if topP t 0 = 0 then (⟨3, 0, 32⟩, t) else (went, dropP t 2 [IntKind.i32.wrap (Int.tdiv (topP t 1) (topP t 0))]) := rfl
        rw [hd]
        by_cases z : topP t 0 = 0
        · rw [if_pos z]; exact .inr ⟨show (3 : Int) ≠ 1 by decide, rfl⟩
        · rw [if_neg z]; exact .inl ⟨rfl, D2 _ (wfw _) (by simp at this; omega) (by omega)⟩
      · have e : ds.getD (n + 1) 0 + 2 = ds.getD n 0 + 1 := okB_plain hok (by decide) (by decide) (by decide)
        have := pops_at 8 8 rfl (by omega)
        refine .inl ⟨rfl, D2 (if topP t 1 < topP t 0 then 1 else 0) ?_ (by simp at this; omega) (by omega)⟩
        split <;> decide
      · have e : ds.getD (n + 1) 0 + 2 = ds.getD n 0 + 1 := okB_plain hok (by decide) (by decide) (by decide)
        have := pops_at 9 9 rfl (by omega)
        refine .inl ⟨rfl, D2 (if topP t 1 = topP t 0 then 1 else 0) ?_ (by simp at this; omega) (by omega)⟩
        split <;> decide
      · obtain ⟨T, hT, hTl, hTd⟩ : ∃ T : Nat, a = (T : Int) ∧ T ≤ c.length ∧ ds.getD T 0 = ds.getD n 0 := okB_10 hok
        refine .inl ⟨rfl, ?_⟩
        have e : ((t.f3.length : Int) - mn (mx 0 0) (t.f3.length : Int)).toNat = t.f3.length := by unfold mn mx; split <;> split <;> omega
        have hm2 := inv_move h a T hT hTl hc (by omega)
        have : (doP t 10 a).2 = {t with f2 := IntKind.i64.wrap a} := by
          show ({dropP t 0 [] with f2 := IntKind.i64.wrap a} : S58) = _
          unfold dropP
          rw [e, List.take_length, List.append_nil]
        rw [this]; exact hm2
      · have e4 : (∃ T : Nat, a = (T : Int) ∧ T ≤ c.length ∧ ds.getD T 0 + 1 = ds.getD n 0) ∧ ds.getD (n + 1) 0 + 1 = ds.getD n 0 := okB_11 hok
        obtain ⟨⟨T, hT, hTl, hTd⟩, hd1⟩ := e4
        have I1 := D1 [] (by simp) (by omega) (by simp only [List.length_nil]; omega)
        have hd : doP t 11 a = (went, if topP t 0 = 0 then {dropP t 1 [] with f2 := IntKind.i64.wrap a} else dropP t 1 []) := rfl
        rw [hd]
        refine .inl ⟨rfl, ?_⟩
        simp only
        by_cases z : topP t 0 = 0
        · rw [if_pos z]
          refine inv_move I1 a T hT hTl hc ?_
          show _ = (t.f3.take _ ++ []).length
          have e : ((t.f3.length : Int) - mn (mx 1 0) (t.f3.length : Int)).toNat = t.f3.length - 1 := by unfold mn mx; split <;> split <;> omega
          rw [e, List.append_nil, List.length_take]; omega
        · rw [if_neg z]; exact I1
      · have e : ds.getD (n + 1) 0 + 0 = ds.getD n 0 + 1 := okB_plain hok (by decide) (by decide) (by decide)
        exact .inl ⟨rfl, D0 [varP t a] (by simpa using var_wf h.vs a) (by simp only [List.length_singleton, List.length_nil]; omega)⟩
      · have e : ds.getD (n + 1) 0 + 1 = ds.getD n 0 + 0 := okB_plain hok (by decide) (by decide) (by decide)
        have I1 := D1 [] (by simp) (by omega) (by simp only [List.length_nil]; omega)
        exact .inl ⟨rfl, ⟨I1.id, I1.fn, I1.pc, I1.st, set_wf _ _ _ h.vs T0, I1.lb, I1.cl, I1.pr⟩⟩
      · have e : ds.getD (n + 1) 0 + 0 = ds.getD n 0 + 1 := okB_plain hok (by decide) (by decide) (by decide)
        exact .inl ⟨rfl, D0 [IntKind.i32.wrap t.f5] (by simpa using wfw _) (by simp only [List.length_singleton]; omega)⟩
      · refine .inr ?_
        unfold doP
        rw [if_neg (show ¬ o = 1 by omega), if_neg (show ¬ o = 2 by omega), if_neg (show ¬ o = 3 by omega), if_neg (show ¬ o = 10 by omega), if_neg (show ¬ o = 11 by omega), if_neg (show ¬ o = 12 by omega), if_neg (show ¬ o = 13 by omega), if_neg (show ¬ o = 14 by omega), if_neg (show ¬ o = 4 by omega), if_neg (show ¬ o = 5 by omega), if_neg (show ¬ o = 6 by omega), if_neg (show ¬ o = 8 by omega), if_neg (show ¬ o = 9 by omega), if_neg (show ¬ o = 7 by omega)]
        by_cases q : o = 25
        · rw [if_pos q]; exact ⟨show (2 : Int) ≠ 1 by decide, rfl⟩
        rw [if_neg q]
        by_cases q2 : o = 26
        · rw [if_pos q2]; exact ⟨show (3 : Int) ≠ 1 by decide, rfl⟩
        rw [if_neg q2]; exact ⟨show (4 : Int) ≠ 1 by decide, rfl⟩
    · rw [if_neg hm]; exact .inr ⟨show (3 : Int) ≠ 1 by decide, rfl⟩

theorem tr_l0 (K : Nat) (hK : 100 ≤ K) (a10 : Int) (h10 : 0 ≤ a10 ∧ a10 ≤ 255) (c : List S32) (ds : List Nat) (hB : Blk 0 c ds) (hc : c.length ≤ 100) : ∀ (d n i : Nat) (t : S58), (i : Int) + d = a10 → d < n → Inv c ds t →
    confidantlaw10_TaskRuns.l0 K a10 n t.f0 t.f1 t.f2 t.f3 t.f4.f0 t.f4.f1 t.f4.f2 t.f4.f3 t.f5 t.f6 t.f7 t.f8 t.f0 t.f1 t.f2 t.f3 t.f4.f0 t.f4.f1 t.f4.f2 t.f4.f3 t.f5 t.f6 t.f7 t.f8 [c] (i : Int) = some true := by
  intro d
  induction d with
  | zero =>
    intro n i t hi hn ht
    obtain ⟨n, rfl⟩ : ∃ m, n = m + 1 := ⟨n - 1, by omega⟩
    rw [confidantlaw10_TaskRuns.l0.eq_2, w64_id (by omega) (by omega), if_neg (by omega)]
  | succ d ih =>
    intro n i t hi hn ht
    obtain ⟨n, rfl⟩ : ∃ m, n = m + 1 := ⟨n - 1, by omega⟩
    obtain ⟨pn, _, _, hlen⟩ := ht.pc
    have dep := depth_le hB pn
    rw [confidantlaw10_TaskRuns.l0.eq_2, w64_id (x := a10) (by omega) (by omega), if_pos (by omega)]
    have e1 : task_Step.f K ⟨t.f0, t.f1, t.f2, t.f3, ⟨t.f4.f0, t.f4.f1, t.f4.f2, t.f4.f3⟩, t.f5, t.f6, t.f7, t.f8⟩ [c] = some (stepP t [c]) := step_eq K t [c] (by omega)
    have e2 : confidantref9_Step.f K ⟨t.f0, t.f1, t.f2, t.f3, ⟨t.f4.f0, t.f4.f1, t.f4.f2, t.f4.f3⟩, t.f5, t.f6, t.f7, t.f8⟩ [c] = some (stepP t [c]) := ref_eq K t [c] (by omega) ht.st
    rw [e1, e2]
    have hs := step_inv c ds hB hc t ht
    generalize stepP t [c] = r at hs
    obtain ⟨o, u⟩ := r
    simp only [b2, lt] at hs ⊢
    have hu : u.f0 = 4 ∧ u.f5 = 2 ∧ u.f6 = 3 ∧ u.f7 = 5 ∧ u.f3.length ≤ 4 := by
      rcases hs with ⟨_, I⟩ | ⟨_, rfl⟩
      · obtain ⟨m, _, _, hl⟩ := I.pc
        exact ⟨I.id, I.lb, I.cl, I.pr, by have := depth_le hB m; omega⟩
      · exact ⟨ht.id, ht.lb, ht.cl, ht.pr, by omega⟩
    obtain ⟨u0, u5, u6, u7, ul⟩ := hu
    rw [if_pos (by simp), same_self K u (by omega) (by omega)]
    simp only [b1, if_true]
    rw [if_pos u0, if_pos u5, if_pos u6, if_pos u7, if_neg (by simp; omega)]
    rcases hs with ⟨h1, I⟩ | ⟨h1, rfl⟩
    · rw [if_pos h1, w64_id (by omega) (by omega)]
      have := ih n (i + 1) u (by omega) (by omega) I
      rwa [Int.natCast_add] at this
    · rw [if_neg h1]
      have : confidantref9_Same.f K u ⟨u.f0, u.f1, u.f2, u.f3, ⟨u.f4.f0, u.f4.f1, u.f4.f2, u.f4.f3⟩, u.f5, u.f6, u.f7, u.f8⟩ = some true := same_self K u (by omega) (by omega)
      rw [this]
      rfl

theorem TaskRuns : confidantlaw10_TaskRuns.Pure := by
  intro l a9 a10 _ hw h9 h10
  obtain ⟨K, hK, hk⟩ : ∃ K, 400 ≤ K ∧ confidantlaw10_known.f K = some true := ⟨400, Nat.le_refl _, by kernel_rfl⟩
  refine ⟨K, ?_⟩
  have u10 := is_u8 h10
  unfold confidantlaw10_TaskRuns.f
  rw [hk]
  simp only [b1, if_true]
  by_cases q : (l.length : Int) > 60
  · rw [if_pos q]
  rw [if_neg q]
  obtain ⟨c, hc, ⟨ds, hB⟩, hcl⟩ := code_right K l (by omega) (by omega) hw
  rw [hc]
  unfold task_New.f confidantref9_New.f
  simp only [b1]
  have z0 : (Lit.int .i32 0).wf = true := by decide
  have I : Inv c ds ⟨4, 0, 0, [], ⟨a9, 0, 0, 0⟩, 2, 3, 5, 1⟩ := ⟨rfl, rfl, ⟨0, rfl, by omega, by rw [← head_getD, hB.head]; rfl⟩, by simp, ⟨h9, z0, z0, z0⟩, rfl, rfl, rfl⟩
  exact tr_l0 K (by omega) a10 u10 c ds hB hcl a10.toNat K 0 ⟨4, 0, 0, [], ⟨a9, 0, 0, 0⟩, 2, 3, 5, 1⟩ (by omega) (by omega) I
end Go.Proofs.Ytlcnkngpankkpaa.Pure
