import Derived.Test.YtiilloijkbabbaaDoorG0
import Derived.Test.YtiilloijkbabbaaDoorG1
import Derived.Test.YtiilloijkbabbaaDoorG2
import Derived.Test.YtiilloijkbabbaaDoorInsA
/- Code out of numbers: there is some, and it is right. Conditions: in the lemmas. -/
set_option linter.unusedVariables false
set_option linter.unusedSimpArgs false
namespace Go.Proofs.YtiilloijkbabbaaDoor.Code
open Go Go.Fw Go.RowKit Go.Proofs.YtiilloijkbabbaaDoor.G Go.Proofs.YtiilloijkbabbaaDoor.Txt Go.Proofs.YtiilloijkbabbaaDoor.Ins

/-- right, and of 32 bits -/
def rng (x : S27) : Prop := Rt x.f0 x.f1 ∧ i32r x.f1
theorem r0 (op : Int) (h : Kn op ∧ argT op = 0) : rng ⟨op, IntKind.i32.wrap 0⟩ := show Rt op (IntKind.i32.wrap 0) ∧ i32r (IntKind.i32.wrap 0) from ⟨⟨h.1, fun _ => w32_id (x := 0) (by omega) (by omega), fun n => absurd h.2 n⟩, i32_wrap 0⟩
theorem r1 (op : Int) (h : Kn op ∧ argT op = 1) (b : Int) : rng ⟨op, IntKind.i32.wrap b⟩ := show Rt op (IntKind.i32.wrap b) ∧ i32r (IntKind.i32.wrap b) from ⟨⟨h.1, fun n => absurd (h.2.symm.trans n) (by omega), fun _ n => absurd h.2 n⟩, i32_wrap b⟩
theorem r2 (op : Int) (h : Kn op ∧ argT op ≠ 0) (b : Int) (hb : 0 ≤ b ∧ b ≤ 2147483647) : rng ⟨op, IntKind.i32.wrap b⟩ := show Rt op (IntKind.i32.wrap b) ∧ i32r (IntKind.i32.wrap b) from ⟨⟨h.1, fun n => absurd n h.2, fun _ _ => by show 0 ≤ IntKind.i32.wrap b; rw [w32_id (by omega) (by omega)]; omega⟩, i32_wrap b⟩
theorem ops6 : ∀ j : Fin 6, Kn (([4, 5, 6, 7, 8, 9] : List Int).getD (j : Nat) 0) ∧ argT (([4, 5, 6, 7, 8, 9] : List Int).getD (j : Nat) 0) = 0 := by decide +kernel
theorem nn4 (a m : Int) (ha : 0 ≤ a ∧ a ≤ 255) (hm : 1 ≤ m ∧ m ≤ 1000) : 0 ≤ IntKind.i64.wrap (Int.tmod a m) ∧ IntKind.i64.wrap (Int.tmod a m) ≤ 2147483647 := by
  have h1 := Int.emod_nonneg a (show m ≠ 0 by omega)
  have h2 := Int.emod_lt_of_pos a (show 0 < m by omega)
  rw [Int.tmod_eq_emod_of_nonneg ha.1, w64_id (by omega) (by omega)]
  omega
theorem nnL (a m : Int) (ha : 0 ≤ a ∧ a ≤ 255) (hm : 1 ≤ m ∧ m ≤ 1000) : 0 ≤ Int.tmod (IntKind.i64.wrap a) m ∧ Int.tmod (IntKind.i64.wrap a) m ≤ 2147483647 := by
  have h1 := Int.emod_nonneg a (show m ≠ 0 by omega)
  have h2 := Int.emod_lt_of_pos a (show 0 < m by omega)
  rw [w64_id (x := a) (by omega) (by omega), Int.tmod_eq_emod_of_nonneg ha.1]
  omega
theorem rng_app {a b : List S27} (ha : ∀ x ∈ a, rng x) (hb : ∀ x ∈ b, rng x) : ∀ x ∈ a ++ b, rng x := fun x hx => (List.mem_append.1 hx).elim (ha x) (hb x)
theorem rng_no : ∀ x ∈ ([] : List S27), rng x := fun x hx => nomatch hx
theorem rng_cons {a : S27} {b : List S27} (ha : rng a) (hb : ∀ x ∈ b, rng x) : ∀ x ∈ a :: b, rng x := fun x hx => (List.mem_cons.1 hx).elim (fun h => h ▸ ha) (hb x)
/-- a function's code -/
def good (c : List S27) : Prop := (∀ x ∈ c, rng x) ∧ 1 ≤ c.length ∧ c.length ≤ 62
theorem in_eq (K : Nat) (a b : Int) : confidantseat_in.f K a b = some (a, IntKind.i32.wrap b) := rfl
set_option maxHeartbeats 2000000 in
theorem piece_some (K : Nat) (k a b L F G : Int) (p : Bool) (hL : 1 ≤ L ∧ L ≤ 1000) (hF : 1 ≤ F ∧ F ≤ 1000) (hG : 0 ≤ G ∧ G ≤ 1000) (ha : 0 ≤ a ∧ a ≤ 255) (hb : 0 ≤ b ∧ b ≤ 255) : ∃ q, confidantseat_piece.f K k a b L F G p = some q ∧ q.length ≤ 5 ∧ ∀ x ∈ q, rng x := by
  unfold confidantseat_piece.f
  have h6 : 0 ≤ Int.tmod a 6 ∧ Int.tmod a 6 < 6 := by rw [Int.tmod_eq_emod_of_nonneg ha.1]; omega
  have a4 := nn4 a 4 ha (by omega)
  have a3 := nn4 a 3 ha (by omega)
  have b4 := nn4 b 4 hb (by omega)
  have aL := nnL a L ha hL
  have bF := nnL b F hb hF
  have hop : Kn (([4, 5, 6, 7, 8, 9] : List Int).getD (Int.tmod a 6).toNat 0) ∧ argT (([4, 5, 6, 7, 8, 9] : List Int).getD (Int.tmod a 6).toNat 0) = 0 := ops6 ⟨(Int.tmod a 6).toNat, by omega⟩
  have gG : G ≠ 0 → 0 ≤ Int.tmod (IntKind.i64.wrap a) G ∧ Int.tmod (IntKind.i64.wrap a) G ≤ 2147483647 := fun h => nnL a G ha (by omega)
  rw [if_neg (by omega), if_neg (by omega)]
  simp only [in_eq, b2, lt]
  by_cases c0 : Int.tmod k 16 = 0
  · rw [if_pos c0, if_pos h6.1, if_pos (by simpa using h6.2)]; exact ⟨_, rfl, by simp, (by repeat (first | exact rng_no | refine rng_cons (by first | exact r0 _ (by decide +kernel) | exact r0 _ hop | exact r1 _ (by decide +kernel) _ | exact r2 _ (by decide +kernel) _ (by first | assumption | omega)) ?_))⟩
  rw [if_neg c0]
  by_cases c1 : Int.tmod k 16 = 1
  · rw [if_pos c1]; exact ⟨_, rfl, by simp, (by repeat (first | exact rng_no | refine rng_cons (by first | exact r0 _ (by decide +kernel) | exact r0 _ hop | exact r1 _ (by decide +kernel) _ | exact r2 _ (by decide +kernel) _ (by first | assumption | omega)) ?_))⟩
  rw [if_neg c1]
  by_cases c2 : Int.tmod k 16 = 2
  · rw [if_pos c2]; exact ⟨_, rfl, by simp, (by repeat (first | exact rng_no | refine rng_cons (by first | exact r0 _ (by decide +kernel) | exact r0 _ hop | exact r1 _ (by decide +kernel) _ | exact r2 _ (by decide +kernel) _ (by first | assumption | omega)) ?_))⟩
  rw [if_neg c2]
  by_cases c3 : Int.tmod k 16 = 3
  · rw [if_pos c3]; exact ⟨_, rfl, by simp, (by repeat (first | exact rng_no | refine rng_cons (by first | exact r0 _ (by decide +kernel) | exact r0 _ hop | exact r1 _ (by decide +kernel) _ | exact r2 _ (by decide +kernel) _ (by first | assumption | omega)) ?_))⟩
  rw [if_neg c3]
  by_cases c4 : Int.tmod k 16 = 4
  · rw [if_pos c4]; exact ⟨_, rfl, by simp, (by repeat (first | exact rng_no | refine rng_cons (by first | exact r0 _ (by decide +kernel) | exact r0 _ hop | exact r1 _ (by decide +kernel) _ | exact r2 _ (by decide +kernel) _ (by first | assumption | omega)) ?_))⟩
  rw [if_neg c4]
  by_cases c5 : Int.tmod k 16 = 5
  · rw [if_pos c5]; exact ⟨_, rfl, by simp, (by repeat (first | exact rng_no | refine rng_cons (by first | exact r0 _ (by decide +kernel) | exact r0 _ hop | exact r1 _ (by decide +kernel) _ | exact r2 _ (by decide +kernel) _ (by first | assumption | omega)) ?_))⟩
  rw [if_neg c5]
  by_cases c6 : Int.tmod k 16 = 6
  · rw [if_pos c6]; exact ⟨_, rfl, by simp, (by repeat (first | exact rng_no | refine rng_cons (by first | exact r0 _ (by decide +kernel) | exact r0 _ hop | exact r1 _ (by decide +kernel) _ | exact r2 _ (by decide +kernel) _ (by first | assumption | omega)) ?_))⟩
  rw [if_neg c6]
  by_cases c7 : Int.tmod k 16 = 7
  · rw [if_pos c7]; exact ⟨_, rfl, by simp, (by repeat (first | exact rng_no | refine rng_cons (by first | exact r0 _ (by decide +kernel) | exact r0 _ hop | exact r1 _ (by decide +kernel) _ | exact r2 _ (by decide +kernel) _ (by first | assumption | omega)) ?_))⟩
  rw [if_neg c7]
  by_cases c8 : Int.tmod k 16 = 8
  · rw [if_pos c8, if_pos trivial]; exact ⟨_, rfl, by simp, (by repeat (first | exact rng_no | refine rng_cons (by first | exact r0 _ (by decide +kernel) | exact r0 _ hop | exact r1 _ (by decide +kernel) _ | exact r2 _ (by decide +kernel) _ (by first | assumption | omega)) ?_))⟩
  rw [if_neg c8]
  by_cases c9 : Int.tmod k 16 = 9
  · rw [if_pos (decide_eq_true c9)]; exact ⟨_, rfl, by simp, (by repeat (first | exact rng_no | refine rng_cons (by first | exact r0 _ (by decide +kernel) | exact r0 _ hop | exact r1 _ (by decide +kernel) _ | exact r2 _ (by decide +kernel) _ (by first | assumption | omega)) ?_))⟩
  rw [if_neg (by simpa using c9)]
  by_cases c10 : Int.tmod k 16 = 10
  · rw [if_pos c10]; exact ⟨_, rfl, by simp, (by repeat (first | exact rng_no | refine rng_cons (by first | exact r0 _ (by decide +kernel) | exact r0 _ hop | exact r1 _ (by decide +kernel) _ | exact r2 _ (by decide +kernel) _ (by first | assumption | omega)) ?_))⟩
  rw [if_neg c10]
  by_cases c11 : Int.tmod k 16 = 11
  · rw [if_pos c11]; exact ⟨_, rfl, by simp, (by repeat (first | exact rng_no | refine rng_cons (by first | exact r0 _ (by decide +kernel) | exact r0 _ hop | exact r1 _ (by decide +kernel) _ | exact r2 _ (by decide +kernel) _ (by first | assumption | omega)) ?_))⟩
  rw [if_neg c11]
  by_cases c12 : Int.tmod k 16 = 12
  · rw [if_pos c12]
    by_cases g : G = 0
    · rw [if_pos g, if_pos trivial]; exact ⟨_, rfl, by simp, (by repeat (first | exact rng_no | refine rng_cons (by first | exact r0 _ (by decide +kernel) | exact r0 _ hop | exact r1 _ (by decide +kernel) _ | exact r2 _ (by decide +kernel) _ (by first | assumption | omega)) ?_))⟩
    · have gG2 := gG g
      rw [if_neg g]
      by_cases q : p = true
      · rw [if_pos q]; exact ⟨_, rfl, by simp, (by repeat (first | exact rng_no | refine rng_cons (by first | exact r0 _ (by decide +kernel) | exact r0 _ hop | exact r1 _ (by decide +kernel) _ | exact r2 _ (by decide +kernel) _ (by first | assumption | omega)) ?_))⟩
      · rw [if_neg q, if_neg g]; exact ⟨_, rfl, by simp, (by repeat (first | exact rng_no | refine rng_cons (by first | exact r0 _ (by decide +kernel) | exact r0 _ hop | exact r1 _ (by decide +kernel) _ | exact r2 _ (by decide +kernel) _ (by first | assumption | omega)) ?_))⟩
  rw [if_neg c12]
  by_cases c13 : Int.tmod k 16 = 13
  · rw [if_pos c13]
    by_cases g : G = 0
    · rw [if_pos g]; exact ⟨_, rfl, by simp, (by repeat (first | exact rng_no | refine rng_cons (by first | exact r0 _ (by decide +kernel) | exact r0 _ hop | exact r1 _ (by decide +kernel) _ | exact r2 _ (by decide +kernel) _ (by first | assumption | omega)) ?_))⟩
    · have gG2 := gG g
      rw [if_neg g]; exact ⟨_, rfl, by simp, (by repeat (first | exact rng_no | refine rng_cons (by first | exact r0 _ (by decide +kernel) | exact r0 _ hop | exact r1 _ (by decide +kernel) _ | exact r2 _ (by decide +kernel) _ (by first | assumption | omega)) ?_))⟩
  rw [if_neg c13]
  by_cases c14 : Int.tmod k 16 = 14
  · rw [if_pos c14]; exact ⟨_, rfl, by simp, (by repeat (first | exact rng_no | refine rng_cons (by first | exact r0 _ (by decide +kernel) | exact r0 _ hop | exact r1 _ (by decide +kernel) _ | exact r2 _ (by decide +kernel) _ (by first | assumption | omega)) ?_))⟩
  rw [if_neg c14]
  exact ⟨_, rfl, by simp, (by repeat (first | exact rng_no | refine rng_cons (by first | exact r0 _ (by decide +kernel) | exact r0 _ hop | exact r1 _ (by decide +kernel) _ | exact r2 _ (by decide +kernel) _ (by first | assumption | omega)) ?_))⟩

theorem l1_some {R : List (List S27) → Prop} (K : Nat) (F : Nat) (l : List Int) (L G : Int) (p : Bool) (hl : l.length ≤ 1000) (hw : ∀ x ∈ l, (Lit.int .u8 x).wf = true) (hF : 1 ≤ F ∧ F ≤ 100) (hL : 1 ≤ L ∧ L ≤ 1000) (hG : 0 ≤ G ∧ G ≤ 1000) (g : List S27 → Option (List (List S27)))
    (hg : ∀ c : List S27, c.length ≤ 60 → (∀ x ∈ c, rng x) → ∃ r, g c = some r ∧ R r) : ∀ (n i : Nat) (c : List S27), l.length + 1 ≤ i + n → 1 ≤ n → i ≤ 10000 → c.length ≤ 60 → (∀ x ∈ c, rng x) → ∃ r, confidantseat_Code.l1 K (F : Int) l L G p g n c (i : Int) = some r ∧ R r := by
  intro n
  induction n with
  | zero => intro i c _ h; omega
  | succ n ih =>
    intro i c hn _ hi hc hcr
    rw [confidantseat_Code.l1.eq_2]
    have w2 : IntKind.i64.wrap ((i : Int) + 2) = (i : Int) + 2 := w64_id (by omega) (by omega)
    have w1 : IntKind.i64.wrap ((i : Int) + 1) = (i : Int) + 1 := w64_id (by omega) (by omega)
    have wF : IntKind.i64.wrap (3 * (F : Int)) = 3 * (F : Int) := w64_id (by omega) (by omega)
    have wi : IntKind.i64.wrap ((i : Int) + 3 * (F : Int)) = ((i + 3 * F : Nat) : Int) := by rw [w64_id (by omega) (by omega)]; omega
    simp only [lt, w2, w1, wF, wi]
    by_cases h2 : (i : Int) + 2 < (l.length : Int)
    · rw [if_pos h2]
      by_cases h30 : (c.length : Int) < 30
      · rw [if_pos (decide_eq_true h30), if_pos (by omega), if_pos (by omega), if_pos (by omega), if_pos (by omega), if_pos (by omega), if_pos (by omega)]
        have hb : ∀ k : Nat, k < l.length → 0 ≤ l.getD k 0 ∧ l.getD k 0 ≤ 255 := fun k hk => by
          rw [List.getD_eq_getElem?_getD, List.getElem?_eq_getElem hk]
          exact is_u8 (hw _ (List.getElem_mem _))
        have hb1 := hb ((i : Int) + 1).toNat (by omega)
        have hb2 := hb ((i : Int) + 2).toNat (by omega)
        have hb4 := nn4 _ 4 hb2 (by omega)
        obtain ⟨q, hq, hq5, hqr⟩ := piece_some K (l.getD (i : Int).toNat 0) (l.getD ((i : Int) + 1).toNat 0) (l.getD ((i : Int) + 2).toNat 0) L F G p hL (by omega) hG hb1 hb2
        rw [hq]
        simp only [b1, in_eq, b2, List.length_cons, List.length_nil]
        have tail : ∀ d : List S27, d.length ≤ 32 → (∀ x ∈ d, rng x) → ∃ r, (if (d.length + q.length) * 16 ≤ 140737488355328 then (if Int.tmod (l.getD (i : Int).toNat 0) 16 = 14 then (if ((d ++ q).length + (0 + 1 + 1 + 1 + 1 + 1 + 1 + 1)) * 16 ≤ 140737488355328 then confidantseat_Code.l1 K (F : Int) l L G p g n (d ++ q ++ [⟨12, IntKind.i32.wrap 1⟩, ⟨1, IntKind.i32.wrap 1⟩, ⟨5, IntKind.i32.wrap 0⟩, ⟨13, IntKind.i32.wrap 1⟩, ⟨12, IntKind.i32.wrap 1⟩, ⟨11, IntKind.i32.wrap (IntKind.i64.wrap (((d ++ q).length : Int) + 7))⟩, ⟨10, IntKind.i32.wrap (mx (IntKind.i64.wrap (IntKind.i64.wrap (((d ++ q).length : Int) - (q.length : Int)) + 2)) 0)⟩]) ((i + 3 * F : Nat) : Int) else none) else confidantseat_Code.l1 K (F : Int) l L G p g n (d ++ q) ((i + 3 * F : Nat) : Int)) else none) = some r ∧ R r := by
          intro d hd hdr
          rw [if_pos (by omega)]
          have hdq : (d ++ q).length ≤ 37 := by rw [List.length_append]; omega
          have e1 : 0 ≤ IntKind.i64.wrap (((d ++ q).length : Int) + 7) ∧ IntKind.i64.wrap (((d ++ q).length : Int) + 7) ≤ 2147483647 := by rw [w64_id (by omega) (by omega)]; omega
          have e2 : 0 ≤ mx (IntKind.i64.wrap (IntKind.i64.wrap (((d ++ q).length : Int) - (q.length : Int)) + 2)) 0 ∧ mx (IntKind.i64.wrap (IntKind.i64.wrap (((d ++ q).length : Int) - (q.length : Int)) + 2)) 0 ≤ 2147483647 := by
            rw [w64_id (x := ((d ++ q).length : Int) - (q.length : Int)) (by omega) (by omega), w64_id (by omega) (by omega)]
            unfold mx
            split <;> omega
          by_cases c14 : Int.tmod (l.getD (i : Int).toNat 0) 16 = 14
          · rw [if_pos c14, if_pos (by omega)]
            exact ih (i + 3 * F) _ (by omega) (by omega) (by omega) (by rw [List.length_append]; simp only [List.length_cons, List.length_nil]; omega) (rng_app (rng_app hdr hqr) (by repeat (first | exact rng_no | refine rng_cons (by first | exact r0 _ (by decide +kernel) | exact r1 _ (by decide +kernel) _ | exact r2 _ (by decide +kernel) _ (by first | assumption | omega)) ?_)))
          · rw [if_neg c14]
            exact ih (i + 3 * F) _ (by omega) (by omega) (by omega) (by omega) (rng_app hdr hqr)
        by_cases c5 : Int.tmod (l.getD ((i : Int) + 1).toNat 0) 5 = 4
        · have e3 : 0 ≤ IntKind.i64.wrap (IntKind.i64.wrap ((c.length : Int) + 2) + (q.length : Int)) ∧ IntKind.i64.wrap (IntKind.i64.wrap ((c.length : Int) + 2) + (q.length : Int)) ≤ 2147483647 := by rw [w64_id (x := (c.length : Int) + 2) (by omega) (by omega), w64_id (by omega) (by omega)]; omega
          rw [if_pos c5, if_pos (by omega)]
          exact tail _ (by rw [List.length_append]; simp only [List.length_cons, List.length_nil]; omega) (rng_app hcr (by repeat (first | exact rng_no | refine rng_cons (by first | exact r0 _ (by decide +kernel) | exact r1 _ (by decide +kernel) _ | exact r2 _ (by decide +kernel) _ (by first | assumption | omega)) ?_)))
        · rw [if_neg c5]
          exact tail c (by omega) hcr
      · rw [if_neg (by simpa using h30)]
        exact hg c hc hcr
    · rw [if_neg h2, if_neg (by simp)]
      exact hg c hc hcr

theorem l0_some (K : Nat) (F : Nat) (l : List Int) (L G : Int) (p : Bool) (hl : l.length ≤ 1000) (hK : l.length + 2 ≤ K) (hw : ∀ x ∈ l, (Lit.int .u8 x).wf = true) (hF : 1 ≤ F ∧ F ≤ 100) (hL : 1 ≤ L ∧ L ≤ 1000) (hG : 0 ≤ G ∧ G ≤ 1000) : ∀ (d n f : Nat) (m : List (List S27)), f + d = F → d < n → m.length = f → (∀ c ∈ m, good c) →
    ∃ r, confidantseat_Code.l0 K (F : Int) l L G p n m (f : Int) = some r ∧ r.length = F ∧ (∀ c ∈ r, good c) := by
  intro d
  induction d with
  | zero =>
    intro n f m hf hn hm hmr
    obtain ⟨n, rfl⟩ : ∃ k, n = k + 1 := ⟨n - 1, by omega⟩
    rw [confidantseat_Code.l0.eq_2, if_neg (by omega)]
    exact ⟨_, rfl, by omega, hmr⟩
  | succ d ih =>
    intro n f m hf hn hm hmr
    obtain ⟨n, rfl⟩ : ∃ k, n = k + 1 := ⟨n - 1, by omega⟩
    rw [confidantseat_Code.l0.eq_2, if_pos (by omega)]
    have w3 : IntKind.i64.wrap (3 * (f : Int)) = ((3 * f : Nat) : Int) := by rw [w64_id (by omega) (by omega)]; omega
    have wf1 : IntKind.i64.wrap ((f : Int) + 1) = ((f + 1 : Nat) : Int) := by rw [w64_id (by omega) (by omega)]; omega
    simp only [lt, in_eq, b2, w3, wf1, List.length_cons, List.length_nil]
    refine l1_some (R := fun r => r.length = F ∧ ∀ c ∈ r, good c) K F l L G p hl hw hF hL hG _ (fun c hc hcr => ?_) K (3 * f) [] (by omega) (by omega) (by omega) (by simp) rng_no
    have hf4 : 0 ≤ Int.tmod (f : Int) 4 ∧ Int.tmod (f : Int) 4 ≤ 2147483647 := by rw [Int.tmod_eq_emod_of_nonneg (by omega)]; omega
    have hlast : ∀ b : List S27, good b → ∃ r, (if (m.length + (0 + 1)) * 24 ≤ 140737488355328 then confidantseat_Code.l0 K (F : Int) l L G p n (m ++ [b]) ((f + 1 : Nat) : Int) else none) = some r ∧ r.length = F ∧ (∀ c ∈ r, good c) := by
      intro b hbr
      rw [if_pos (by omega)]
      exact ih n (f + 1) _ (by omega) (by omega) (by rw [List.length_append]; simp; omega) (fun c hc => (List.mem_append.1 hc).elim (hmr c) (fun h => List.mem_singleton.1 h ▸ hbr))
    have hcase : ∀ x : Bool, (x = true → (f : Int) < (l.length : Int)) → ∃ r, (if x = true then (if 0 ≤ (f : Int) then (if (f : Int) < (l.length : Int) then (if (c.length + (0 + 1)) * 16 ≤ 140737488355328 then (if (m.length + (0 + 1)) * 24 ≤ 140737488355328 then confidantseat_Code.l0 K (F : Int) l L G p n (m ++ [c ++ [(⟨26, IntKind.i32.wrap (IntKind.i64.wrap (IntKind.u8.wrap (Int.tdiv (l.getD (f : Int).toNat 0) 8)))⟩ : S27)]]) ((f + 1 : Nat) : Int) else none) else none) else none) else none) else (if (c.length + (0 + 1 + 1)) * 16 ≤ 140737488355328 then (if (m.length + (0 + 1)) * 24 ≤ 140737488355328 then confidantseat_Code.l0 K (F : Int) l L G p n (m ++ [c ++ [(⟨12, IntKind.i32.wrap (Int.tmod (f : Int) 4)⟩ : S27), ⟨25, IntKind.i32.wrap 0⟩]]) ((f + 1 : Nat) : Int) else none) else none)) = some r ∧ r.length = F ∧ (∀ c ∈ r, good c) := by
      intro x hx
      cases x with
      | true =>
        rw [if_pos rfl, if_pos (by omega), if_pos (hx rfl), if_pos (by omega)]
        exact hlast _ ⟨rng_app hcr (by repeat (first | exact rng_no | refine rng_cons (by first | exact r0 _ (by decide +kernel) | exact r1 _ (by decide +kernel) _ | exact r2 _ (by decide +kernel) _ (by first | assumption | omega)) ?_)), by rw [List.length_append]; simp, by rw [List.length_append]; simp; omega⟩
      | false =>
        rw [if_neg (by simp), if_pos (by omega)]
        exact hlast _ ⟨rng_app hcr (by repeat (first | exact rng_no | refine rng_cons (by first | exact r0 _ (by decide +kernel) | exact r1 _ (by decide +kernel) _ | exact r2 _ (by decide +kernel) _ (by first | assumption | omega)) ?_)), by rw [List.length_append]; simp, by rw [List.length_append]; simp; omega⟩
    by_cases q3 : Int.tmod (f : Int) 3 = 2
    · rw [if_pos q3]
      by_cases q4 : (l.length : Int) > (f : Int)
      · rw [if_pos q4, if_pos (by omega), if_pos (by omega)]
        exact hcase _ (fun _ => q4)
      · rw [if_neg q4]
        exact hcase false (fun h => by cases h)
    · rw [if_neg q3]
      exact hcase false (fun h => by cases h)
theorem code_some (K : Nat) (F : Nat) (l : List Int) (L G : Int) (p : Bool) (hl : l.length ≤ 1000) (hK : l.length + 200 ≤ K) (hw : ∀ x ∈ l, (Lit.int .u8 x).wf = true) (hF : 1 ≤ F ∧ F ≤ 100) (hL : 1 ≤ L ∧ L ≤ 1000) (hG : 0 ≤ G ∧ G ≤ 1000) : ∃ r, confidantseat_Code.f K l L (F : Int) G p = some r ∧ r.length = F ∧ (∀ c ∈ r, good c) := by
  unfold confidantseat_Code.f
  exact l0_some K F l L G p hl (by omega) hw hF hL hG F K 0 [] (by omega) (by omega) rfl (fun c hc => nomatch hc)
end Go.Proofs.YtiilloijkbabbaaDoor.Code
