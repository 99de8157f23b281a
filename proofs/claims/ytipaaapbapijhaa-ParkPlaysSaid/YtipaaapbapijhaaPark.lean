import Derived.Test.YtipaaapbapijhaaG0
import Derived.Test.YtipaaapbapijhaaG2
import Derived.Test.YtipaaapbapijhaaG3
import Derived.Test.YtipaaapbapijhaaFuture
/- Parks: what Add, Len, All, Look tell of who waits. Conditions: in the lemmas. -/
set_option linter.unusedVariables false
set_option linter.unusedSimpArgs false
namespace Go.Proofs.Ytipaaapbapijhaa.Park
open Go Go.Fw Go.RowKit Go.Proofs.Ytipaaapbapijhaa.G Go.Proofs.Ytipaaapbapijhaa.Future

theorem clone_f (K : Nat) (l : List Int) (h : l.length ≤ 1000000) : slices_Clone_int32_int32.f K l = some l := by
  unfold slices_Clone_int32_int32.f
  simp only [lt, List.length_nil, Nat.zero_add, List.nil_append]
  rw [if_pos (by omega)]
theorem copied_f (K : Nat) (a0 a1 a2 : Int) (l3 : List Int) (c0 c1 c2 c3 a5 a6 a7 a8 id : Int) (h : l3.length ≤ 1000000) :
    park_copied.f K a0 a1 a2 l3 c0 c1 c2 c3 a5 a6 a7 a8 id = some ⟨⟨a0, a1, a2, l3, ⟨c0, c1, c2, c3⟩, a5, a6, a7, a8⟩, id⟩ := by
  unfold park_copied.f task_Drop.f
  have e : IntKind.i64.wrap ((l3.length : Int) - mn (mx 0 0) (l3.length : Int)) = (l3.length : Int) := by
    have : mn (mx 0 0) (l3.length : Int) = 0 := by unfold mn mx; split <;> simp_all <;> omega
    rw [this, w64_id (by omega) (by omega)]; omega
  simp only [lt, b1, e]
  rw [if_pos (by omega), if_pos (by omega), Int.toNat_natCast, List.take_length, clone_f K l3 h]
  simp only [List.length_nil, Nat.add_zero, List.append_nil]
  rw [if_pos (by omega)]
theorem add_f (K : Nat) (l : List S60) (hl : l.length ≤ 1000) (a0 a1 a2 : Int) (l3 : List Int) (c0 c1 c2 c3 a5 a6 a7 a8 id : Int) (h : l3.length ≤ 1000000) :
    park_Park_Add.f K l a0 a1 a2 l3 c0 c1 c2 c3 a5 a6 a7 a8 id = some (l ++ [⟨⟨a0, a1, a2, l3, ⟨c0, c1, c2, c3⟩, a5, a6, a7, a8⟩, id⟩]) := by
  unfold park_Park_Add.f
  rw [copied_f K _ _ _ _ _ _ _ _ _ _ _ _ _ h]
  simp only [lt, b1, List.length_singleton]
  rw [if_pos (by omega)]
theorem len_f (K : Nat) (l : List S60) : park_Park_Len.f K l = some (l.length : Int) := rfl

theorem eta60 (x : S60) : (⟨⟨x.f0.f0, x.f0.f1, x.f0.f2, x.f0.f3, ⟨x.f0.f4.f0, x.f0.f4.f1, x.f0.f4.f2, x.f0.f4.f3⟩, x.f0.f5, x.f0.f6, x.f0.f7, x.f0.f8⟩, x.f1⟩ : S60) = x := rfl
theorem eta2 (x : S60) : (⟨x.f0, x.f1⟩ : S60) = x := rfl
theorem eta36 (x : S36) : (⟨x.f0, x.f1, x.f2, x.f3, ⟨x.f4.f0, x.f4.f1, x.f4.f2, x.f4.f3⟩, x.f5, x.f6, x.f7, x.f8⟩ : S36) = x := rfl

theorem all_l (K : Nat) (l : List S60) (hl : l.length ≤ 1000) (hs : ∀ x ∈ l, x.f0.f3.length ≤ 1000) : ∀ (d n i : Nat), i + d = l.length → d < n → park_Park_All.l0 K l n (l.take i) (i : Int) = some l
  | 0, n, i, hd, hn => by
    obtain ⟨n, rfl⟩ : ∃ k, n = k + 1 := ⟨n - 1, by omega⟩
    rw [park_Park_All.l0.eq_2, if_neg (by omega), List.take_of_length_le (by omega)]
  | d + 1, n, i, hd, hn => by
    obtain ⟨n, rfl⟩ : ∃ k, n = k + 1 := ⟨n - 1, by omega⟩
    have hi : i < l.length := by omega
    have e : l.getD (i : Int).toNat zS60 = l[i] := by simp [List.getD, hi]
    have e2 : l.take i ++ [l[i]] = l.take (i + 1) := by rw [List.take_add_one]; simp [hi]
    have hsi := hs _ (List.getElem_mem hi)
    rw [park_Park_All.l0.eq_2, if_pos (by omega), if_pos (by omega), e, copied_f K _ _ _ _ _ _ _ _ _ _ _ _ _ (by omega)]
    simp only [b1, lt, eta60, e2, List.length_take, List.length_singleton]
    rw [if_pos (by omega), w64_id (by omega) (by omega), show ((i : Int) + 1) = ((i + 1 : Nat) : Int) by omega]
    exact all_l K l hl hs d n (i + 1) (by omega) (by omega)
theorem all_f (K : Nat) (l : List S60) (hl : l.length ≤ 1000) (hs : ∀ x ∈ l, x.f0.f3.length ≤ 1000) (hK : 2000 ≤ K) : park_Park_All.f K l = some l :=
  all_l K l hl hs l.length K 0 (by omega) (by omega)

/-- there, and not open -/
def Done (L : List (List S96)) (id : Int) : Prop := There L id ∧ ¬ (at_ L id).f1 = 0
instance (L : List (List S96)) (id : Int) : Decidable (Done L id) := by unfold Done; infer_instance
theorem done_f (K : Nat) (L : List (List S96)) (q : List Int) (id : Int) (hid : -2147483648 ≤ id ∧ id < 2147483648) : park_done.f K L q id = some (decide (Done L id)) := by
  unfold park_done.f Done
  rw [get_f K L q id hid]
  by_cases h : There L id
  · rw [if_pos h]
    simp only [b2, if_true]
    by_cases h1 : (at_ L id).f1 = 0 <;> simp [h, h1]
  · rw [if_neg h]
    simp [b2, h]

/-- who stays, who is woken, who starves, what is left -/
def look (L : List (List S96)) : List S60 → Nat → List S60 × List S36 × List S36 × Nat
  | [], n => ([], [], [], n)
  | w :: l, 0 => ((look L l 0).1, (look L l 0).2.1, w.f0 :: (look L l 0).2.2.1, (look L l 0).2.2.2)
  | w :: l, n + 1 => if Done L w.f1 then ((look L l n).1, w.f0 :: (look L l n).2.1, (look L l n).2.2.1, (look L l n).2.2.2) else (w :: (look L l n).1, (look L l n).2.1, (look L l n).2.2.1, (look L l n).2.2.2)

theorem look_l (K : Nat) (l : List S60) (hl : l.length ≤ 1000) (hs : ∀ x ∈ l, -2147483648 ≤ x.f1 ∧ x.f1 < 2147483648) (L : List (List S96)) (q : List Int) (j : List S60 → List S36 → List S36 → Int → Option (List S60 × List S36 × List S36 × Int)) : ∀ (d n i m : Nat) (a : List S60) (b c : List S36), i + d = l.length → d < n → m ≤ 1000000 → a.length ≤ i → b.length ≤ i → c.length ≤ i →
    park_Park_Look.l0 K l L q j n a b c (m : Int) (i : Int) = j (a ++ (look L (l.drop i) m).1) (b ++ (look L (l.drop i) m).2.1) (c ++ (look L (l.drop i) m).2.2.1) ((look L (l.drop i) m).2.2.2 : Int)
  | 0, n, i, m, a, b, c, hd, hn, hm, ha, hb, hc => by
    obtain ⟨n, rfl⟩ : ∃ k, n = k + 1 := ⟨n - 1, by omega⟩
    rw [park_Park_Look.l0.eq_2, if_neg (by omega), List.drop_of_length_le (by omega)]
    simp [look]
  | d + 1, n, i, m, a, b, c, hd, hn, hm, ha, hb, hc => by
    obtain ⟨n, rfl⟩ : ∃ k, n = k + 1 := ⟨n - 1, by omega⟩
    have hi : i < l.length := by omega
    have e : l.getD (i : Int).toNat zS60 = l[i] := by simp [List.getD, hi]
    have e1 : l.drop i = l[i] :: l.drop (i + 1) := List.drop_eq_getElem_cons hi
    have hid := hs _ (List.getElem_mem hi)
    have next : ∀ (m : Nat) (a : List S60) (b c : List S36), m ≤ 1000000 → a.length ≤ i + 1 → b.length ≤ i + 1 → c.length ≤ i + 1 → park_Park_Look.l0 K l L q j n a b c (m : Int) (IntKind.i64.wrap ((i : Int) + 1)) = j (a ++ (look L (l.drop (i + 1)) m).1) (b ++ (look L (l.drop (i + 1)) m).2.1) (c ++ (look L (l.drop (i + 1)) m).2.2.1) ((look L (l.drop (i + 1)) m).2.2.2 : Int) := by
      intro m a b c hm ha hb hc
      rw [w64_id (by omega) (by omega), show ((i : Int) + 1) = ((i + 1 : Nat) : Int) by omega]
      exact look_l K l hl hs L q j d n (i + 1) m a b c (by omega) (by omega) hm ha hb hc
    rw [park_Park_Look.l0.eq_2, if_pos (by omega), e, e1]
    simp only [lt, eta60, eta36, eta2, List.length_singleton]
    rw [if_pos (by omega)]
    cases m with
    | zero =>
      rw [if_pos (by omega), if_pos (by omega)]
      have h := next 0 a b (c ++ [l[i].f0]) (by omega) (by omega) (by omega) (by simp; omega)
      simp only [look, List.append_assoc, List.singleton_append] at h ⊢
      exact h
    | succ m =>
      rw [if_neg (by omega), done_f K L q _ hid]
      have em : IntKind.i64.wrap (((m + 1 : Nat) : Int) - 1) = (m : Int) := by rw [w64_id (by omega) (by omega)]; omega
      simp only [b1, em]
      by_cases hd : Done L l[i].f1
      · rw [if_pos (decide_eq_true hd), if_pos (by omega)]
        have h := next m a (b ++ [l[i].f0]) c (by omega) (by omega) (by simp; omega) (by omega)
        simp only [look, if_pos hd, List.append_assoc, List.singleton_append] at h ⊢
        exact h
      · rw [if_neg (by simpa using hd), if_pos (by omega)]
        have h := next m (a ++ [l[i]]) b c (by omega) (by simp; omega) (by omega) (by omega)
        simp only [look, if_neg hd, List.append_assoc, List.singleton_append] at h ⊢
        exact h
theorem look_f (K : Nat) (l : List S60) (hl : l.length ≤ 1000) (hs : ∀ x ∈ l, -2147483648 ≤ x.f1 ∧ x.f1 < 2147483648) (L : List (List S96)) (q : List Int) (m : Nat) (f : Int) (hm : mx f 0 = (m : Int)) (hm2 : m ≤ 1000000) (hK : 2000 ≤ K) :
    park_Park_Look.f K l L q f = some ((look L l m).1, (look L l m).2.1, (look L l m).2.2.1, ((look L l m).2.2.2 : Int)) := by
  unfold park_Park_Look.f
  simp only [lt, List.length_nil, Nat.zero_add, hm]
  rw [if_pos (by omega)]
  have h := look_l K l hl hs L q (fun a b c d => some (a, b, c, d)) l.length K 0 m [] [] [] (by omega) (by omega) hm2 (by simp) (by simp) (by simp)
  simp only [List.drop_zero, List.nil_append] at h
  exact h

/-! ### what look tells -/
theorem look_len (L : List (List S96)) : ∀ (l : List S60) (n : Nat), (look L l n).2.1.length + (look L l n).2.2.1.length + (look L l n).1.length = l.length
  | [], n => by simp [look]
  | w :: l, 0 => by have := look_len L l 0; simp [look]; omega
  | w :: l, n + 1 => by
    have := look_len L l n
    unfold look
    split <;> simp <;> omega
theorem look_left (L : List (List S96)) : ∀ (l : List S60) (n : Nat), (look L l n).2.2.2 = n - l.length ∧ (look L l n).2.2.1.length = l.length - n
  | [], n => by simp [look]
  | w :: l, 0 => by have := look_left L l 0; simp [look]; omega
  | w :: l, n + 1 => by
    have := look_left L l n
    unfold look
    split <;> simp <;> omega
theorem look_stay (L : List (List S96)) : ∀ (l : List S60) (n : Nat), ∀ w ∈ (look L l n).1, w ∈ l ∧ ¬ Done L w.f1
  | [], n => by simp [look]
  | w :: l, 0 => by
    intro x hx
    have := look_stay L l 0 x (by simpa [look] using hx)
    exact ⟨List.mem_cons_of_mem _ this.1, this.2⟩
  | w :: l, n + 1 => by
    intro x hx
    unfold look at hx
    by_cases h : Done L w.f1
    · rw [if_pos h] at hx
      have := look_stay L l n x hx
      exact ⟨List.mem_cons_of_mem _ this.1, this.2⟩
    · rw [if_neg h] at hx
      rcases List.mem_cons.1 hx with rfl | hx
      · exact ⟨List.mem_cons_self, h⟩
      · have := look_stay L l n x hx
        exact ⟨List.mem_cons_of_mem _ this.1, this.2⟩
theorem look_none (L : List (List S96)) : ∀ (l : List S60) (n : Nat), (∀ w ∈ l, ¬ Done L w.f1) → (look L l n).2.1 = []
  | [], n, h => by simp [look]
  | w :: l, 0, h => by simp [look, look_none L l 0 (fun x hx => h x (List.mem_cons_of_mem _ hx))]
  | w :: l, n + 1, h => by
    unfold look
    rw [if_neg (h w List.mem_cons_self)]
    exact look_none L l n (fun x hx => h x (List.mem_cons_of_mem _ hx))
theorem look_app (L : List (List S96)) : ∀ (a l : List S60) (n : Nat), (∀ w ∈ a, ¬ Done L w.f1) → a.length ≤ n → look L (a ++ l) n = (a ++ (look L l (n - a.length)).1, (look L l (n - a.length)).2.1, (look L l (n - a.length)).2.2.1, (look L l (n - a.length)).2.2.2)
  | [], l, n, h, hn => by simp
  | w :: a, l, 0, h, hn => by simp at hn
  | w :: a, l, n + 1, h, hn => by
    have := look_app L a l n (fun x hx => h x (List.mem_cons_of_mem _ hx)) (by simpa using hn)
    rw [List.cons_append, look, if_neg (h w List.mem_cons_self), this]
    simp
theorem look_all (L : List (List S96)) (l : List S60) (n : Nat) (h : ∀ w ∈ l, ¬ Done L w.f1) (hn : l.length ≤ n) : look L l n = (l, [], [], n - l.length) := by
  have := look_app L l [] n h hn
  simp [look] at this
  exact this

/-! ### one that comes to its end -/
theorem ended_row (L : List (List S96)) (id s v c b : Int) (hb : 0 ≤ b) : (row (ended L id s v c).1 b).length = (row L b).length := by
  unfold ended
  split
  · rename_i h
    have h1 := h.1.1
    have h2 := h.1.2.1
    simp only
    rw [row_set _ _ _ _ (by omega) h2 hb]
    split
    · subst b; simp
    · rfl
  · rfl
theorem known_f : ∃ K, 5000 ≤ K ∧ confidantlaw20_known.f K = some true := ⟨5000, Nat.le_refl _, by kernel_rfl⟩
end Go.Proofs.Ytipaaapbapijhaa.Park
