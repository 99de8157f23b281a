import Derived.Test.YtipaaapbapijhaaG0
import Derived.Test.YtipaaapbapijhaaG1
import Derived.Test.YtipaaapbapijhaaG2
import Derived.Test.YtipaaapbapijhaaG3
import Derived.Test.YtipaaapbapijhaaG5
import Derived.Test.YtipaaapbapijhaaFwLaw
/- Futures: what New, Make, Get, Keep, Break, Count and All tell. Conditions: in the lemmas. -/
set_option linter.unusedVariables false
set_option linter.unusedSimpArgs false
namespace Go.Proofs.Ytipaaapbapijhaa.Future
open Go Go.Fw Go.RowKit Go.Proofs.Ytipaaapbapijhaa.G

theorem label_f (K : Nat) (id : Int) (h : -2147483648 ≤ id ∧ id < 2147483648) : ident_Label.f K id = some (if id < 0 then -1 else id / 65536) := by
  unfold ident_Label.f ident_Label_1.f
  simp only [lt, b1]
  by_cases h0 : id < 0
  · rw [if_pos h0, if_pos h0]
  · rw [if_neg h0, if_neg h0, w64_id (x := id) (by omega) (by omega), Int.tdiv_eq_ediv_of_nonneg (by omega), w64_id (by omega) (by omega)]
theorem number_f (K : Nat) (id : Int) (h : -2147483648 ≤ id ∧ id < 2147483648) : ident_Number.f K id = some (if id < 0 then -1 else id % 65536) := by
  unfold ident_Number.f ident_Number_1.f
  simp only [lt, b1]
  by_cases h0 : id < 0
  · rw [if_pos h0, if_pos h0]
  · rw [if_neg h0, if_neg h0, w64_id (x := id) (by omega) (by omega), Int.tmod_eq_emod_of_nonneg (by omega)]
theorem of_f (K : Nat) (a n : Int) (ha : 0 ≤ a ∧ a < 16) (hn : 0 ≤ n ∧ n < 65536) : ident_Of.f K a n = some (a * 65536 + n, true) := by
  unfold ident_Of.f
  simp only [lt]
  rw [if_neg (by omega), if_neg (by omega), if_neg (by omega), if_neg (by simp; omega), w64_id (x := a * 65536) (by omega) (by omega), w64_id (by omega) (by omega), w32_id (by omega) (by omega)]

/-- the row at a place -/
def row (L : List (List S96)) (b : Int) : List S96 := L.getD b.toNat []
/-- quotas that may be -/
structure Qs (L : List (List S96)) (q : List Int) : Prop where
  len : L.length = q.length
  le : L.length ≤ 16
  q : ∀ x ∈ q, 0 ≤ x ∧ x ≤ 4096
  rows : ∀ r ∈ L, r.length ≤ 4096

theorem Qs.row {L : List (List S96)} {q : List Int} (h : Qs L q) (b : Int) : (row L b).length ≤ 4096 := by
  unfold Future.row
  by_cases hb : b.toNat < L.length
  · have : L.getD b.toNat [] = L[b.toNat] := by simp [List.getD, hb]
    rw [this]; exact h.rows _ (List.getElem_mem hb)
  · have : L.getD b.toNat [] = [] := by simp [List.getD, hb]
    rw [this]; simp
theorem Qs.quota {L : List (List S96)} {q : List Int} (h : Qs L q) (b : Int) (h0 : 0 ≤ b) (h1 : b < (L.length : Int)) : 0 ≤ q.getD b.toNat 0 ∧ q.getD b.toNat 0 ≤ 4096 := by
  have hb : b.toNat < q.length := by have := h.len; omega
  have : q.getD b.toNat 0 = q[b.toNat] := by simp [List.getD, hb]
  rw [this]; exact h.q _ (List.getElem_mem hb)

/-- one more may be made -/
def Room (L : List (List S96)) (q : List Int) (b : Int) : Prop := 0 ≤ b ∧ b < (L.length : Int) ∧ ((row L b).length : Int) < q.getD b.toNat 0
instance (L : List (List S96)) (q : List Int) (b : Int) : Decidable (Room L q b) := by unfold Room; infer_instance

def made (L : List (List S96)) (q : List Int) (b lab : Int) : List (List S96) × Int × Bool :=
  if Room L q b then (L.set b.toNat (row L b ++ [⟨lab, 0, 0, 0⟩]), b * 65536 + ((row L b).length : Int), true) else (L, 0, false)

theorem make_f (K : Nat) (L : List (List S96)) (q : List Int) (b lab : Int) (h : Qs L q) : future_Futures_Make.f K L q b lab = some (made L q b lab) := by
  unfold future_Futures_Make.f made
  have hr := h.row b
  have hle := h.le
  have hlen := h.len
  have hrow : L.getD b.toNat [] = row L b := rfl
  simp only [lt, hrow]
  by_cases h1 : b < 0
  · rw [if_pos h1, if_pos trivial, if_neg (fun h => by have := h.1; omega)]
  rw [if_neg h1]
  by_cases h2 : b ≥ (L.length : Int)
  · rw [if_pos h2, if_pos trivial, if_neg (fun h => by have := h.2.1; omega)]
  rw [if_neg h2, if_pos (by omega), if_pos (by omega), if_pos (by omega)]
  have hq := h.quota b (by omega) (by omega)
  by_cases h3 : ((row L b).length : Int) ≥ q.getD b.toNat 0
  · rw [if_pos (decide_eq_true h3), if_neg (fun h => by have := h.2.2; omega)]
  · rw [if_neg (by simpa using h3), if_pos (by omega), if_pos (by omega), of_f K _ _ (by omega) (by omega), if_pos ⟨by omega, by omega, by omega⟩]
    simp only [b2, List.length_cons, List.length_nil]
    rw [if_pos (by omega)]

theorem made_qs {L : List (List S96)} {q : List Int} (h : Qs L q) (b lab : Int) : Qs (made L q b lab).1 q := by
  unfold made
  split
  · rename_i hR
    refine ⟨by simpa using h.len, by simpa using h.le, h.q, fun r hr => ?_⟩
    simp only at hr
    rcases List.mem_or_eq_of_mem_set hr with hr | rfl
    · exact h.rows r hr
    · have := hR.2.2
      have := h.quota b hR.1 hR.2.1
      simp; omega
  · exact h

/-- is there one of that identity? -/
def There (L : List (List S96)) (id : Int) : Prop := 0 ≤ id ∧ id / 65536 < (L.length : Int) ∧ id % 65536 < ((row L (id / 65536)).length : Int)
instance (L : List (List S96)) (id : Int) : Decidable (There L id) := by unfold There; infer_instance
def at_ (L : List (List S96)) (id : Int) : S96 := (row L (id / 65536)).getD (id % 65536).toNat zS96

theorem get_f (K : Nat) (L : List (List S96)) (q : List Int) (id : Int) (hid : -2147483648 ≤ id ∧ id < 2147483648) : future_Futures_Get.f K L q id = some (if There L id then (at_ L id, true) else (zS96, false)) := by
  unfold future_Futures_Get.f
  rw [label_f K id hid, number_f K id hid]
  simp only [b1, lt]
  by_cases h0 : id < 0
  · rw [if_pos h0, if_pos h0, if_pos (by omega), if_pos trivial, if_neg (fun h => by have := h.1; omega)]; rfl
  rw [if_neg h0, if_neg h0, if_neg (by omega)]
  have hrow : L.getD (id / 65536).toNat [] = row L (id / 65536) := rfl
  simp only [hrow]
  by_cases h2 : id / 65536 ≥ (L.length : Int)
  · rw [if_pos h2, if_pos trivial, if_neg (fun h => by have := h.2.1; omega)]; rfl
  rw [if_neg h2, if_pos (by omega), if_pos (by omega)]
  by_cases h3 : id % 65536 ≥ ((row L (id / 65536)).length : Int)
  · rw [if_pos (decide_eq_true h3), if_neg (fun h => by have := h.2.2; omega)]; rfl
  · rw [if_neg (by simpa using h3), if_pos (by omega), if_pos (by omega), if_pos (by omega), if_pos (by omega), if_pos ⟨by omega, by omega, by omega⟩]
    rfl

/-- one that is open comes to its end -/
def ended (L : List (List S96)) (id s v c : Int) : List (List S96) × Bool :=
  if There L id ∧ (at_ L id).f1 = 0 then (L.set (id / 65536).toNat ((row L (id / 65536)).set (id % 65536).toNat ⟨(at_ L id).f0, s, v, c⟩), true) else (L, false)
theorem set3 (r : List S96) (n : Nat) (a b c : S96) (h : n < r.length) : (r.set n a).getD n zS96 = a ∧ ((r.set n a).set n b) = r.set n b := by
  constructor
  · simp [List.getD, h]
  · rw [List.set_set]
theorem keep_f (K : Nat) (L : List (List S96)) (q : List Int) (id v : Int) (hid : -2147483648 ≤ id ∧ id < 2147483648) : future_Futures_Keep.f K L q id v = some (ended L id 1 v 0) := by
  unfold future_Futures_Keep.f ended
  rw [label_f K id hid, number_f K id hid]
  simp only [b1, lt]
  by_cases h0 : id < 0
  · rw [if_pos h0, if_pos h0, if_pos (by omega), if_pos trivial, if_neg (fun h => by have := h.1.1; omega)]
  rw [if_neg h0, if_neg h0, if_neg (by omega)]
  have hrow : L.getD (id / 65536).toNat [] = row L (id / 65536) := rfl
  simp only [hrow]
  by_cases h2 : id / 65536 ≥ (L.length : Int)
  · rw [if_pos h2, if_pos trivial, if_neg (fun h => by have := h.1.2.1; omega)]
  rw [if_neg h2, if_pos (by omega), if_pos (by omega)]
  by_cases h3 : id % 65536 ≥ ((row L (id / 65536)).length : Int)
  · rw [if_pos (decide_eq_true h3), if_neg (fun h => by have := h.1.2.2; omega)]
  · rw [if_neg (by simpa using h3), if_pos (by omega), if_pos (by omega), if_pos (by omega), if_pos (by omega)]
    have ht : There L id := ⟨by omega, by omega, by omega⟩
    have ha : (row L (id / 65536)).getD (id % 65536).toNat zS96 = at_ L id := rfl
    have hl : (id % 65536).toNat < (row L (id / 65536)).length := by omega
    rw [ha]
    by_cases h4 : (at_ L id).f1 = 0
    · rw [if_pos h4, if_pos ⟨ht, h4⟩]
      rw [(set3 _ _ _ ⟨0, 0, 0, 0⟩ ⟨0, 0, 0, 0⟩ hl).1]
      simp only [List.set_set]
      rw [(set3 _ _ _ ⟨0, 0, 0, 0⟩ ⟨0, 0, 0, 0⟩ hl).1]
    · rw [if_neg h4, if_neg (fun h => h4 h.2)]
theorem break_f (K : Nat) (L : List (List S96)) (q : List Int) (id c : Int) (hid : -2147483648 ≤ id ∧ id < 2147483648) : future_Futures_Break.f K L q id c = some (ended L id 2 0 c) := by
  unfold future_Futures_Break.f ended
  rw [label_f K id hid, number_f K id hid]
  simp only [b1, lt]
  by_cases h0 : id < 0
  · rw [if_pos h0, if_pos h0, if_pos (by omega), if_pos trivial, if_neg (fun h => by have := h.1.1; omega)]
  rw [if_neg h0, if_neg h0, if_neg (by omega)]
  have hrow : L.getD (id / 65536).toNat [] = row L (id / 65536) := rfl
  simp only [hrow]
  by_cases h2 : id / 65536 ≥ (L.length : Int)
  · rw [if_pos h2, if_pos trivial, if_neg (fun h => by have := h.1.2.1; omega)]
  rw [if_neg h2, if_pos (by omega), if_pos (by omega)]
  by_cases h3 : id % 65536 ≥ ((row L (id / 65536)).length : Int)
  · rw [if_pos (decide_eq_true h3), if_neg (fun h => by have := h.1.2.2; omega)]
  · rw [if_neg (by simpa using h3), if_pos (by omega), if_pos (by omega), if_pos (by omega), if_pos (by omega)]
    have ht : There L id := ⟨by omega, by omega, by omega⟩
    have ha : (row L (id / 65536)).getD (id % 65536).toNat zS96 = at_ L id := rfl
    have hl : (id % 65536).toNat < (row L (id / 65536)).length := by omega
    rw [ha]
    by_cases h4 : (at_ L id).f1 = 0
    · rw [if_pos h4, if_pos ⟨ht, h4⟩]
      rw [(set3 _ _ _ ⟨0, 0, 0, 0⟩ ⟨0, 0, 0, 0⟩ hl).1]
      simp only [List.set_set]
      rw [(set3 _ _ _ ⟨0, 0, 0, 0⟩ ⟨0, 0, 0, 0⟩ hl).1]
    · rw [if_neg h4, if_neg (fun h => h4 h.2)]
theorem ended_qs {L : List (List S96)} {q : List Int} (h : Qs L q) (id s v c : Int) : Qs (ended L id s v c).1 q := by
  unfold ended
  split
  · refine ⟨by simpa using h.len, by simpa using h.le, h.q, fun r hr => ?_⟩
    simp only at hr
    rcases List.mem_or_eq_of_mem_set hr with hr | rfl
    · exact h.rows r hr
    · rw [List.length_set]; exact h.row _
  · exact h

def clamp (x : Int) : Int := mn (mx x 0) 4096
theorem clamp_in (x : Int) : 0 ≤ clamp x ∧ clamp x ≤ 4096 := by unfold clamp mn mx; split <;> split <;> omega
theorem clamp_id {x : Int} (h : 0 ≤ x) (h' : x ≤ 4096) : clamp x = x := by unfold clamp mn mx; split <;> split <;> omega

theorem new_l (K : Nat) (l : List Int) (hl : l.length ≤ 16) : ∀ (d n i : Nat), i + d = l.length → d < n → future_New.l0 K l n (List.replicate i []) ((l.take i).map clamp) (i : Int) = some (List.replicate l.length [], l.map clamp)
  | 0, n, i, hd, hn => by
    obtain ⟨n, rfl⟩ : ∃ k, n = k + 1 := ⟨n - 1, by omega⟩
    have hil : i = l.length := by omega
    subst hil
    rw [future_New.l0.eq_2, if_neg (by omega), List.take_length]
  | d + 1, n, i, hd, hn => by
    obtain ⟨n, rfl⟩ : ∃ k, n = k + 1 := ⟨n - 1, by omega⟩
    have hi : i < l.length := by omega
    have e1 : l.getD (i : Int).toNat 0 = l[i] := by simp [List.getD, hi]
    have e2 : (l.take i).map clamp ++ [clamp l[i]] = (l.take (i + 1)).map clamp := by rw [List.take_add_one]; simp only [List.getElem?_eq_getElem hi, Option.toList_some, List.map_append, List.map_cons, List.map_nil]
    have e3 : List.replicate i ([] : List S96) ++ [[]] = List.replicate (i + 1) [] := by rw [List.replicate_succ']
    rw [future_New.l0.eq_2, if_pos (by omega), if_pos (by omega), e1]
    have e4 : mn (mx l[i] 0) 4096 = clamp l[i] := rfl
    simp only [lt, List.length_replicate, List.length_cons, List.length_nil, List.length_map, List.length_take, e4]
    rw [if_pos (by omega), if_pos (by omega), e2, e3, w64_id (by omega) (by omega), show ((i : Int) + 1) = ((i + 1 : Nat) : Int) by omega]
    exact new_l K l hl d n (i + 1) (by omega) (by omega)
theorem new_f (K : Nat) (l : List Int) (hl : l.length ≤ 1000000) (hK : 17 ≤ K) : future_New.f K l = some (List.replicate (l.take 16).length [], (l.take 16).map clamp) := by
  unfold future_New.f
  have hm : mn (l.length : Int) 16 = ((min 16 l.length : Nat) : Int) := by unfold mn; split <;> omega
  have ht : l.take (min 16 l.length) = l.take 16 := by
    by_cases h : l.length ≤ 16
    · rw [Nat.min_eq_right h, List.take_length, List.take_of_length_le h]
    · rw [Nat.min_eq_left (by omega)]
  rw [hm, if_pos (by omega), if_pos (by omega)]
  simp only [lt, Int.toNat_natCast, ht]
  exact new_l K (l.take 16) (by simp; omega) (l.take 16).length K 0 (by omega) (by simp; omega)
theorem new_qs (l : List Int) : Qs (List.replicate (l.take 16).length []) ((l.take 16).map clamp) := by
  refine ⟨by simp, by simp; omega, fun x hx => ?_, fun r hr => ?_⟩
  · obtain ⟨y, _, rfl⟩ := List.mem_map.1 hx
    exact clamp_in y
  · have := List.eq_of_mem_replicate hr
    subst this; simp

/-! ### one more made, one written: what is seen then -/
theorem lt_all {α β : Type} {e : α} {b : α → Option β} {r : Option β} (P : α → Prop) (he : P e) (hb : ∀ x, P x → b x = r) : lt e b = r := hb e he
theorem row_set (L : List (List S96)) (b c : Int) (r : List S96) (hb : 0 ≤ b) (hb2 : b < (L.length : Int)) (hc : 0 ≤ c) : row (L.set b.toNat r) c = if c = b then r else row L c := by
  unfold row
  by_cases h : c = b
  · subst h
    rw [if_pos rfl]
    have : c.toNat < L.length := by omega
    simp [List.getD, this]
  · rw [if_neg h]
    have : b.toNat ≠ c.toNat := by omega
    simp [List.getD, List.getElem?_set, this]
theorem made_room {L : List (List S96)} {q : List Int} {b lab : Int} (h : Room L q b) : made L q b lab = (L.set b.toNat (row L b ++ [⟨lab, 0, 0, 0⟩]), b * 65536 + ((row L b).length : Int), true) := by unfold made; rw [if_pos h]
theorem made_full {L : List (List S96)} {q : List Int} {b lab : Int} (h : ¬ Room L q b) : made L q b lab = (L, 0, false) := by unfold made; rw [if_neg h]
end Go.Proofs.Ytipaaapbapijhaa.Future
