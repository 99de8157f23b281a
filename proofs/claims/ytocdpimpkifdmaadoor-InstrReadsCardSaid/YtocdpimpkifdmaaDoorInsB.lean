import Derived.Test.YtocdpimpkifdmaaDoorG0
import Derived.Test.YtocdpimpkifdmaaDoorPack3
import Derived.Test.YtocdpimpkifdmaaDoorInsA
/- Instructions: their bytes, and back. Conditions: in the lemmas. -/
set_option linter.unusedVariables false
set_option linter.unusedSimpArgs false
namespace Go.Proofs.YtocdpimpkifdmaaDoor.Ins
open Go Go.Fw Go.RowKit Go.Proofs.YtocdpimpkifdmaaDoor.G Go.Proofs.YtocdpimpkifdmaaDoor.Pack Go.Proofs.YtocdpimpkifdmaaDoor.Txt

def u32n (x : Int) : Nat := (x % 4294967296).toNat
theorem u32n_lt (x : Int) : u32n x < 4294967296 := by unfold u32n; omega
def ns (op a : Int) : List Nat := if argT op = 0 then [op.toNat] else [op.toNat, u32n a]
theorem ns_u (op a : Int) (h : Kn op) : U64 (ns op a) := by
  have hu := u32n_lt a
  unfold Kn at h
  unfold ns
  split <;> intro n hn <;> simp only [List.mem_cons, List.not_mem_nil, or_false] at hn
  · omega
  · rcases hn with rfl | rfl <;> omega
theorem ns_len (op a : Int) : 1 ≤ (ns op a).length ∧ (ns op a).length ≤ 2 := by unfold ns; split <;> simp
theorem wuu (a : Int) : IntKind.u64.wrap (IntKind.u32.wrap a) = (u32n a : Int) := by
  rw [wu32, wu64_id (by omega) (by omega)]
  unfold u32n
  omega
theorem wop (op : Int) (h : Kn op) : IntKind.u64.wrap op = (op.toNat : Int) := by unfold Kn at h; rw [wu64_id (by omega) (by omega)]; omega
theorem put_i (K : Nat) (hK : 20 ≤ K) (op a : Int) : instr_Put.f K op a = some (if Rt op a then encs (ns op a) else []) := by
  unfold instr_Put.f
  simp only [right_f, arg_f, b1, lt, decide_eq_true_eq]
  by_cases h : Rt op a
  · rw [if_pos h, if_pos h, wop op h.1, wuu]
    have hp := put_f K (ns op a) (ns_u op a h.1) (by have := (ns_len op a).2; omega) (by omega) (by have := (ns_len op a).2; omega)
    unfold ns at hp ⊢
    by_cases h0 : argT op = 0
    · rw [if_pos h0] at hp ⊢
      rw [if_pos h0, show ([(op.toNat : Int)] : List Int) = ints [op.toNat] from rfl, hp]
    · rw [if_neg h0] at hp ⊢
      rw [if_neg h0, show ([(op.toNat : Int), (u32n a : Int)] : List Int) = ints [op.toNat, u32n a] from rfl, hp]
  · rw [if_neg h, if_neg h]
theorem enc_small (n : Nat) (h : n < 128) : (enc n).length = 1 := by
  unfold enc
  rw [show n / 128 = 0 by omega, hi_zero]
  rfl
theorem hi_le : ∀ (f m : Nat), (hiF f m).length ≤ f := hiF_len
theorem hiF_bound : ∀ (k f m : Nat), m < 128 ^ k → (hiF f m).length ≤ k
  | k, 0, m, _ => by simp [hiF]
  | 0, f + 1, m, h => by
    have : m = 0 := by simpa using h
    subst this
    simp [hiF]
  | k + 1, f + 1, m, h => by
    by_cases h0 : m = 0
    · subst h0; simp [hiF]
    · have := hiF_bound k f (m / 128) (by rw [Nat.pow_succ] at h; omega)
      simp only [hiF, if_neg h0, List.length_append, List.length_singleton]
      omega
theorem enc_32 (n : Nat) (h : n < 4294967296) : (enc n).length ≤ 5 := by
  have := hiF_bound 4 10 (n / 128) (by have e : (128 : Nat) ^ 4 = 268435456 := by decide
                                       omega)
  unfold enc hi
  simp only [List.length_append, List.length_singleton]
  omega
theorem put_len (op a : Int) (h : Kn op) : 1 ≤ (encs (ns op a)).length ∧ (encs (ns op a)).length ≤ 6 ∧ (argT op ≠ 0 → 2 ≤ (encs (ns op a)).length) := by
  unfold Kn at h
  have h1 := enc_small op.toNat (by omega)
  have h2 := enc_32 (u32n a) (u32n_lt a)
  have h3 := enc_pos (u32n a)
  unfold ns
  by_cases h0 : argT op = 0
  · rw [if_pos h0]
    simp only [encs, List.length_append, List.length_nil]
    exact ⟨by omega, by omega, fun n => absurd h0 n⟩
  · rw [if_neg h0]
    simp only [encs, List.length_append, List.length_nil]
    exact ⟨by omega, by omega, fun _ => by omega⟩
/-! ### bytes read as an instruction -/
def tk (l : List Int) (e : Int) : List Int × Int × Int × Int :=
  if Kn (lookN l e 26).2.2 ∧ argT (lookN l e 26).2.2 ≠ 0 then ((lookN (lookN l e 26).1 (lookN l e 26).2.1 4294967295).1, (lookN (lookN l e 26).1 (lookN l e 26).2.1 4294967295).2.1, (lookN l e 26).2.2, IntKind.i32.wrap (IntKind.u32.wrap (lookN (lookN l e 26).1 (lookN l e 26).2.1 4294967295).2.2))
  else ((lookN l e 26).1, (lookN l e 26).2.1, (lookN l e 26).2.2, 0)
def tkR (t : List Int × Int × Int × Int) : List Int × Int × Int × Int × Bool := if t.2.1 = 0 ∧ Rt t.2.2.1 t.2.2.2 then (t.1, t.2.1, t.2.2.1, t.2.2.2, true) else (t.1, t.2.1, 0, 0, false)
theorem look_le (l : List Int) (e most : Int) (hm : 0 ≤ most) (hB : IsB l) : (lookN l e most).2.2 ≤ most := by
  have h := look_ok l e most hB
  by_cases h0 : (lookN l e most).2.1 = 0
  · obtain ⟨_, n, h1, _, _, h4⟩ := look_back l e most (lookN l e most).1 (lookN l e most).2.2 hB (by rw [← h0])
    exact h4
  · rw [h.2.2.2.1 h0]; exact hm
theorem tk_ok (l : List Int) (e : Int) (hB : IsB l) : (tk l e).1.length ≤ l.length ∧ IsB (tk l e).1 ∧ i32r (tk l e).2.2.2 := by
  have h1 := look_ok l e 26 hB
  have h2 := look_ok (lookN l e 26).1 (lookN l e 26).2.1 4294967295 h1.2.1
  unfold tk
  split
  · exact ⟨Nat.le_trans h2.1 h1.1, h2.2.1, i32_wrap _⟩
  · exact ⟨h1.1, h1.2.1, by show i32r 0; unfold i32r; omega⟩
theorem take_f (K : Nat) (l : List Int) (e : Int) (hB : IsB l) (hl : l.length ≤ 1000) (hK : 1000 < K) : instr_Take.f K l e = some (tkR (tk l e)) := by
  have h1 := look_ok l e 26 hB
  have hle := look_le l e 26 (by omega) hB
  have n1 := num_look K l e 26 (by omega) hB (by omega)
  have n2 := num_look K (lookN l e 26).1 (lookN l e 26).2.1 4294967295 (by omega) h1.2.1 (by omega)
  have hw : IntKind.i64.wrap (lookN l e 26).2.2 = (lookN l e 26).2.2 := w64_id (by omega) (by omega)
  have tail : ∀ (L : List Int) (E O A : Int), (lt (fun (b4 : List Int) (b5 : Int) (c7 : Bool) => (if c7 = true then (some (b4, b5, (0 : Int), (0 : Int), false)) else (some (b4, b5, O, A, true)))) fun e1 => (b3 (pack_Reader_Err.f K L E) fun (d0 : List Int) (d1 : Int) (c3 : Int) => (if c3 = 0 then (b1 (instr_Right.f K O A) fun (d2 : Bool) => (e1 d0 d1 (!(d2)))) else (e1 d0 d1 true)))) = some (tkR (L, E, O, A)) := fun L E O A => by
    unfold pack_Reader_Err.f tkR
    simp only [lt, b3, b1, right_f]
    by_cases hE : E = 0
    · rw [if_pos hE]
      by_cases hR : Rt O A
      · rw [decide_eq_true hR, if_neg (by simp), if_pos ⟨hE, hR⟩]
      · rw [decide_eq_false hR, if_pos (by simp), if_neg (fun q => hR q.2)]
    · rw [if_neg hE, if_pos trivial, if_neg (fun q => hE q.1)]
  unfold instr_Take.f
  rw [n1]
  generalize hv : (lookN l e 26).2.2 = v at *
  have e1 : lookN l e 26 = ((lookN l e 26).1, (lookN l e 26).2.1, v) := by rw [← hv]
  rw [e1]
  simp only [b3, hw, known_f, arg_f, b1]
  unfold tk
  rw [hv]
  by_cases hk : Kn v
  · by_cases h0 : argT v = 0
    · rw [if_neg (fun q : Kn v ∧ argT v ≠ 0 => q.2 h0)]
      have := tail (lookN l e 26).1 (lookN l e 26).2.1 v 0
      simp only [lt, b3, b1] at this ⊢
      rw [if_pos (decide_eq_true hk), h0]
      simpa using this
    · rw [if_pos (show Kn v ∧ argT v ≠ 0 from ⟨hk, h0⟩)]
      have := tail (lookN (lookN l e 26).1 (lookN l e 26).2.1 4294967295).1 (lookN (lookN l e 26).1 (lookN l e 26).2.1 4294967295).2.1 v (IntKind.i32.wrap (IntKind.u32.wrap (lookN (lookN l e 26).1 (lookN l e 26).2.1 4294967295).2.2))
      simp only [lt, b3, b1] at this ⊢
      rw [if_pos (decide_eq_true hk), if_pos (by rw [decide_eq_false h0]; rfl), n2]
      exact this
  · rw [if_neg (fun q : Kn v ∧ argT v ≠ 0 => hk q.1)]
    have := tail (lookN l e 26).1 (lookN l e 26).2.1 v 0
    simp only [lt, b3, b1] at this ⊢
    rw [if_neg (by rw [decide_eq_false hk]; simp)]
    simpa using this
theorem back_u (a : Int) (h : i32r a) : IntKind.i32.wrap (IntKind.u32.wrap (u32n a : Int)) = a := by
  unfold i32r at h
  have hu := u32n_lt a
  rw [wu32_id (by omega) (by omega), w32]
  unfold u32n
  omega
theorem tk_put (op a : Int) (h : Rt op a) (ha : i32r a) (more : List Int) : tk (encs (ns op a) ++ more) 0 = (more, 0, op, a) := by
  have hop := h.1
  unfold Kn at hop
  have hu := u32n_lt a
  have hn : ((op.toNat : Nat) : Int) = op := by omega
  have look : ∀ (n : Nat) (most : Int) (r : List Int), n < 18446744073709551616 → (n : Int) ≤ most → lookN (enc n ++ r) 0 most = (r, 0, (n : Int)) := fun n most r h1 h2 => by
    unfold lookN
    rw [if_pos rfl, rd_enc most n r h1, if_neg (by omega)]
  unfold tk ns
  by_cases h0 : argT op = 0
  · rw [if_pos h0]
    simp only [encs, List.append_nil]
    rw [look op.toNat 26 more (by omega) (by omega)]
    simp only [hn]
    rw [if_neg (fun q => q.2 h0), h.2.1 h0]
  · rw [if_neg h0]
    simp only [encs, List.append_nil, List.append_assoc]
    rw [look op.toNat 26 _ (by omega) (by omega)]
    simp only [hn]
    rw [if_pos ⟨h.1, h0⟩, look (u32n a) 4294967295 more (by omega) (by omega)]
    simp only [back_u a ha]
theorem take_put (K : Nat) (hK : 1000 < K) (op a : Int) (h : Rt op a) (ha : i32r a) (more : List Int) (hB : IsB more) (hl : more.length ≤ 900) : instr_Take.f K (encs (ns op a) ++ more) 0 = some (more, 0, op, a, true) := by
  have hb : IsB (encs (ns op a) ++ more) := (encs_B _).app hB
  have hz := put_len op a h.1
  rw [take_f K _ 0 hb (by rw [List.length_append]; omega) hK, tk_put op a h ha more]
  unfold tkR
  rw [if_pos ⟨rfl, h⟩]
end Go.Proofs.YtocdpimpkifdmaaDoor.Ins
