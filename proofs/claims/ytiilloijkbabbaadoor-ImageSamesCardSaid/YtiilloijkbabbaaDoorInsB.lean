import Derived.Test.YtiilloijkbabbaaDoorG0
import Derived.Test.YtiilloijkbabbaaDoorPack3
import Derived.Test.YtiilloijkbabbaaDoorInsP
/- Instructions: bytes read back. Conditions: in the lemmas. -/
set_option linter.unusedVariables false
set_option linter.unusedSimpArgs false
namespace Go.Proofs.YtiilloijkbabbaaDoor.Ins
open Go Go.Fw Go.RowKit Go.Proofs.YtiilloijkbabbaaDoor.G Go.Proofs.YtiilloijkbabbaaDoor.Pack Go.Proofs.YtiilloijkbabbaaDoor.Txt

/-! ### bytes read as an instruction -/
def tk (l : List Int) (e : Int) : List Int × Int × Int × Int :=
  if Kn (lookN l e 26).2.2 ∧ argT (lookN l e 26).2.2 ≠ 0 then ((lookN (lookN l e 26).1 (lookN l e 26).2.1 4294967295).1, (lookN (lookN l e 26).1 (lookN l e 26).2.1 4294967295).2.1, (lookN l e 26).2.2, IntKind.i32.wrap (IntKind.u32.wrap (lookN (lookN l e 26).1 (lookN l e 26).2.1 4294967295).2.2))
  else ((lookN l e 26).1, (lookN l e 26).2.1, (lookN l e 26).2.2, 0)
def tkR (t : List Int × Int × Int × Int) : List Int × Int × Int × Int × Bool := if t.2.1 = 0 ∧ Rt t.2.2.1 t.2.2.2 then (t.1, t.2.1, t.2.2.1, t.2.2.2, true) else (t.1, t.2.1, 0, 0, false)
theorem look_le (l : List Int) (e most : Int) (hm : 0 ≤ most) (hB : IsB l) : (lookN l e most).2.2 ≤ most := by
  have h := look_ok l e most hB
  by_cases h0 : (lookN l e most).2.1 = 0
  · obtain ⟨_, n, h1, _, _, h4⟩ := look_back l e most (lookN l e most).1 (lookN l e most).2.2 hB (by rw [← h0])
    exact h4
  · rw [h.2.2.2.1 h0]; exact hm
theorem tk_ok (l : List Int) (e : Int) (hB : IsB l) : (tk l e).1.length ≤ l.length ∧ IsB (tk l e).1 ∧ i32r (tk l e).2.2.2 := by
  have h1 := look_ok l e 26 hB
  have h2 := look_ok (lookN l e 26).1 (lookN l e 26).2.1 4294967295 h1.2.1
  unfold tk
  split
  · exact ⟨Nat.le_trans h2.1 h1.1, h2.2.1, i32_wrap _⟩
  · exact ⟨h1.1, h1.2.1, by show i32r 0; unfold i32r; omega⟩
theorem take_f (K : Nat) (l : List Int) (e : Int) (hB : IsB l) (hl : l.length ≤ 20000) (hK : 20000 < K) : instr_Take.f K l e = some (tkR (tk l e)) := by
  have h1 := look_ok l e 26 hB
  have hle := look_le l e 26 (by omega) hB
  have n1 := num_look K l e 26 (by omega) hB (by omega)
  have n2 := num_look K (lookN l e 26).1 (lookN l e 26).2.1 4294967295 (by omega) h1.2.1 (by omega)
  have hw : IntKind.i64.wrap (lookN l e 26).2.2 = (lookN l e 26).2.2 := w64_id (by omega) (by omega)
  have tail : ∀ (L : List Int) (E O A : Int), (lt (fun (b4 : List Int) (b5 : Int) (c7 : Bool) => (if c7 = true then (some (b4, b5, (0 : Int), (0 : Int), false)) else (some (b4, b5, O, A, true)))) fun e1 => (b3 (pack_Reader_Err.f K L E) fun (d0 : List Int) (d1 : Int) (c3 : Int) => (if c3 = 0 then (b1 (instr_Right.f K O A) fun (d2 : Bool) => (e1 d0 d1 (!(d2)))) else (e1 d0 d1 true)))) = some (tkR (L, E, O, A)) := fun L E O A => by
    unfold pack_Reader_Err.f tkR
    simp only [lt, b3, b1, right_f]
    by_cases hE : E = 0
    · rw [if_pos hE]
      by_cases hR : Rt O A
      · rw [decide_eq_true hR, if_neg (by simp), if_pos ⟨hE, hR⟩]
      · rw [decide_eq_false hR, if_pos (by simp), if_neg (fun q => hR q.2)]
    · rw [if_neg hE, if_pos trivial, if_neg (fun q => hE q.1)]
  unfold instr_Take.f
  rw [n1]
  generalize hv : (lookN l e 26).2.2 = v at *
  have e1 : lookN l e 26 = ((lookN l e 26).1, (lookN l e 26).2.1, v) := by rw [← hv]
  rw [e1]
  simp only [b3, hw, known_f, arg_f, b1]
  unfold tk
  rw [hv]
  by_cases hk : Kn v
  · by_cases h0 : argT v = 0
    · rw [if_neg (fun q : Kn v ∧ argT v ≠ 0 => q.2 h0)]
      have := tail (lookN l e 26).1 (lookN l e 26).2.1 v 0
      simp only [lt, b3, b1] at this ⊢
      rw [if_pos (decide_eq_true hk), h0]
      simpa using this
    · rw [if_pos (show Kn v ∧ argT v ≠ 0 from ⟨hk, h0⟩)]
      have := tail (lookN (lookN l e 26).1 (lookN l e 26).2.1 4294967295).1 (lookN (lookN l e 26).1 (lookN l e 26).2.1 4294967295).2.1 v (IntKind.i32.wrap (IntKind.u32.wrap (lookN (lookN l e 26).1 (lookN l e 26).2.1 4294967295).2.2))
      simp only [lt, b3, b1] at this ⊢
      rw [if_pos (decide_eq_true hk), if_pos (by rw [decide_eq_false h0]; rfl), n2]
      exact this
  · rw [if_neg (fun q : Kn v ∧ argT v ≠ 0 => hk q.1)]
    have := tail (lookN l e 26).1 (lookN l e 26).2.1 v 0
    simp only [lt, b3, b1] at this ⊢
    rw [if_neg (by rw [decide_eq_false hk]; simp)]
    simpa using this
theorem back_u (a : Int) (h : i32r a) : IntKind.i32.wrap (IntKind.u32.wrap (u32n a : Int)) = a := by
  unfold i32r at h
  have hu := u32n_lt a
  rw [wu32_id (by omega) (by omega), w32]
  unfold u32n
  omega
theorem tk_put (op a : Int) (h : Rt op a) (ha : i32r a) (more : List Int) : tk (encs (ns op a) ++ more) 0 = (more, 0, op, a) := by
  have hop := h.1
  unfold Kn at hop
  have hu := u32n_lt a
  have hn : ((op.toNat : Nat) : Int) = op := by omega
  have look : ∀ (n : Nat) (most : Int) (r : List Int), n < 18446744073709551616 → (n : Int) ≤ most → lookN (enc n ++ r) 0 most = (r, 0, (n : Int)) := fun n most r h1 h2 => by
    unfold lookN
    rw [if_pos rfl, rd_enc most n r h1, if_neg (by omega)]
  unfold tk ns
  by_cases h0 : argT op = 0
  · rw [if_pos h0]
    simp only [encs, List.append_nil]
    rw [look op.toNat 26 more (by omega) (by omega)]
    simp only [hn]
    rw [if_neg (fun q => q.2 h0), h.2.1 h0]
  · rw [if_neg h0]
    simp only [encs, List.append_nil, List.append_assoc]
    rw [look op.toNat 26 _ (by omega) (by omega)]
    simp only [hn]
    rw [if_pos ⟨h.1, h0⟩, look (u32n a) 4294967295 more (by omega) (by omega)]
    simp only [back_u a ha]
theorem take_put (K : Nat) (hK : 20000 < K) (op a : Int) (h : Rt op a) (ha : i32r a) (more : List Int) (hB : IsB more) (hl : more.length ≤ 19000) : instr_Take.f K (encs (ns op a) ++ more) 0 = some (more, 0, op, a, true) := by
  have hb : IsB (encs (ns op a) ++ more) := (encs_B _).app hB
  have hz := put_len op a h.1
  rw [take_f K _ 0 hb (by rw [List.length_append]; omega) hK, tk_put op a h ha more]
  unfold tkR
  rw [if_pos ⟨rfl, h⟩]
end Go.Proofs.YtiilloijkbabbaaDoor.Ins
