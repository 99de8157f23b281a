import Derived.Test.YtocdpimpkifdmaaDoorG3
import Derived.Test.YtocdpimpkifdmaaDoorInsC
/- Right, Put and Text return the documented results, and Take and Parse invert Put and Text. No condition. -/
set_option linter.unusedVariables false
set_option linter.unusedSimpArgs false
namespace Go.Proofs.YtocdpimpkifdmaaDoor.Pure
open Go Go.Fw Go.RowKit Go.Proofs.YtocdpimpkifdmaaDoor.G Go.Proofs.YtocdpimpkifdmaaDoor.Pack Go.Proofs.YtocdpimpkifdmaaDoor.Txt Go.Proofs.YtocdpimpkifdmaaDoor.Ins

theorem known_t : ∃ K, 5000 ≤ K ∧ confidantlaw6_known.f K = some true := ⟨5000, Nat.le_refl _, by kernel_rfl⟩
theorem step (K : Nat) (hK : 5000 ≤ K) (op a : Int) (ha : i32r a) (l14 : List Int) (hB : IsB l14) (hl : l14.length ≤ 20) (J : Option Bool) :
    (lt (fun (g5 : List Int) => J) fun g4 => (b1 (confidantref5_Put.f K op a) fun (a3 : List Int) => (lt (fun (e2 : Bool) => (if e2 = true then (some false) else (if (a3.length : Int) = 0 then (g4 a3) else (if (([] : List Int).length + a3.length) * 1 ≤ 140737488355328 then (lt (([] : List Int) ++ a3) fun d6 => (if (d6.length + l14.length) * 1 ≤ 140737488355328 then (lt (d6 ++ l14) fun d0 => (b2 (pack_New.f K d0) fun (e0 : List Int) (i6 : Int) => (b5 (instr_Take.f K e0 i6) fun (c4 : List Int) (c5 : Int) (a8 : Int) (b0 : Int) (c7 : Bool) => (b1 (instr_Text.f K op a) fun (i7 : ByteArray) => (b3 (instr_Parse.f K i7) fun (b8 : Int) (b9 : Int) (c1 : Bool) => (lt (fun (f4 : List Int) (g6 : Int) (e3 : Bool) => (if e3 = true then (some false) else (g4 a3))) fun d5 => (if c7 = true then (if ((a8 == op) && ((b0 == a) && true)) = true then (if c1 = true then (if ((b8 == op) && ((b9 == a) && true)) = true then (b3 (pack_Reader_Left.f K c4 c5) fun (i8 : List Int) (i9 : Int) (d9 : Int) => (d5 i8 i9 (!(decide (d9 = (l14.length : Int)))))) else (d5 c4 c5 true)) else (d5 c4 c5 true)) else (d5 c4 c5 true)) else (d5 c4 c5 true)))))))) else none)) else none)))) fun f2 => (b1 (instr_Right.f K op a) fun (d1 : Bool) => (b1 (confidantref5_Right.f K op a) fun (d2 : Bool) => (if (d1 == d2) = true then (b1 (instr_Put.f K op a) fun (b7 : List Int) => (if ((bStr b7).toList == (bStr a3).toList) = true then (b1 (instr_Text.f K op a) fun (d7 : ByteArray) => (b1 (confidantref5_Text.f K op a) fun (d8 : ByteArray) => (f2 (!((d7.toList == d8.toList)))))) else (f2 true))) else (f2 true))))))) = J := by
  rw [rput_i K (by omega), put_i K (by omega), right_f, rright_f, text_f K op a ha, rtext_f K (by omega) op a ha]
  by_cases h : Rt op a
  · have hz := put_len op a h.1
    have ht := take_put K (by omega) op a h ha l14 hB (by omega)
    simp only [if_pos h, lt, b1, beq_self_eq_true, Bool.not_true]
    rw [if_pos trivial, if_pos trivial, if_neg (by simp), if_neg (by omega), if_pos (by simp only [List.length_nil]; omega)]
    rw [if_pos (by simp only [List.nil_append]; omega), List.nil_append]
    simp only [pack_New.f, b2]
    rw [ht]
    simp only [b5, parse_text K (by omega) op a ha h, b3, pack_Reader_Left.f, beq_self_eq_true, Bool.and_true, decide_true, Bool.not_true]
    simp
  · simp only [if_neg h, lt, b1, beq_self_eq_true, Bool.not_true]
    rw [if_pos trivial, if_pos trivial, if_neg (by simp), if_pos (by simp)]
theorem loop (K : Nat) (hK : 5000 ≤ K) (l : List S54) (hl : l.length ≤ 100) (ha : ∀ e ∈ l, i32r e.f1) (l14 : List Int) (hB : IsB l14) (hl2 : l14.length ≤ 20) : ∀ (d n i : Nat), i + d = l.length → d < n → confidantlaw6_InstrTells.l0 K l l14 n (i : Int) = some true := by
  intro d
  induction d with
  | zero =>
    intro n i hd hn
    obtain ⟨n, rfl⟩ : ∃ k, n = k + 1 := ⟨n - 1, by omega⟩
    rw [confidantlaw6_InstrTells.l0.eq_2, if_neg (by omega)]
  | succ d ih =>
    intro n i hd hn
    obtain ⟨n, rfl⟩ : ∃ k, n = k + 1 := ⟨n - 1, by omega⟩
    have hw : IntKind.i64.wrap ((i : Int) + 1) = ((i + 1 : Nat) : Int) := by rw [w64_id (by omega) (by omega)]; omega
    have hm : l.getD i zS54 ∈ l := by
      rw [List.getD_eq_getElem?_getD, List.getElem?_eq_getElem (by omega)]
      exact List.getElem_mem _
    rw [confidantlaw6_InstrTells.l0.eq_2, if_pos (by omega), hw, Int.toNat_natCast, ih n (i + 1) (by omega) (by omega)]
    exact Eq.trans (congrArg (lt (fun (_ : List Int) => some true)) (funext fun g4 => if_pos (show (0 : Int) ≤ (i : Int) by omega))) (step K hK _ _ (ha _ hm) l14 hB hl2 (some true))
theorem seat (K : Nat) (k a : Int) (hk : 0 ≤ k ∧ k ≤ 255) (h : 0 ≤ a ∧ a ≤ 255) : ∃ op x, confidantseat_Instr.f K k a = some (op, x) ∧ i32r x ∧ Rt op x := by
  have e1 : IntKind.i64.wrap ((Int.tmod (IntKind.i64.wrap k) 26) + 1) = k % 26 + 1 := by rw [w64_id (x := k) (by omega) (by omega), Int.tmod_eq_emod_of_nonneg hk.1, w64_id (by omega) (by omega)]
  have e2 : IntKind.i64.wrap (Int.tmod a 12) = a % 12 := by rw [Int.tmod_eq_emod_of_nonneg h.1, w64_id (by omega) (by omega)]
  have hkn : Kn (k % 26 + 1) := by unfold Kn; omega
  unfold confidantseat_Instr.f confidantseat_in.f
  simp only [e1, e2, rarg_f, b1, b2]
  by_cases h0 : argT (k % 26 + 1) = 0
  · rw [if_pos h0]
    exact ⟨_, _, rfl, by rw [w32_id (by omega) (by omega)]; unfold i32r; omega, hkn, fun _ => w32_id (by omega) (by omega), fun n => absurd h0 n⟩
  · rw [if_neg h0]
    exact ⟨_, _, rfl, by rw [w32_id (by omega) (by omega)]; unfold i32r; omega, hkn, fun n => absurd n h0, fun _ _ => by rw [w32_id (by omega) (by omega)]; omega⟩
theorem InstrTells : confidantlaw6_InstrTells.Pure := by
  intro a9 a10 a11 a12 a13 l14 h9 h10 h11 h12 h13 hl hw
  obtain ⟨K, hK, hk⟩ := known_t
  refine ⟨K, ?_⟩
  unfold confidantlaw6_InstrTells.f
  rw [hk]
  simp only [b1]
  rw [if_pos trivial]
  by_cases hl2 : (l14.length : Int) > 20
  · rw [if_pos hl2]
  · rw [if_neg hl2]
    obtain ⟨op, x, hs, hx, _⟩ := seat K a11 a12 (is_u8 h11) (is_u8 h12)
    rw [hs]
    simp only [b2, lt]
    refine loop K hK _ (by simp) ?_ l14 (IsB.of hw) (by omega) 4 K 0 (by simp) (by omega)
    intro e he
    simp only [List.mem_cons, List.not_mem_nil, or_false] at he
    rcases he with rfl | rfl | rfl | rfl
    · exact is_i32 h10
    · exact hx
    · exact is_i32 h13
    · exact is_i32 h13
end Go.Proofs.YtocdpimpkifdmaaDoor.Pure
