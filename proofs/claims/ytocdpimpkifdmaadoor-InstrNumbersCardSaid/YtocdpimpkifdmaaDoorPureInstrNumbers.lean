import Derived.Test.YtocdpimpkifdmaaDoorG1
import Derived.Test.YtocdpimpkifdmaaDoorInsB
/- Numbers of all sizes come back from bytes and from texts; negative ones are valid for Push and Fail alone. No condition. -/
set_option linter.unusedVariables false
set_option linter.unusedSimpArgs false
namespace Go.Proofs.YtocdpimpkifdmaaDoor.Pure
open Go Go.Fw Go.RowKit Go.Proofs.YtocdpimpkifdmaaDoor.G Go.Proofs.YtocdpimpkifdmaaDoor.Pack Go.Proofs.YtocdpimpkifdmaaDoor.Txt Go.Proofs.YtocdpimpkifdmaaDoor.Ins

theorem known_i : ∃ K, 5000 ≤ K ∧ confidantlaw6_known.f K = some true := ⟨5000, Nat.le_refl _, by kernel_rfl⟩
theorem kinds : argT 1 = 1 ∧ argT 26 = 1 ∧ argT 10 = 2 ∧ argT 12 = 3 ∧ argT 20 = 5 ∧ argT 22 = 4 := by decide +kernel
def opN (j : Int) : Int := ([1, 26, 10, 12, 20, 22] : List Int).getD j.toNat 0
theorem op_kn : ∀ j : Fin 6, Kn (opN (j : Nat)) ∧ argT (opN (j : Nat)) ≠ 0 ∧ (argT (opN (j : Nat)) = 1 ↔ (opN (j : Nat) = 1 ∨ opN (j : Nat) = 26)) := by decide +kernel
theorem rest (K : Nat) (hK : 5000 ≤ K) (op a : Int) (ha : i32r a) (hk : Kn op) (h0 : argT op ≠ 0) (b4 : Bool) (hb : b4 = decide (Rt op a)) :
    (b1 (instr_Right.f K op a) fun (c2 : Bool) => (if (c2 == b4) = true then (if b4 = true then (b1 (instr_Text.f K op a) fun (e1 : ByteArray) => (b3 (instr_Parse.f K e1) fun (a6 : Int) (a7 : Int) (b6 : Bool) => (b1 (instr_Put.f K op a) fun (c3 : List Int) => (b2 (pack_New.f K c3) fun (d2 : List Int) (e2 : Int) => (b5 (instr_Take.f K d2 e2) fun (e9 : List Int) (f0 : Int) (a8 : Int) (a9 : Int) (b0 : Bool) => (if b6 = true then (if b0 = true then (if ((a6 == op) && ((a7 == a) && true)) = true then (if ((a8 == op) && ((a9 == a) && true)) = true then (b1 (instr_Put.f K op a) fun (b8 : List Int) => (if (b8.length : Int) ≥ 2 then (b1 (instr_Put.f K op a) fun (d3 : List Int) => (some (decide ((d3.length : Int) ≤ 6)))) else (some false))) else (some false)) else (some false)) else (some false)) else (some false))))))) else (b1 (instr_Put.f K op a) fun (b9 : List Int) => (if (b9.length : Int) = 0 then (b1 (instr_Text.f K op a) fun (d4 : ByteArray) => (some (d4.toList == (⟨#[]⟩ : ByteArray).toList))) else (some false)))) else (some false))) = some true := by
  subst hb
  rw [right_f, text_f K op a ha, put_i K (by omega)]
  simp only [b1, beq_self_eq_true]
  rw [if_pos trivial]
  by_cases h : Rt op a
  · rw [if_pos (decide_eq_true h), if_pos h, parse_text K (by omega) op a ha h, if_pos h]
    have ht := take_put K (by omega) op a h ha [] IsB.nil (by simp)
    rw [List.append_nil] at ht
    simp only [b3, b2, pack_New.f]
    rw [ht]
    have hz := put_len op a hk
    simp only [b5, beq_self_eq_true, Bool.and_true]
    rw [if_pos trivial, if_pos trivial, if_pos trivial, if_pos trivial, if_pos (by have := hz.2.2 h0; omega), decide_eq_true (by omega)]
  · rw [if_neg (by rw [decide_eq_false h]; simp), if_neg h, if_neg h]
    simp
theorem InstrNumbers : confidantlaw6_InstrNumbers.Pure := by
  intro a3 a4 h3 h4
  have u3 := is_i32 h3
  have u4 := is_u8 h4
  obtain ⟨K, hK, hk⟩ := known_i
  refine ⟨K, ?_⟩
  have hm : Int.tmod a4 6 = a4 % 6 := Int.tmod_eq_emod_of_nonneg u4.1
  obtain ⟨j, hj⟩ : ∃ j : Fin 6, Int.tmod a4 6 = ((j : Nat) : Int) := ⟨⟨(a4 % 6).toNat, by omega⟩, by rw [hm]; show _ = (((a4 % 6).toNat : Nat) : Int); omega⟩
  have hop := op_kn j
  have hjl := j.isLt
  unfold confidantlaw6_InstrNumbers.f
  rw [hk, hj]
  simp only [b1, lt]
  rw [if_pos trivial, if_pos (by omega), if_pos (by simp only [List.length_cons, List.length_nil]; omega)]
  have hr := rest K hK (opN (j : Nat)) a3 u3 hop.1 hop.2.1
  simp only [b1] at hr
  have ho : ([1, 26, 10, 12, 20, 22] : List Int).getD ((j : Nat) : Int).toNat 0 = opN (j : Nat) := rfl
  rw [ho]
  by_cases h1 : opN (j : Nat) = 1
  · rw [if_pos h1]
    exact hr true (decide_eq_true (show Rt _ _ from ⟨hop.1, fun n => absurd n hop.2.1, fun _ n => absurd (hop.2.2.2 (.inl h1)) n⟩)).symm
  · rw [if_neg h1]
    by_cases h2 : opN (j : Nat) = 26
    · rw [if_pos h2]
      exact hr true (decide_eq_true (show Rt _ _ from ⟨hop.1, fun n => absurd n hop.2.1, fun _ n => absurd (hop.2.2.2 (.inr h2)) n⟩)).symm
    · rw [if_neg h2]
      have hn : argT (opN (j : Nat)) ≠ 1 := fun e => (hop.2.2.1 e).elim h1 h2
      exact hr (decide (a3 ≥ 0)) (decide_eq_decide.2 ⟨fun q => (⟨hop.1, fun n => absurd n hop.2.1, fun _ _ => q⟩ : Rt _ _), fun q => q.2.2 hop.2.1 hn⟩)
end Go.Proofs.YtocdpimpkifdmaaDoor.Pure
