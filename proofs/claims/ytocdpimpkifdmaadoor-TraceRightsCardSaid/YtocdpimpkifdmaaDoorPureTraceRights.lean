import Derived.Test.YtocdpimpkifdmaaDoorTrace
import Derived.Test.YtocdpimpkifdmaaDoorG2
/- Just which events may be. No condition. -/
set_option linter.unusedVariables false
set_option linter.unusedSimpArgs false
namespace Go.Proofs.YtocdpimpkifdmaaDoor.Pure
open Go Go.Fw Go.RowKit Go.Proofs.YtocdpimpkifdmaaDoor.G Go.Proofs.YtocdpimpkifdmaaDoor.Pack Go.Proofs.YtocdpimpkifdmaaDoor.Trace

theorem known_f : ∃ K, 5000 ≤ K ∧ confidantlaw23_known.f K = some true ∧ trace_names.f K = some NM := ⟨5000, Nat.le_refl _, by kernel_rfl, by kernel_rfl⟩
theorem empty_text (b : ByteArray) (h : 16 ≤ b.size) : (b.toList == (⟨#[]⟩ : ByteArray).toList) = false := by
  rw [beq_eq_false_iff_ne]
  intro q
  have e1 : b.toList.length = b.size := by rw [Lib.toList_data, Array.length_toList]; rfl
  have e2 : (⟨#[]⟩ : ByteArray).toList.length = 0 := by rw [Lib.toList_data]; rfl
  rw [q] at e1
  omega
theorem tail_f (K : Nat) (hK : 5000 ≤ K) (hnm : trace_names.f K = some NM) (e : S28) (hs : Sm e) (ok : Bool) (hok : ok = decide (Rt e)) : (b1 (trace_Right.f K e) fun (a9 : Bool) => (if (a9 == ok) = true then (b1 (trace_Text.f K e) fun (b0 : ByteArray) => (if ((!((b0.toList == (⟨#[]⟩ : ByteArray).toList))) == ok) = true then (lt ([e] : List S28) fun b2 => (b1 (trace_Put.f K b2) fun (c0 : List Int) => (some ((decide ((c0.length : Int) > 0)) == ok)))) else (some false))) else (some false))) = some true := by
  have hp := tput_f K (by omega) [e] (by simp) (by show 1 < K; omega) (fun x hx => List.mem_singleton.1 hx ▸ hs)
  rw [right_f, text_f K (by omega) hnm e hs]
  simp only [b1, lt, hp]
  rw [hok, if_pos (beq_self_eq_true _)]
  by_cases h : Rt e
  · have ha : all [e] = true := by unfold all; simp [h]
    rw [if_pos h, if_pos ha, empty_text _ (text_size e h hs), decide_eq_true h]
    have hpos := enc_pos [e].length
    have hgt : decide (((enc [e].length ++ body [e]).length : Int) > 0) = true := decide_eq_true (by rw [List.length_append]; omega)
    rw [if_pos (show ((!false) == true) = true from rfl), hgt]
    rfl
  · have ha : ¬ all [e] = true := by unfold all; simp [h]
    rw [if_neg h, if_neg ha, decide_eq_false h, beq_self_eq_true]
    rfl
theorem TraceRights : confidantlaw23_TraceRights.Pure := by
  intro e w v h0 h1 h2 h3 h4 h5 h6 hw hv
  obtain ⟨K, hK, hk, hnm⟩ := known_f
  refine ⟨K, ?_⟩
  have u5 := is_i32 h5
  have u6 := is_i32 h6
  have i5 : i32r e.f5 := ⟨by omega, by omega⟩
  have i6 : i32r e.f6 := ⟨by omega, by omega⟩
  have i9 : i32r 9 := by unfold i32r; omega
  unfold confidantlaw23_TraceRights.f
  rw [hk]
  simp only [b1]
  rw [if_pos trivial]
  have main := fun (a b c d f : Int) (ok : Bool) (hf : i32r f) (hok : ok = decide (Rt ⟨a, b, c, d, f, e.f5, e.f6⟩)) => tail_f K hK hnm ⟨a, b, c, d, f, e.f5, e.f6⟩ ⟨hf, i5, i6⟩ ok hok
  have yes : ∀ (p : Prop) [Decidable p] (x : S28), (p ↔ Rt x) → decide p = decide (Rt x) := fun p _ x h => decide_eq_decide.2 h
  have no : ∀ x : S28, ¬ Rt x → false = decide (Rt x) := fun x h => (decide_eq_false h).symm
  simp only [lt]
  by_cases c0 : Int.tmod w 5 = 0
  · rw [if_pos c0]
    by_cases g : v ≥ 0
    · rw [if_pos g]; exact main v 3 2 1 9 _ i9 (yes _ _ ⟨fun h => by unfold Rt; simp only; omega, fun h => by unfold Rt at h; simp only at h; omega⟩)
    · rw [if_neg g]; exact main v 3 2 1 9 _ i9 (no _ (fun h => by unfold Rt at h; simp only at h; omega))
  rw [if_neg c0]
  by_cases c1 : Int.tmod w 5 = 1
  · rw [if_pos c1]
    by_cases g : v ≥ 0
    · rw [if_pos g]; exact main 5 v 2 1 9 _ i9 (yes _ _ ⟨fun h => by unfold Rt; simp only; omega, fun h => by unfold Rt at h; simp only at h; omega⟩)
    · rw [if_neg g]; exact main 5 v 2 1 9 _ i9 (no _ (fun h => by unfold Rt at h; simp only at h; omega))
  rw [if_neg c1]
  by_cases c2 : Int.tmod w 5 = 2
  · rw [if_pos c2]
    by_cases g : v ≥ 1
    · rw [if_pos g]; exact main 5 3 v 1 9 _ i9 (yes _ _ ⟨fun h => by unfold Rt; simp only; omega, fun h => by unfold Rt at h; simp only at h; omega⟩)
    · rw [if_neg g]; exact main 5 3 v 1 9 _ i9 (no _ (fun h => by unfold Rt at h; simp only at h; omega))
  rw [if_neg c2]
  by_cases c3 : Int.tmod w 5 = 3
  · rw [if_pos c3]
    by_cases g : v ≥ 0
    · rw [if_pos g]; exact main 5 3 2 v 9 _ i9 (yes _ _ ⟨fun h => by unfold Rt; simp only; omega, fun h => by unfold Rt at h; simp only at h; omega⟩)
    · rw [if_neg g]; exact main 5 3 2 v 9 _ i9 (no _ (fun h => by unfold Rt at h; simp only at h; omega))
  rw [if_neg c3]
  have hw : i32r (IntKind.i32.wrap v) := by unfold i32r; rw [w32]; omega
  exact main 5 3 2 1 (IntKind.i32.wrap v) _ hw (yes _ _ ⟨fun h => by unfold Rt; simp only; omega, fun h => by unfold Rt at h; simp only at h; omega⟩)
end Go.Proofs.YtocdpimpkifdmaaDoor.Pure
