import Derived.Test.YtipaaapbapijhaaDoorG3
import Derived.Test.YtipaaapbapijhaaDoorFwLaw
/- What each instruction takes, leaves, is called. No condition. -/
set_option linter.unusedVariables false
set_option linter.unusedSimpArgs false
namespace Go.Proofs.YtipaaapbapijhaaDoor.Pure
open Go Go.Fw Go.RowKit Go.Proofs.YtipaaapbapijhaaDoor.G

def theNames (K : Nat) : List ByteArray := (confidantref5_names.f K).getD []
theorem names_p : ops_names.f 100 = some (theNames 100) := by kernel_rfl
theorem names_r : confidantref5_names.f 100 = some (theNames 100) := by kernel_rfl
theorem names_l : (theNames 100).length = 26 := by kernel_rfl
def kn (o : Int) : Bool := decide (1 ≤ o ∧ o ≤ 26)
def nm (o : Int) : ByteArray := if 1 ≤ o ∧ o ≤ 26 then (theNames 100).getD (o - 1).toNat ⟨#[]⟩ else ⟨#[]⟩
/-- what both say of an instruction -/
def Facts (K : Nat) (o : Int) : Prop := ops_Known.f K o = some (kn o) ∧ confidantref5_Known.f K o = some (kn o) ∧ (∃ a : Int, ops_Arg.f K o = some a ∧ confidantref5_Arg.f K o = some a) ∧ (∃ a : Int, ops_Pops.f K o = some a ∧ confidantref5_Pops.f K o = some a) ∧ (∃ a : Int, ops_Pushes.f K o = some a ∧ confidantref5_Pushes.f K o = some a) ∧
  (∃ b : Bool, ops_Ends.f K o = some b ∧ confidantref5_Ends.f K o = some b) ∧ ops_Name.f K o = some (nm o) ∧ confidantref5_Name.f K o = some (nm o) ∧ ∃ b : Int, ops_Find.f K (nm o) = some (b, kn o) ∧ (kn o = true → b = o)
def factsB (o : Int) : Bool := decide (ops_Known.f 100 o = some (kn o)) && decide (confidantref5_Known.f 100 o = some (kn o)) && decide ((ops_Arg.f 100 o).isSome ∧ confidantref5_Arg.f 100 o = ops_Arg.f 100 o) && decide ((ops_Pops.f 100 o).isSome ∧ confidantref5_Pops.f 100 o = ops_Pops.f 100 o) && decide ((ops_Pushes.f 100 o).isSome ∧ confidantref5_Pushes.f 100 o = ops_Pushes.f 100 o) &&
  decide ((ops_Ends.f 100 o).isSome ∧ confidantref5_Ends.f 100 o = ops_Ends.f 100 o) && decide (ops_Name.f 100 o = some (nm o)) && decide (confidantref5_Name.f 100 o = some (nm o)) && decide (ops_Find.f 100 (nm o) = some (o, kn o))
theorem some_of {α : Type} {x y : Option α} (h : x.isSome = true ∧ y = x) : ∃ a, x = some a ∧ y = some a := by
  obtain ⟨a, ha⟩ := Option.isSome_iff_exists.1 h.1
  exact ⟨a, ha, h.2.trans ha⟩
theorem facts_of {o : Int} (h : factsB o = true) : Facts 100 o := by
  unfold factsB at h
  simp only [Bool.and_eq_true, decide_eq_true_eq] at h
  obtain ⟨⟨⟨⟨⟨⟨⟨⟨h1, h2⟩, h3⟩, h4⟩, h5⟩, h6⟩, h7⟩, h8⟩, h9⟩ := h
  exact ⟨h1, h2, some_of h3, some_of h4, some_of h5, some_of h6, h7, h8, _, h9, fun _ => rfl⟩
theorem in_range : ∀ i : Fin 26, factsB ((i : Int) + 1) = true := by decide +kernel
theorem find_none : ops_Find.f 100 (⟨#[]⟩ : ByteArray) = some (0, false) := by kernel_rfl
theorem out_range (o : Int) (h : o < 1 ∨ 26 < o) : Facts 100 o := by
  have hk : kn o = false := by unfold kn; exact decide_eq_false (by omega)
  have hn : nm o = ⟨#[]⟩ := by unfold nm; rw [if_neg (by omega)]
  have kp : ops_Known.f 100 o = some false := by
    unfold ops_Known.f
    rcases h with h | h
    · rw [if_neg (by omega)]
    · rw [if_pos (by omega), decide_eq_false (by omega)]
  have kr : confidantref5_Known.f 100 o = some false := by
    unfold confidantref5_Known.f
    rcases h with h | h
    · rw [if_neg (by omega)]
    · rw [if_pos (by omega), decide_eq_false (by omega)]
  refine ⟨by rw [hk]; exact kp, by rw [hk]; exact kr, ⟨0, ?_, ?_⟩, ⟨0, ?_, ?_⟩, ⟨0, ?_, ?_⟩, ⟨false, ?_, ?_⟩, ?_, ?_, 0, ?_, fun h => ?_⟩
  · unfold ops_Arg.f ops_of.f; rw [kp]; rfl
  · unfold confidantref5_Arg.f
    simp only [lt]
    rw [if_neg (by omega), decide_eq_false (by omega), if_neg (by simp), if_neg (by omega), decide_eq_false (by omega), if_neg (by simp), if_neg (by omega), decide_eq_false (by omega), if_neg (by simp), if_neg (by omega), if_neg (by omega), if_neg (by omega), decide_eq_false (by omega), if_neg (by simp), if_neg (by omega), if_neg (by omega), decide_eq_false (by omega), if_neg (by simp)]
  · unfold ops_Pops.f ops_of.f; rw [kp]; rfl
  · unfold confidantref5_Pops.f
    simp only [lt]
    rw [if_neg (by omega), if_neg (by omega), if_neg (by omega), if_neg (by omega), if_neg (by omega), if_neg (by omega), if_neg (by omega), if_neg (by omega), if_neg (by omega), if_neg (by omega), decide_eq_false (by omega), if_neg (by simp), if_neg (by omega), if_neg (by omega), if_neg (by omega), if_neg (by omega), if_neg (by omega), if_neg (by omega), if_neg (by omega), decide_eq_false (by omega), if_neg (by simp)]
  · unfold ops_Pushes.f ops_of.f; rw [kp]; rfl
  · unfold confidantref5_Pushes.f
    simp only [lt]
    rw [if_neg (by omega), if_neg (by omega), if_neg (by omega), if_neg (by omega), if_neg (by omega), if_neg (by omega), if_neg (by omega), if_neg (by omega), if_neg (by omega), if_neg (by omega), if_neg (by omega), if_neg (by omega), if_neg (by omega), if_neg (by omega), decide_eq_false (by omega), if_neg (by simp), if_neg (by omega), decide_eq_false (by omega), if_neg (by simp)]
  · unfold ops_Ends.f; rw [if_neg (by omega), decide_eq_false (by omega)]
  · unfold confidantref5_Ends.f; rw [if_neg (by omega), decide_eq_false (by omega)]
  · unfold ops_Name.f; rw [kp, hn]; rfl
  · unfold confidantref5_Name.f; rw [kr, hn]; rfl
  · rw [hn, hk]; exact find_none
  · rw [hk] at h; exact nomatch h
theorem facts (o : Int) : Facts 100 o := by
  by_cases h : 1 ≤ o ∧ o ≤ 26
  · have := in_range ⟨(o - 1).toNat, by omega⟩
    have e : (((⟨(o - 1).toNat, by omega⟩ : Fin 26) : Nat) : Int) + 1 = o := by show (((o - 1).toNat : Nat) : Int) + 1 = o; omega
    rw [e] at this
    exact facts_of this
  · exact out_range o (by omega)

/-! ### the one of a name -/
theorem find_l (K : Nat) (l : List ByteArray) (hl : l.length ≤ 100) (s : ByteArray) : ∀ (d n i : Nat), i + d = l.length → d < n →
    (∃ k : Nat, k < l.length ∧ slices_Index_string_string.l0 K l s n (i : Int) = some (k : Int) ∧ confidantref5_Find.l0 K l s n (i : Int) = some ((k : Int) + 1, true)) ∨
    (slices_Index_string_string.l0 K l s n (i : Int) = some (-1) ∧ confidantref5_Find.l0 K l s n (i : Int) = some (0, false)) := by
  intro d
  induction d with
  | zero =>
    intro n i hd hn
    obtain ⟨n, rfl⟩ : ∃ k, n = k + 1 := ⟨n - 1, by omega⟩
    exact Or.inr ⟨by rw [slices_Index_string_string.l0.eq_2, if_neg (by omega)], by rw [confidantref5_Find.l0.eq_2, if_neg (by omega)]⟩
  | succ d ih =>
    intro n i hd hn
    obtain ⟨n, rfl⟩ : ∃ k, n = k + 1 := ⟨n - 1, by omega⟩
    have hw : IntKind.i64.wrap ((i : Int) + 1) = (i : Int) + 1 := w64_id (by omega) (by omega)
    have eP : slices_Index_string_string.l0 K l s (n + 1) (i : Int) = if (s.toList == (l.getD i ⟨#[]⟩).toList) = true then some (i : Int) else slices_Index_string_string.l0 K l s n ((i : Int) + 1) := by
      rw [slices_Index_string_string.l0.eq_2, if_pos (by omega), if_pos (by omega), Int.toNat_natCast, hw]
    have eR : confidantref5_Find.l0 K l s (n + 1) (i : Int) = if ((l.getD i ⟨#[]⟩).toList == s.toList) = true then some ((i : Int) + 1, true) else confidantref5_Find.l0 K l s n ((i : Int) + 1) := by
      rw [confidantref5_Find.l0.eq_2, if_pos (by omega), if_pos (by omega), Int.toNat_natCast, hw]
    rw [eP, eR]
    by_cases h : s.toList = (l.getD i ⟨#[]⟩).toList
    · rw [if_pos (beq_iff_eq.2 h), if_pos (beq_iff_eq.2 h.symm)]
      exact Or.inl ⟨i, by omega, rfl, rfl⟩
    · rw [if_neg (fun q => h (beq_iff_eq.1 q)), if_neg (fun q => h (beq_iff_eq.1 q).symm), show (i : Int) + 1 = ((i + 1 : Nat) : Int) by omega]
      exact ih n (i + 1) (by omega) (by omega)
theorem find_same (K : Nat) (hK : K = 100) (s : ByteArray) : ∃ (a : Int) (b : Bool), ops_Find.f K s = some (a, b) ∧ confidantref5_Find.f K s = some (a, b) := by
  have hp : ops_names.f K = some (theNames 100) := by rw [hK]; exact names_p
  have hr : confidantref5_names.f K = some (theNames 100) := by rw [hK]; exact names_r
  have hl := names_l
  unfold ops_Find.f confidantref5_Find.f slices_Index_string_string.f
  rw [hp, hr]
  simp only [b1]
  rcases find_l K (theNames 100) (by omega) s 26 K 0 (by omega) (by omega) with ⟨k, hk, h1, h2⟩ | ⟨h1, h2⟩
  · rw [show ((0 : Nat) : Int) = 0 from rfl] at h1 h2
    rw [h1, h2]
    simp only
    rw [if_neg (by omega), w64_id (by omega) (by omega), show (1 : Int) + (k : Int) = (k : Int) + 1 by omega]
    exact ⟨_, _, rfl, rfl⟩
  · rw [show ((0 : Nat) : Int) = 0 from rfl] at h1 h2
    rw [h1, h2]
    simp only
    rw [if_pos (by omega)]
    exact ⟨_, _, rfl, rfl⟩

/-! ### the law -/
theorem tell_l (K : Nat) (hK : K = 100) (l : List Int) (hl : l.length ≤ 10) (g : List Int → Option Bool) : ∀ (d n i : Nat), i + d = l.length → d < n → confidantlaw5_OpsTell.l0 K l g n (i : Int) = g l := by
  intro d
  induction d with
  | zero =>
    intro n i hd hn
    obtain ⟨n, rfl⟩ : ∃ k, n = k + 1 := ⟨n - 1, by omega⟩
    rw [confidantlaw5_OpsTell.l0.eq_2, if_neg (by omega)]
  | succ d ih =>
    intro n i hd hn
    obtain ⟨n, rfl⟩ : ∃ k, n = k + 1 := ⟨n - 1, by omega⟩
    have hw : IntKind.i64.wrap ((i : Int) + 1) = ((i + 1 : Nat) : Int) := by rw [w64_id (by omega) (by omega)]; omega
    have hf : Facts K (l.getD i 0) := by rw [hK]; exact facts _
    obtain ⟨h1, h2, ⟨a, h3, h4⟩, ⟨p, h5, h6⟩, ⟨q, h7, h8⟩, ⟨e, h9, h10⟩, h11, h12, b, h13, h14⟩ := hf
    rw [confidantlaw5_OpsTell.l0.eq_2, if_pos (by omega), if_pos (by omega)]
    simp only [Int.toNat_natCast, hw, lt, b1, b2, h1, h2, h3, h4, h5, h6, h7, h8, h9, h10, h11, h12, h13]
    have t1 : (kn (l.getD i 0) == kn (l.getD i 0)) = true := beq_self_eq_true _
    have t2 : (e == e) = true := beq_self_eq_true _
    have t3 : ((nm (l.getD i 0)).toList == (nm (l.getD i 0)).toList) = true := beq_self_eq_true _
    rw [if_pos t1, if_pos trivial, if_pos trivial, if_pos trivial, if_pos t2, t3]
    simp only [Bool.not_true, Bool.false_eq_true, if_false]
    rw [if_pos t1]
    by_cases hk : kn (l.getD i 0) = true
    · rw [if_pos hk, h14 hk]
      simp only [decide_true, Bool.not_true, Bool.false_eq_true, if_false]
      exact ih n (i + 1) (by omega) (by omega)
    · rw [if_neg hk]
      exact ih n (i + 1) (by omega) (by omega)
theorem tells (K : Nat) (hK : K = 100) (hk : confidantlaw5_known.f K = some true) (o : Int) (s : ByteArray) : confidantlaw5_OpsTell.f K o s = some true := by
  unfold confidantlaw5_OpsTell.f
  rw [hk]
  simp only [b1, lt]
  rw [if_pos trivial]
  by_cases h : (s.size : Int) > 20
  · rw [if_pos h]
  · rw [if_neg h]
    refine Eq.trans (tell_l K hK [o, bA .i64 o 31] (by simp) _ 2 K 0 (by simp) (by omega)) ?_
    obtain ⟨a, b, h1, h2⟩ := find_same K hK s
    rw [h1, h2]
    simp only [b2]
    rw [if_pos trivial, beq_self_eq_true]
theorem OpsTell : confidantlaw5_OpsTell.Pure := by
  intro o s ho hs
  exact ⟨100, tells 100 rfl (by kernel_rfl) o s⟩
end Go.Proofs.YtipaaapbapijhaaDoor.Pure
