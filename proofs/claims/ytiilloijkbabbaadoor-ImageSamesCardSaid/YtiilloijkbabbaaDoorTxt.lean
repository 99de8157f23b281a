import Derived.Test.YtiilloijkbabbaaDoorFwStr
import Derived.Test.YtiilloijkbabbaaDoorFwLaw
import Derived.Lib.ParseIntBCases
import Derived.Lib.ItoaLen
/- Numbers as texts, and back; texts cut at a space. Conditions: in the lemmas. -/
set_option linter.unusedVariables false
set_option linter.unusedSimpArgs false
namespace Go.Proofs.YtiilloijkbabbaaDoor.Txt
open Go Go.Fw Go.RowKit
theorem dec_spec : ∀ (u : Nat), (∀ b ∈ Lib.decDigits u, 48 ≤ b.toNat ∧ b.toNat ≤ 57) ∧ (Lib.decDigits u).foldl (fun a b => 10 * a + (b.toNat - 48)) 0 = u := by
  intro u
  induction u using Nat.strongRecOn with
  | _ u ih =>
    have one : ∀ k, k < 10 → (UInt8.ofNat (48 + k)).toNat = 48 + k := fun k hk => by rw [UInt8.toNat_ofNat']; omega
    rw [Lib.decDigits]
    by_cases h : u < 10
    · rw [dif_pos h]
      refine ⟨fun b hb => ?_, ?_⟩
      · rw [List.mem_singleton.1 hb, one u h]; omega
      · simp only [List.foldl_cons, List.foldl_nil, one u h]; omega
    · rw [dif_neg h]
      obtain ⟨h1, h2⟩ := ih (u / 10) (by omega)
      refine ⟨fun b hb => ?_, ?_⟩
      · rcases List.mem_append.1 hb with hb | hb
        · exact h1 b hb
        · rw [List.mem_singleton.1 hb, one (u % 10) (by omega)]; omega
      · rw [List.foldl_append, h2]
        simp only [List.foldl_cons, List.foldl_nil, one (u % 10) (by omega)]
        omega
theorem dec_inj {u v : Nat} (h : Lib.decDigits u = Lib.decDigits v) : u = v := by rw [← (dec_spec u).2, ← (dec_spec v).2, h]
theorem dec_ne (u : Nat) : Lib.decDigits u ≠ [] := fun h => by
  have := Lib.decDigits_length u
  have := Lib.nDigits_pos u
  rw [h] at *
  simp at *
  omega
theorem itoa_sp (n : Int) : (32 : UInt8) ∉ Lib.itoa n := by
  have d : ∀ u, (32 : UInt8) ∉ Lib.decDigits u := fun u h => by
    have := (dec_spec u).1 32 h
    have e : (32 : UInt8).toNat = 32 := rfl
    omega
  unfold Lib.itoa
  split
  · intro h
    rcases List.mem_cons.1 h with h | h
    · exact absurd h (by decide)
    · exact d _ h
  · exact d _
theorem itoa_inj {n m : Int} (h : Lib.itoa n = Lib.itoa m) : n = m := by
  have no : ∀ u v : Nat, ¬ (45 :: Lib.decDigits u = Lib.decDigits v) := fun u v q => by
    have := (dec_spec v).1 45 (by rw [← q]; exact List.mem_cons_self ..)
    have e : (45 : UInt8).toNat = 45 := rfl
    omega
  unfold Lib.itoa at h
  by_cases hn : n < 0
  · rw [if_pos hn] at h
    by_cases hm : m < 0
    · rw [if_pos hm] at h
      have := dec_inj (List.cons.inj h).2
      omega
    · rw [if_neg hm] at h
      exact absurd h (no _ _)
  · rw [if_neg hn] at h
    by_cases hm : m < 0
    · rw [if_pos hm] at h
      exact absurd h.symm (no _ _)
    · rw [if_neg hm] at h
      have := dec_inj h
      omega

def i32r (x : Int) : Prop := -2147483648 ≤ x ∧ x ≤ 2147483647
instance (x : Int) : Decidable (i32r x) := by unfold i32r; infer_instance
/-- the digits of a text, read as one number -/
def dfold (v : Nat) (l : List UInt8) : Nat := l.foldl (fun a b => if 48 ≤ b.toNat ∧ b.toNat ≤ 57 then 10 * a + (b.toNat - 48) else a) v
theorem dfold_digits : ∀ (l : List UInt8) (v : Nat), (∀ b ∈ l, 48 ≤ b.toNat ∧ b.toNat ≤ 57) → dfold v l = l.foldl (fun a b => 10 * a + (b.toNat - 48)) v
  | [], v, _ => rfl
  | c :: r, v, h => by
    show dfold (if 48 ≤ c.toNat ∧ c.toNat ≤ 57 then 10 * v + (c.toNat - 48) else v) r = _
    rw [if_pos (h c (List.mem_cons_self ..)), dfold_digits r _ (fun b hb => h b (List.mem_cons_of_mem _ hb))]
    rfl
theorem dfold_itoa (n : Int) : dfold 0 (Lib.itoa n) = n.natAbs := by
  unfold Lib.itoa
  split
  · show dfold (if 48 ≤ (45 : UInt8).toNat ∧ (45 : UInt8).toNat ≤ 57 then 10 * 0 + ((45 : UInt8).toNat - 48) else 0) (Lib.decDigits n.natAbs) = _
    rw [if_neg (by decide), dfold_digits _ _ (dec_spec _).1, (dec_spec _).2]
  · rw [dfold_digits _ _ (dec_spec _).1, (dec_spec _).2]
    omega
theorem fold_ge : ∀ (l : List UInt8) (v : Nat), v ≤ l.foldl (fun a b => 10 * a + (b.toNat - 48)) v
  | [], v => Nat.le_refl _
  | c :: r, v => Nat.le_trans (by omega) (fold_ge r (10 * v + (c.toNat - 48)))
theorem parseM (M : Nat) (hM : M < 1844674407370955162) : ∀ (l : List UInt8) (v : Nat), (∀ b ∈ l, 48 ≤ b.toNat ∧ b.toNat ≤ 57) → l.foldl (fun a b => 10 * a + (b.toNat - 48)) v ≤ M → Lib.parseUintM M v l = .ok (l.foldl (fun a b => 10 * a + (b.toNat - 48)) v)
  | [], v, _, _ => rfl
  | c :: r, v, h, hv => by
    have hc := h c (List.mem_cons_self ..)
    have hv' : r.foldl (fun a b => 10 * a + (b.toNat - 48)) (10 * v + (c.toNat - 48)) ≤ M := hv
    have h1 := fold_ge r (10 * v + (c.toNat - 48))
    unfold Lib.parseUintM
    rw [if_pos hc, if_neg (by omega), if_neg (by omega), show v * 10 + (c.toNat - 48) = 10 * v + (c.toNat - 48) by omega, parseM M hM r _ (fun b hb => h b (List.mem_cons_of_mem _ hb)) hv']
    rfl
theorem parseU (u : Nat) (hu : u ≤ 4294967295) : Lib.parseUintB 32 (Lib.decDigits u) = .ok u := by
  unfold Lib.parseUintB
  rw [if_neg (dec_ne u), parseM _ (by decide) _ 0 (dec_spec u).1 (by rw [(dec_spec u).2]; exact hu), (dec_spec u).2]
theorem parse_itoa (n : Int) (h : i32r n) : parseN 32 (itoaL n) = n := by
  unfold i32r at h
  have e : (itoaL n).data.toList = Lib.itoa n := by unfold itoaL; simp
  unfold parseN
  rw [e]
  unfold Lib.itoa
  by_cases hn : n < 0
  · rw [if_pos hn, Lib.parseIntB_minus, parseU _ (by omega)]
    simp only [Lib.signedC]
    rw [if_neg (by show ¬ 2147483648 < n.natAbs; omega)]
    simp only
    omega
  · rw [if_neg hn]
    have hd := (dec_spec n.toNat).1
    have hp := parseU n.toNat (by omega)
    cases hc : Lib.decDigits n.toNat with
    | nil => exact absurd hc (dec_ne _)
    | cons c r =>
      rw [hc] at hd hp
      have hcc := hd c (List.mem_cons_self ..)
      rw [Lib.parseIntB_plain _ _ _ (by omega) (by omega), hp]
      simp only [Lib.signlessC]
      rw [if_neg (by show ¬ 2147483648 ≤ n.toNat; omega)]
      simp only
      omega
theorem parse_none : parseN 32 (⟨#[]⟩ : ByteArray) = 0 := rfl
/-! ### cut at a space -/
theorem index_sp : ∀ (a r : List UInt8), (32 : UInt8) ∉ a → Lib.index (a ++ 32 :: r) [32] = (a.length : Int)
  | [], r, _ => by unfold Lib.index; rfl
  | c :: a, r, h => by
    have hc : c ≠ 32 := fun e => h (e ▸ List.mem_cons_self ..)
    have ih := index_sp a r (fun m => h (List.mem_cons_of_mem _ m))
    show Lib.index (c :: (a ++ 32 :: r)) [32] = _
    unfold Lib.index
    have hp : [(32 : UInt8)].isPrefixOf (c :: (a ++ 32 :: r)) = false := by
      simp only [List.isPrefixOf, Bool.and_eq_false_iff]
      exact .inl (beq_eq_false_iff_ne.2 (Ne.symm hc))
    rw [hp, ih]
    have : ((a.length : Int) == -1) = false := beq_eq_false_iff_ne.2 (by omega)
    rw [this]
    simp
theorem index_no : ∀ (a : List UInt8), (32 : UInt8) ∉ a → Lib.index a [32] = -1
  | [], _ => rfl
  | c :: a, h => by
    have hc : c ≠ 32 := fun e => h (e ▸ List.mem_cons_self ..)
    have ih := index_no a (fun m => h (List.mem_cons_of_mem _ m))
    unfold Lib.index
    have hp : [(32 : UInt8)].isPrefixOf (c :: a) = false := by
      simp only [List.isPrefixOf, Bool.and_eq_false_iff]
      exact .inl (beq_eq_false_iff_ne.2 (Ne.symm hc))
    rw [hp, ih]
    rfl
theorem split_sp : ∀ l : List UInt8, (32 : UInt8) ∉ l ∨ ∃ a r, l = a ++ 32 :: r ∧ (32 : UInt8) ∉ a
  | [] => .inl (by simp)
  | c :: l => by
    by_cases hc : c = 32
    · exact .inr ⟨[], l, by rw [hc]; rfl, by simp⟩
    · rcases split_sp l with h | ⟨a, r, rfl, ha⟩
      · exact .inl (fun m => (List.mem_cons.1 m).elim (fun e => hc e.symm) h)
      · exact .inr ⟨c :: a, r, rfl, fun m => (List.mem_cons.1 m).elim (fun e => hc e.symm) ha⟩
theorem cut_hit (s : ByteArray) (a r : List UInt8) (hs : s.data.toList = a ++ 32 :: r) (ha : (32 : UInt8) ∉ a) : (cutA s ⟨#[32]⟩).data.toList = a ∧ (cutB s ⟨#[32]⟩).data.toList = r := by
  unfold cutA cutB Lib.cut
  rw [hs]
  have e : (⟨#[32]⟩ : ByteArray).data.toList = [32] := rfl
  rw [e, index_sp a r ha, if_pos (by omega)]
  constructor
  · simp
  · simp only [Int.toNat_natCast, List.length_singleton]
    rw [show a.length + 1 = (a ++ [32]).length by simp, show a ++ 32 :: r = (a ++ [32]) ++ r by simp, List.drop_left]
theorem cut_miss (s : ByteArray) (ha : (32 : UInt8) ∉ s.data.toList) : (cutA s ⟨#[32]⟩).data.toList = s.data.toList ∧ (cutB s ⟨#[32]⟩).data.toList = [] := by
  unfold cutA cutB Lib.cut
  have e : (⟨#[32]⟩ : ByteArray).data.toList = [32] := rfl
  rw [e, index_no _ ha, if_neg (by omega)]
  simp
end Go.Proofs.YtiilloijkbabbaaDoor.Txt
