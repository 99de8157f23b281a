import Derived.Test.YtiilloijkbabbaaGreatDoorG2
import Derived.Test.YtiilloijkbabbaaGreatDoorG3
import Derived.Test.YtiilloijkbabbaaGreatDoorInsB
/- The document's instructions: which may be, their bytes and texts. Conditions: in the lemmas. -/
set_option linter.unusedVariables false
set_option linter.unusedSimpArgs false
namespace Go.Proofs.YtiilloijkbabbaaGreatDoor.Ins
open Go Go.Fw Go.RowKit Go.Proofs.YtiilloijkbabbaaGreatDoor.G Go.Proofs.YtiilloijkbabbaaGreatDoor.Pack Go.Proofs.YtiilloijkbabbaaGreatDoor.Txt

def decB (u : Nat) : ByteArray := ⟨(Lib.decDigits u).toArray⟩
theorem digit : ∀ i : Fin 10, (⟨#[48, 49, 50, 51, 52, 53, 54, 55, 56, 57]⟩ : ByteArray).extract (i : Nat) ((i : Nat) + 1) = decB i := by
  intro i
  unfold decB
  rw [Lib.decDigits_one i.isLt]
  revert i
  decide +kernel
theorem decB_size (u : Nat) (h : u < 18446744073709551616) : (decB u).size ≤ 20 := by
  have := Lib.decDigits_length u
  have := Lib.nDigits_le20 u h
  show (Lib.decDigits u).toArray.size ≤ 20
  rw [List.size_toArray]
  omega
theorem dec_f : ∀ (m K u : Nat), u < 10 ^ m → m ≤ K → 1 ≤ m → u < 18446744073709551616 → confidantref5_dec.f K (u : Int) = some (decB u) := by
  intro m
  induction m with
  | zero => intro K u h h1 h2; omega
  | succ m ih =>
    intro K u h h1 h2 h3
    obtain ⟨K, rfl⟩ : ∃ k, K = k + 1 := ⟨K - 1, by omega⟩
    unfold confidantref5_dec.f
    by_cases h10 : u < 10
    · have hw : IntKind.u64.wrap ((u : Int) + 1) = ((u + 1 : Nat) : Int) := by rw [wu64_id (by omega) (by omega)]; omega
      have hs : (⟨#[48, 49, 50, 51, 52, 53, 54, 55, 56, 57]⟩ : ByteArray).size = 10 := rfl
      rw [if_pos (by omega), hw, if_pos (by omega), if_pos (by omega), if_pos (by rw [hs]; omega)]
      exact congrArg some (digit ⟨u, h10⟩)
    · have hm : 1 ≤ m := by
        cases m with
        | zero => simp at h; omega
        | succ m => omega
      have hd : IntKind.u64.wrap (Int.tdiv (u : Int) 10) = ((u / 10 : Nat) : Int) := by rw [Int.tdiv_eq_ediv_of_nonneg (by omega), wu64_id (by omega) (by omega)]; omega
      have hr : Int.tmod (u : Int) 10 = ((u % 10 : Nat) : Int) := by rw [Int.tmod_eq_emod_of_nonneg (by omega)]; omega
      have e1 := ih K (u / 10) (by rw [Nat.pow_succ] at h; omega) (by omega) hm (by omega)
      have e2 := ih K (u % 10) (by have : 10 ^ 1 ≤ 10 ^ m := Nat.pow_le_pow_right (by decide) hm; omega) (by omega) hm (by omega)
      have s1 := decB_size (u / 10) (by omega)
      have s2 := decB_size (u % 10) (by omega)
      rw [if_neg (by omega), hd, hr, e1]
      simp only [b1]
      rw [e2]
      simp only
      rw [if_pos (by omega)]
      congr 1
      unfold decB
      rw [Lib.decDigits_one (Nat.mod_lt u (by decide))]
      conv => rhs; rw [Lib.decDigits, dif_neg h10]
      rw [ByteArray.mk_append_mk]
theorem decimal_f (K : Nat) (hK : 30 ≤ K) (n : Int) (h : -9223372036854775808 ≤ n ∧ n ≤ 9223372036854775807) : confidantref5_Decimal.f K n = some (itoaL n) := by
  unfold confidantref5_Decimal.f itoaL Lib.itoa
  have p : ∀ u : Nat, u < 18446744073709551616 → u < 10 ^ 20 := fun u hu => by
    have : (18446744073709551616 : Nat) ≤ 10 ^ 20 := by decide
    omega
  by_cases hn : n < 0
  · have hw : IntKind.u64.wrap ((IntKind.u64.wrap (IntKind.i64.wrap (0 - (IntKind.i64.wrap (n + 1))))) + 1) = (n.natAbs : Int) := by
      rw [w64_id (x := n + 1) (by omega) (by omega), w64_id (by omega) (by omega), wu64_id (x := 0 - (n + 1)) (by omega) (by omega), wu64_id (by omega) (by omega)]
      omega
    have hs := decB_size n.natAbs (by omega)
    rw [if_pos hn, if_pos hn, hw, dec_f 20 K n.natAbs (p _ (by omega)) (by omega) (by omega) (by omega)]
    simp only [b1]
    have h45 : (⟨#[45]⟩ : ByteArray).size = 1 := rfl
    rw [if_pos (by rw [h45]; omega)]
    rfl
  · have hw : IntKind.u64.wrap n = (n.toNat : Int) := by rw [wu64_id (by omega) (by omega)]; omega
    rw [if_neg hn, if_neg hn, hw, dec_f 20 K n.toNat (p _ (by omega)) (by omega) (by omega) (by omega)]
    rfl

theorem rarg_fin : ∀ i : Fin 26, confidantref5_Arg.f 0 ((i : Nat) + 1 : Int) = some (argT ((i : Nat) + 1 : Int)) := by decide +kernel
theorem rarg_un (K : Nat) (op : Int) (h : ¬ Kn op) : confidantref5_Arg.f K op = some 0 := by
  have n : ∀ k : Int, 1 ≤ k ∧ k ≤ 26 → op ≠ k := fun k hk e => h (by rw [e]; exact hk)
  unfold confidantref5_Arg.f
  simp only [lt, n 1 (by omega), n 26 (by omega), n 10 (by omega), n 11 (by omega), n 12 (by omega), n 13 (by omega), n 15 (by omega), n 16 (by omega), n 17 (by omega), n 22 (by omega), n 20 (by omega), n 23 (by omega), n 24 (by omega), decide_false, if_false, Bool.false_eq_true]
theorem rarg_f (K : Nat) (op : Int) : confidantref5_Arg.f K op = some (argT op) := by
  by_cases h : Kn op
  · obtain ⟨i, rfl⟩ := fin_of op h
    exact (rfl : confidantref5_Arg.f K ((i : Nat) + 1 : Int) = confidantref5_Arg.f 0 ((i : Nat) + 1 : Int)).trans (rarg_fin i)
  · rw [argT_un op h]; exact rarg_un K op h
theorem rknown_f (K : Nat) (op : Int) : confidantref5_Known.f K op = some (decide (Kn op)) := by
  unfold confidantref5_Known.f
  by_cases h : op ≥ 1
  · rw [if_pos h]; congr 1; exact decide_eq_decide.2 ⟨fun q => (⟨h, q⟩ : Kn op), fun q => q.2⟩
  · rw [if_neg h, decide_eq_false (fun q : Kn op => h q.1)]
theorem kn_of (op : Int) (h : argT op ≠ 0) : Kn op := Decidable.byContradiction fun n => h (argT_un op n)
theorem rright_f (K : Nat) (op a : Int) : confidantref5_Right.f K op a = some (decide (Rt op a)) := by
  unfold confidantref5_Right.f
  simp only [rknown_f, rarg_f, b1, decide_eq_true_eq]
  by_cases h0 : argT op = 0
  · rw [if_pos h0]
    by_cases h : Kn op
    · rw [if_pos h]; congr 1; exact decide_eq_decide.2 ⟨fun q => (⟨h, fun _ => q, fun n => absurd h0 n⟩ : Rt op a), fun q => q.2.1 h0⟩
    · rw [if_neg h, decide_eq_false (fun q : Rt op a => h q.1)]
  · rw [if_neg h0]
    have h := kn_of op h0
    by_cases h1 : argT op = 1
    · rw [if_pos h1, decide_eq_true (show Rt op a from ⟨h, fun n => absurd n h0, fun _ n => absurd h1 n⟩)]
    · rw [if_neg h1]; congr 1; exact decide_eq_decide.2 ⟨fun q => (⟨h, fun n => absurd n h0, fun _ _ => q⟩ : Rt op a), fun q => q.2.2 h0 h1⟩
theorem rput_i (K : Nat) (hK : 20 ≤ K) (op a : Int) : confidantref5_Put.f K op a = some (if Rt op a then encs (ns op a) else []) := by
  unfold confidantref5_Put.f confidantref1_Int.f
  simp only [rright_f, rarg_f, b1, lt, decide_eq_true_eq]
  by_cases h : Rt op a
  · rw [if_pos h, if_pos h, wop op h.1, wuu]
    have hp := rput_f K (ns op a) (ns_u op a h.1) (by have := (ns_len op a).2; omega) (by omega) (by have := (ns_len op a).2; omega)
    unfold ns at hp ⊢
    by_cases h0 : argT op = 0
    · rw [if_pos h0] at hp ⊢
      rw [if_pos h0, show ([(op.toNat : Int)] : List Int) = ints [op.toNat] from rfl, hp]
    · rw [if_neg h0] at hp ⊢
      rw [if_neg h0, show ([(op.toNat : Int), (u32n a : Int)] : List Int) = ints [op.toNat, u32n a] from rfl, hp]
  · rw [if_neg h, if_neg h]
theorem rnames_f (K : Nat) : confidantref5_names.f K = some NM := (rfl : confidantref5_names.f K = confidantref5_names.f 0).trans (by kernel_rfl)
theorem rname_f (K : Nat) (op : Int) (h : Kn op) : confidantref5_Name.f K op = some (nameT op) := by
  unfold confidantref5_Name.f
  rw [rknown_f, decide_eq_true h]
  simp only [b1, rnames_f]
  have hl := nm_len
  unfold Kn at h
  rw [if_pos trivial, w64_id (by omega) (by omega), if_pos (by omega), if_pos (by omega)]
  rfl
theorem rtext_f (K : Nat) (hK : 30 ≤ K) (op a : Int) (ha : i32r a) : confidantref5_Text.f K op a = some (if Rt op a then textL op a else ⟨#[]⟩) := by
  unfold confidantref5_Text.f
  simp only [rright_f, b1, decide_eq_true_eq]
  by_cases h : Rt op a
  · rw [if_pos h, if_pos h, rname_f K op h.1]
    have hs := name_size op h.1
    have hi := itoaL_size a ha
    have h32 : (⟨#[32]⟩ : ByteArray).size = 1 := rfl
    have hw : IntKind.i64.wrap a = a := by unfold i32r at ha; exact w64_id (by omega) (by omega)
    have hd := decimal_f K hK a (by unfold i32r at ha; omega)
    simp only [rarg_f, hw, hd]
    unfold textL
    by_cases h0 : argT op = 0
    · rw [if_pos h0, if_pos h0]
    · rw [if_neg h0, if_neg h0, if_pos (by rw [h32]; omega), if_pos (by rw [ByteArray.size_append, h32]; omega), ByteArray.append_assoc]
  · rw [if_neg h, if_neg h]
end Go.Proofs.YtiilloijkbabbaaGreatDoor.Ins
