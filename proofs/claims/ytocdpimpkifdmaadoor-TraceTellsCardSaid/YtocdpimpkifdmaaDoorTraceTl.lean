import Derived.Test.YtocdpimpkifdmaaDoorTrace
import Derived.Test.YtocdpimpkifdmaaDoorG1
import Derived.Test.YtocdpimpkifdmaaDoorG2
/- The document's texts of events. Conditions: in the lemmas. -/
set_option linter.unusedVariables false
set_option linter.unusedSimpArgs false
namespace Go.Proofs.YtocdpimpkifdmaaDoor.Trace
open Go Go.Fw Go.RowKit Go.Proofs.YtocdpimpkifdmaaDoor.G Go.Proofs.YtocdpimpkifdmaaDoor.Pack

def decB (u : Nat) : ByteArray := ⟨(Lib.decDigits u).toArray⟩
theorem digit : ∀ i : Fin 10, (⟨#[48, 49, 50, 51, 52, 53, 54, 55, 56, 57]⟩ : ByteArray).extract (i : Nat) ((i : Nat) + 1) = decB i := by
  intro i
  unfold decB
  rw [Lib.decDigits_one i.isLt]
  revert i
  decide +kernel
theorem decB_size (u : Nat) (h : u < 18446744073709551616) : (decB u).size ≤ 20 := by
  have := Lib.decDigits_length u
  have := Lib.nDigits_le20 u h
  show (Lib.decDigits u).toArray.size ≤ 20
  rw [List.size_toArray]
  omega
theorem dec_f : ∀ (m K u : Nat), u < 10 ^ m → m ≤ K → 1 ≤ m → u < 18446744073709551616 → confidantref5_dec.f K (u : Int) = some (decB u) := by
  intro m
  induction m with
  | zero => intro K u h h1 h2; omega
  | succ m ih =>
    intro K u h h1 h2 h3
    obtain ⟨K, rfl⟩ : ∃ k, K = k + 1 := ⟨K - 1, by omega⟩
    unfold confidantref5_dec.f
    by_cases h10 : u < 10
    · have hw : IntKind.u64.wrap ((u : Int) + 1) = ((u + 1 : Nat) : Int) := by rw [wu64_id (by omega) (by omega)]; omega
      have hs : (⟨#[48, 49, 50, 51, 52, 53, 54, 55, 56, 57]⟩ : ByteArray).size = 10 := rfl
      rw [if_pos (by omega), hw, if_pos (by omega), if_pos (by omega), if_pos (by rw [hs]; omega)]
      exact congrArg some (digit ⟨u, h10⟩)
    · have hm : 1 ≤ m := by
        cases m with
        | zero => simp at h; omega
        | succ m => omega
      have hd : IntKind.u64.wrap (Int.tdiv (u : Int) 10) = ((u / 10 : Nat) : Int) := by rw [Int.tdiv_eq_ediv_of_nonneg (by omega), wu64_id (by omega) (by omega)]; omega
      have hr : Int.tmod (u : Int) 10 = ((u % 10 : Nat) : Int) := by rw [Int.tmod_eq_emod_of_nonneg (by omega)]; omega
      have e1 := ih K (u / 10) (by rw [Nat.pow_succ] at h; omega) (by omega) hm (by omega)
      have e2 := ih K (u % 10) (by have : 10 ^ 1 ≤ 10 ^ m := Nat.pow_le_pow_right (by decide) hm; omega) (by omega) hm (by omega)
      have s1 := decB_size (u / 10) (by omega)
      have s2 := decB_size (u % 10) (by omega)
      rw [if_neg (by omega), hd, hr, e1]
      simp only [b1]
      rw [e2]
      simp only
      rw [if_pos (by omega)]
      congr 1
      unfold decB
      rw [Lib.decDigits_one (Nat.mod_lt u (by decide))]
      conv => rhs; rw [Lib.decDigits, dif_neg h10]
      rw [ByteArray.mk_append_mk]
theorem decimal_f (K : Nat) (hK : 30 ≤ K) (n : Int) (h : -9223372036854775808 ≤ n ∧ n ≤ 9223372036854775807) : confidantref5_Decimal.f K n = some (itoaL n) := by
  unfold confidantref5_Decimal.f itoaL Lib.itoa
  have p : ∀ u : Nat, u < 18446744073709551616 → u < 10 ^ 20 := fun u hu => by
    have : (18446744073709551616 : Nat) ≤ 10 ^ 20 := by decide
    omega
  by_cases hn : n < 0
  · have hw : IntKind.u64.wrap ((IntKind.u64.wrap (IntKind.i64.wrap (0 - (IntKind.i64.wrap (n + 1))))) + 1) = (n.natAbs : Int) := by
      rw [w64_id (x := n + 1) (by omega) (by omega), w64_id (by omega) (by omega), wu64_id (x := 0 - (n + 1)) (by omega) (by omega), wu64_id (by omega) (by omega)]
      omega
    have hs := decB_size n.natAbs (by omega)
    rw [if_pos hn, if_pos hn, hw, dec_f 20 K n.natAbs (p _ (by omega)) (by omega) (by omega) (by omega)]
    simp only [b1]
    have h45 : (⟨#[45]⟩ : ByteArray).size = 1 := rfl
    rw [if_pos (by rw [h45]; omega)]
    rfl
  · have hw : IntKind.u64.wrap n = (n.toNat : Int) := by rw [wu64_id (by omega) (by omega)]; omega
    rw [if_neg hn, if_neg hn, hw, dec_f 20 K n.toNat (p _ (by omega)) (by omega) (by omega) (by omega)]
    rfl
theorem eright_f (K : Nat) (e : S28) : confidantref21_EventRight.f K e = some (decide (Rt e)) := by
  unfold confidantref21_EventRight.f
  have no : ¬ Rt e → some false = some (decide (Rt e)) := fun h => by rw [decide_eq_false h]
  by_cases g0 : e.f0 ≥ 0
  · rw [if_pos g0]
    by_cases g1 : e.f0 ≤ 65536
    · rw [if_pos g1]
      by_cases g2 : e.f1 ≥ 0
      · rw [if_pos g2]
        by_cases g3 : e.f1 < 16
        · rw [if_pos g3]
          by_cases g4 : e.f2 ≥ 1
          · rw [if_pos g4]
            by_cases g5 : e.f2 ≤ 11
            · rw [if_pos g5]
              by_cases g6 : e.f3 ≥ 0
              · rw [if_pos g6]
                by_cases g7 : e.f3 < 8
                · rw [if_pos g7]
                  by_cases g8 : e.f4 ≥ 0
                  · rw [decide_eq_true g8, decide_eq_true (show Rt e from ⟨⟨g0, g1⟩, ⟨g2, by omega⟩, ⟨g4, g5⟩, ⟨g6, by omega⟩, g8⟩)]
                  · rw [decide_eq_false g8]; exact no (fun q => g8 q.2.2.2.2)
                · rw [if_neg g7]; exact no (fun q => g7 (by have := q.2.2.2.1.2; omega))
              · rw [if_neg g6]; exact no (fun q => g6 q.2.2.2.1.1)
            · rw [if_neg g5]; exact no (fun q => g5 q.2.2.1.2)
          · rw [if_neg g4]; exact no (fun q => g4 q.2.2.1.1)
        · rw [if_neg g3]; exact no (fun q => g3 (by have := q.2.1.2; omega))
      · rw [if_neg g2]; exact no (fun q => g2 q.2.1.1)
    · rw [if_neg g1]; exact no (fun q => g1 q.1.2)
  · rw [if_neg g0]; exact no (fun q => g0 q.1.1)
theorem nm_at : ∀ i : Fin 11, ([(⟨#[116, 97, 107, 101]⟩ : ByteArray), (⟨#[115, 116, 101, 97, 108]⟩ : ByteArray), (⟨#[109, 105, 115, 115]⟩ : ByteArray), (⟨#[112, 97, 114, 107]⟩ : ByteArray), (⟨#[119, 97, 107, 101]⟩ : ByteArray), (⟨#[108, 101, 97, 118, 101]⟩ : ByteArray), (⟨#[101, 110, 116, 101, 114]⟩ : ByteArray), (⟨#[102, 111, 114, 107]⟩ : ByteArray), (⟨#[101, 109, 105, 116]⟩ : ByteArray), (⟨#[100, 111, 110, 101]⟩ : ByteArray), (⟨#[102, 97, 105, 108]⟩ : ByteArray)] : List ByteArray).getD i ⟨#[]⟩ = sget NM ((i : Nat) + 1 : Int) := by decide +kernel
theorem etext_f (K : Nat) (hK : 100 ≤ K) (e : S28) (h2 : Sm e) : confidantref21_EventText.f K e = some (if Rt e then textL e else ⟨#[]⟩) := by
  unfold confidantref21_EventText.f
  simp only [eright_f, b1, decide_eq_true_eq]
  by_cases h : Rt e
  · rw [if_pos h, if_pos h]
    obtain ⟨h0, h1, h3, h4, h5⟩ := h
    obtain ⟨s4, s5, s6⟩ := h2
    unfold i32r at s4 s5 s6
    rw [w64_id (x := e.f4) (by omega) (by omega), w64_id (x := e.f5) (by omega) (by omega), w64_id (x := e.f6) (by omega) (by omega), w64_id (x := e.f2 - 1) (by omega) (by omega)]
    rw [decimal_f K (by omega) e.f0 (by omega), decimal_f K (by omega) e.f1 (by omega), decimal_f K (by omega) e.f3 (by omega), decimal_f K (by omega) e.f4 (by omega), decimal_f K (by omega) e.f5 (by omega), decimal_f K (by omega) e.f6 (by omega)]
    have hz : ∀ n : Int, -9223372036854775808 ≤ n ∧ n ≤ 9223372036854775807 → (itoaL n).size ≤ 21 := fun n hn => by
      have := (itoa_len n hn).2
      show (Lib.itoa n).toArray.size ≤ 21
      rw [List.size_toArray]; exact this
    have z0 := hz e.f0 (by omega)
    have z1 := hz e.f1 (by omega)
    have z3 := hz e.f3 (by omega)
    have z4 := hz e.f4 (by omega)
    have z5 := hz e.f5 (by omega)
    have z6 := hz e.f6 (by omega)
    have zn := name_size e.f2 h3
    have hnm := nm_at ⟨(e.f2 - 1).toNat, by omega⟩
    have hi : (((⟨(e.f2 - 1).toNat, by omega⟩ : Fin 11) : Nat) : Int) + 1 = e.f2 := by show (((e.f2 - 1).toNat : Nat) : Int) + 1 = e.f2; omega
    rw [hi] at hnm
    have h32 : (⟨#[32]⟩ : ByteArray).size = 1 := rfl
    simp only [lt, hnm, ByteArray.size_append, h32]
    rw [if_pos (by omega)]
    rw [if_pos (by omega)]
    rw [if_pos (by omega)]
    rw [if_pos (by omega), if_pos (by simp only [List.length_cons, List.length_nil]; omega)]
    rw [if_pos (by omega), if_pos (by omega), if_pos (by omega), if_pos (by omega), if_pos (by omega), if_pos (by omega), if_pos (by omega), if_pos (by omega), if_pos (by omega)]
    congr 1
    apply WideShapes.bytes_inj
    unfold textL joinL textRow Lib.join
    simp [List.intercalate_cons_cons]
  · rw [if_neg h, if_neg h]
end Go.Proofs.YtocdpimpkifdmaaDoor.Trace
