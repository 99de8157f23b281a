import Derived.Test.YtocdpimpkifdmaaDoorG5
import Derived.Test.YtocdpimpkifdmaaDoorInsD
/- Take and Parse return the documented results for arbitrary, modified and truncated bytes and texts. No condition. -/
set_option linter.unusedVariables false
set_option linter.unusedSimpArgs false
namespace Go.Proofs.YtocdpimpkifdmaaDoor.Pure
open Go Go.Fw Go.RowKit Go.Proofs.YtocdpimpkifdmaaDoor.G Go.Proofs.YtocdpimpkifdmaaDoor.Pack Go.Proofs.YtocdpimpkifdmaaDoor.Txt Go.Proofs.YtocdpimpkifdmaaDoor.Ins

theorem known_r : ∃ K, 5000 ≤ K ∧ confidantlaw6_known.f K = some true := ⟨5000, Nat.le_refl _, by kernel_rfl⟩
theorem seat (K : Nat) (k a : Int) (hk : 0 ≤ k ∧ k ≤ 255) (h : 0 ≤ a ∧ a ≤ 255) : ∃ op x, confidantseat_Instr.f K k a = some (op, x) ∧ i32r x ∧ Rt op x := by
  have e1 : IntKind.i64.wrap ((Int.tmod (IntKind.i64.wrap k) 26) + 1) = k % 26 + 1 := by rw [w64_id (x := k) (by omega) (by omega), Int.tmod_eq_emod_of_nonneg hk.1, w64_id (by omega) (by omega)]
  have e2 : IntKind.i64.wrap (Int.tmod a 12) = a % 12 := by rw [Int.tmod_eq_emod_of_nonneg h.1, w64_id (by omega) (by omega)]
  have hkn : Kn (k % 26 + 1) := by unfold Kn; omega
  unfold confidantseat_Instr.f confidantseat_in.f
  simp only [e1, e2, rarg_f, b1, b2]
  by_cases h0 : argT (k % 26 + 1) = 0
  · rw [if_pos h0]
    exact ⟨_, _, rfl, by rw [w32_id (by omega) (by omega)]; unfold i32r; omega, hkn, fun _ => w32_id (by omega) (by omega), fun n => absurd h0 n⟩
  · rw [if_neg h0]
    exact ⟨_, _, rfl, by rw [w32_id (by omega) (by omega)]; unfold i32r; omega, hkn, fun n => absurd n h0, fun _ _ => by rw [w32_id (by omega) (by omega)]; omega⟩
theorem loop0 (K : Nat) (hK : 5000 ≤ K) (l : List ByteArray) (hl : l.length ≤ 100) (ha : ∀ e ∈ l, e.size ≤ 1000) (g4 : List ByteArray → Option Bool) : ∀ (d n i : Nat), i + d = l.length → d < n → confidantlaw6_InstrReads.l0 K l g4 n (i : Int) = g4 l := by
  intro d
  induction d with
  | zero =>
    intro n i hd hn
    obtain ⟨n, rfl⟩ : ∃ k, n = k + 1 := ⟨n - 1, by omega⟩
    rw [confidantlaw6_InstrReads.l0.eq_2, if_neg (by omega)]
  | succ d ih =>
    intro n i hd hn
    obtain ⟨n, rfl⟩ : ∃ k, n = k + 1 := ⟨n - 1, by omega⟩
    have hw : IntKind.i64.wrap ((i : Int) + 1) = ((i + 1 : Nat) : Int) := by rw [w64_id (by omega) (by omega)]; omega
    have hm : l.getD i ⟨#[]⟩ ∈ l := by
      rw [List.getD_eq_getElem?_getD, List.getElem?_eq_getElem (by omega)]
      exact List.getElem_mem _
    obtain ⟨op, a, b, h1, h2⟩ := parse_same K (by omega) (l.getD i ⟨#[]⟩) (ha _ hm)
    rw [confidantlaw6_InstrReads.l0.eq_2, if_pos (by omega), hw, Int.toNat_natCast, ih n (i + 1) (by omega) (by omega), if_pos (show (0 : Int) ≤ (i : Int) by omega), h1, h2]
    simp [b3, lt]
theorem loop1 (K : Nat) (hK : 5000 ≤ K) (l : List (List Int)) (hl : l.length ≤ 100) (ha : ∀ e ∈ l, IsB e ∧ e.length ≤ 1000) : ∀ (d n i : Nat), i + d = l.length → d < n → confidantlaw6_InstrReads.l1 K l n (i : Int) = some true := by
  intro d
  induction d with
  | zero =>
    intro n i hd hn
    obtain ⟨n, rfl⟩ : ∃ k, n = k + 1 := ⟨n - 1, by omega⟩
    rw [confidantlaw6_InstrReads.l1.eq_2, if_neg (by omega)]
  | succ d ih =>
    intro n i hd hn
    obtain ⟨n, rfl⟩ : ∃ k, n = k + 1 := ⟨n - 1, by omega⟩
    have hw : IntKind.i64.wrap ((i : Int) + 1) = ((i + 1 : Nat) : Int) := by rw [w64_id (by omega) (by omega)]; omega
    have hm : l.getD i [] ∈ l := by
      rw [List.getD_eq_getElem?_getD, List.getElem?_eq_getElem (by omega)]
      exact List.getElem_mem _
    obtain ⟨hB, hz⟩ := ha _ hm
    have h1 := take_f K (l.getD i []) 0 hB hz (by omega)
    have h2 := rtake_f K (l.getD i []) 0 hB hz (by omega)
    rw [confidantlaw6_InstrReads.l1.eq_2, if_pos (by omega), hw, Int.toNat_natCast, ih n (i + 1) (by omega) (by omega), if_pos (show (0 : Int) ≤ (i : Int) by omega)]
    simp only [pack_New.f, b2]
    rw [h1, h2]
    generalize tkR (tk (l.getD i []) 0) = t
    obtain ⟨t1, t2, t3, t4, t5⟩ := t
    simp only [b5, lt, beq_self_eq_true, Bool.and_true, pack_Reader_Left.f, b3]
    cases t5 <;> simp
theorem InstrReads : confidantlaw6_InstrReads.Pure := by
  intro l9 a12 a13 a14 a15 a16 hl9 hw9 h12 h13 h14 h15 h16
  obtain ⟨K, hK, hk⟩ := known_r
  refine ⟨K, ?_⟩
  have u15 := is_u8 h15
  have u16 := is_u8 h16
  unfold confidantlaw6_InstrReads.f
  rw [hk]
  simp only [b1, lt]
  rw [if_pos trivial]
  by_cases g1 : (l9.length : Int) > 40
  · rw [if_pos g1, if_pos trivial]
  · rw [if_neg g1]
    by_cases g2 : (a12.size : Int) > 40
    · rw [decide_eq_true g2, if_pos rfl]
    · rw [decide_eq_false g2, if_neg (by simp)]
      obtain ⟨op, x, hs, hx, hr⟩ := seat K a13 a14 (is_u8 h13) (is_u8 h14)
      rw [hs]
      simp only [b2]
      rw [rtext_f K (by omega) op x hx, rput_i K (by omega), if_pos hr, if_pos hr]
      have ts : (textL op x).size ≤ 100 ∧ 0 < (textL op x).size := by
        have h1 := name_size op hr.1
        have h2 := itoaL_size x hx
        have h32 : (⟨#[32]⟩ : ByteArray).size = 1 := rfl
        unfold textL
        split
        · omega
        · rw [ByteArray.size_append, ByteArray.size_append]; omega
      have hz := put_len op x hr.1
      have hB := encs_B (ns op x)
      have hbl := bytesL_len (textL op x)
      generalize ht : textL op x = t at *
      generalize hb : encs (ns op x) = b at *
      have hw16 : IntKind.i64.wrap a16 = a16 := w64_id (by omega) (by omega)
      have hmod : ∀ n : Nat, 0 < n → 0 ≤ Int.tmod a16 (n : Int) ∧ Int.tmod a16 (n : Int) < (n : Int) := fun n hn => by
        rw [Int.tmod_eq_emod_of_nonneg u16.1]
        exact ⟨Int.emod_nonneg _ (by omega), Int.emod_lt_of_pos _ (by omega)⟩
      have m1 := hmod (bytesL t).length (by omega)
      have m2 := hmod b.length (by omega)
      have s5 : (⟨#[112, 117, 115, 104, 32]⟩ : ByteArray).size = 5 := rfl
      have s6 : (⟨#[112, 117, 115, 104, 32, 48]⟩ : ByteArray).size = 6 := rfl
      have s7 : (⟨#[112, 117, 115, 104, 32, 45, 48]⟩ : ByteArray).size = 7 := rfl
      have s1 : (⟨#[32]⟩ : ByteArray).size = 1 := rfl
      simp only [hw16, List.nil_append, List.length_nil]
      rw [if_pos (by omega), if_neg (by omega), if_pos m1.1, if_pos m1.2, if_pos (by omega), if_neg (by omega), if_pos m2.1, if_pos m2.2]
      rw [if_pos (by rw [s1]; omega), if_pos (by rw [s5]; omega), if_pos (by rw [s6]; omega)]
      have hBx : ∀ p q : Int, ∃ c : Nat, bX .u8 p q = (c : Int) ∧ c < 256 := fun p q => by
        unfold bX
        exact ⟨_, (Int.toNat_of_nonneg (by rw [wu8]; omega)).symm, by rw [wu8]; omega⟩
      have l0 := loop0 K hK [a12, bStr ((bytesL t).set (Int.tmod a16 ((bytesL t).length : Int)).toNat a15), t ++ (⟨#[32]⟩ : ByteArray), (⟨#[112, 117, 115, 104, 32]⟩ : ByteArray) ++ a12, (⟨#[112, 117, 115, 104, 32, 48]⟩ : ByteArray) ++ a12, (⟨#[112, 117, 115, 104, 32, 45, 48]⟩ : ByteArray)] (by simp) (by
        intro e he
        simp only [List.mem_cons, List.not_mem_nil, or_false] at he
        rcases he with rfl | rfl | rfl | rfl | rfl | rfl
        · omega
        · rw [bStr_size, List.length_set]; omega
        · rw [ByteArray.size_append, s1]; omega
        · rw [ByteArray.size_append, s5]; omega
        · rw [ByteArray.size_append, s6]; omega
        · rw [s7]; omega)
      rw [show (0 : Int) = ((0 : Nat) : Int) from rfl, l0 _ 6 K 0 (by simp) (by omega)]
      simp only [Int.natCast_zero]
      rw [if_neg (by omega), if_pos m2.1, if_pos (by omega)]
      have l1 := loop1 K hK [l9, b, b.set (Int.tmod a16 (b.length : Int)).toNat (bX .u8 (b.getD (Int.tmod a16 (b.length : Int)).toNat 0) a15), b.take (Int.tmod a16 (b.length : Int)).toNat] (by simp) (by
        intro e he
        simp only [List.mem_cons, List.not_mem_nil, or_false] at he
        rcases he with rfl | rfl | rfl | rfl
        · exact ⟨IsB.of hw9, by omega⟩
        · exact ⟨hB, by omega⟩
        · refine ⟨fun y hy => ?_, by rw [List.length_set]; omega⟩
          rcases List.mem_or_eq_of_mem_set hy with hy | rfl
          · exact hB y hy
          · exact hBx _ _
        · exact ⟨hB.take _, by rw [List.length_take]; omega⟩) 4 K 0 (by simp) (by omega)
      exact l1
end Go.Proofs.YtocdpimpkifdmaaDoor.Pure
