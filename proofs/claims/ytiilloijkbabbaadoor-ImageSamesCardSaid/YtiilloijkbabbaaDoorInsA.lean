import Derived.Test.YtiilloijkbabbaaDoorG0
import Derived.Test.YtiilloijkbabbaaDoorPack2
import Derived.Test.YtiilloijkbabbaaDoorTxt
/- Instructions: which may be, their texts. Conditions: in the lemmas. -/
set_option linter.unusedVariables false
set_option linter.unusedSimpArgs false
namespace Go.Proofs.YtiilloijkbabbaaDoor.Ins
open Go Go.Fw Go.RowKit Go.Proofs.YtiilloijkbabbaaDoor.G Go.Proofs.YtiilloijkbabbaaDoor.Pack Go.Proofs.YtiilloijkbabbaaDoor.Txt

theorem size_list (b : ByteArray) : b.data.toList.length = b.size := by rw [Array.length_toList]; rfl
def NM : List ByteArray := (ops_names.f 0).getD []
theorem names_f (K : Nat) : ops_names.f K = some NM := (rfl : ops_names.f K = ops_names.f 0).trans (by kernel_rfl)
theorem nm_len : NM.length = 26 := by kernel_rfl
/-- the kind of an argument -/
def argT (op : Int) : Int := (ops_Arg.f 0 op).getD 0
def nameT (op : Int) : ByteArray := NM.getD (op - 1).toNat ⟨#[]⟩
def Kn (op : Int) : Prop := 1 ≤ op ∧ op ≤ 26
instance (op : Int) : Decidable (Kn op) := by unfold Kn; infer_instance
theorem fin_of (op : Int) (h : Kn op) : ∃ i : Fin 26, op = (i : Nat) + 1 := ⟨⟨(op - 1).toNat, by unfold Kn at h; omega⟩, by show op = (((op - 1).toNat : Nat) : Int) + 1; unfold Kn at h; omega⟩
theorem known_f (K : Nat) (op : Int) : ops_Known.f K op = some (decide (Kn op)) := by
  unfold ops_Known.f
  by_cases h : op ≥ 1
  · rw [if_pos h]; congr 1; exact decide_eq_decide.2 ⟨fun q => (⟨h, q⟩ : Kn op), fun q => q.2⟩
  · rw [if_neg h, decide_eq_false (fun q : Kn op => h q.1)]
theorem arg_fin : ∀ i : Fin 26, ops_Arg.f 0 ((i : Nat) + 1 : Int) = some (argT ((i : Nat) + 1 : Int)) := by decide +kernel
theorem arg_un (op : Int) (h : ¬ Kn op) : ops_Arg.f 0 op = some 0 := by
  unfold ops_Arg.f ops_of.f
  rw [known_f, decide_eq_false h]
  rfl
theorem argT_un (op : Int) (h : ¬ Kn op) : argT op = 0 := by unfold argT; rw [arg_un op h]; rfl
theorem arg_f (K : Nat) (op : Int) : ops_Arg.f K op = some (argT op) := by
  have e : ops_Arg.f K op = ops_Arg.f 0 op := rfl
  rw [e]
  by_cases h : Kn op
  · obtain ⟨i, rfl⟩ := fin_of op h
    exact arg_fin i
  · rw [argT_un op h]; exact arg_un op h
def Rt (op a : Int) : Prop := Kn op ∧ (argT op = 0 → a = 0) ∧ (argT op ≠ 0 → argT op ≠ 1 → 0 ≤ a)
instance (op a : Int) : Decidable (Rt op a) := by unfold Rt; infer_instance
theorem right_f (K : Nat) (op a : Int) : instr_Right.f K op a = some (decide (Rt op a)) := by
  unfold instr_Right.f
  simp only [known_f, arg_f, b1, decide_eq_true_eq]
  by_cases h : Kn op
  · rw [if_pos h]
    by_cases h0 : argT op = 0
    · rw [if_pos h0]; congr 1; exact decide_eq_decide.2 ⟨fun q => ⟨h, fun _ => q, fun n => absurd h0 n⟩, fun q => q.2.1 h0⟩
    · rw [if_neg h0]
      by_cases h1 : argT op = 1
      · rw [if_pos h1, decide_eq_true (show Rt op a from ⟨h, fun n => absurd n h0, fun _ n => absurd h1 n⟩)]
      · rw [if_neg h1]; congr 1; exact decide_eq_decide.2 ⟨fun q => ⟨h, fun n => absurd n h0, fun _ _ => q⟩, fun q => q.2.2 h0 h1⟩
  · rw [if_neg h, decide_eq_false (fun q => h q.1)]
/-! ### names, texts -/
theorem nm_size : ∀ i : Fin 26, 0 < (nameT ((i : Nat) + 1 : Int)).size ∧ (nameT ((i : Nat) + 1 : Int)).size ≤ 20 := by decide +kernel
theorem nm_sp : ∀ i : Fin 26, (32 : UInt8) ∉ (nameT ((i : Nat) + 1 : Int)).data.toList := by decide +kernel
theorem nm_inj : ∀ i j : Fin 26, (nameT ((i : Nat) + 1 : Int)).data.toList = (nameT ((j : Nat) + 1 : Int)).data.toList → i = j := by decide +kernel
theorem name_size (op : Int) (h : Kn op) : 0 < (nameT op).size ∧ (nameT op).size ≤ 20 := by obtain ⟨i, rfl⟩ := fin_of op h; exact nm_size i
theorem name_sp (op : Int) (h : Kn op) : (32 : UInt8) ∉ (nameT op).data.toList := by obtain ⟨i, rfl⟩ := fin_of op h; exact nm_sp i
theorem name_inj (op p : Int) (h : Kn op) (k : Kn p) (e : (nameT op).data.toList = (nameT p).data.toList) : op = p := by
  obtain ⟨i, rfl⟩ := fin_of op h
  obtain ⟨j, rfl⟩ := fin_of p k
  rw [nm_inj i j e]
theorem name_f (K : Nat) (op : Int) (h : Kn op) : ops_Name.f K op = some (nameT op) := by
  unfold ops_Name.f
  rw [known_f, decide_eq_true h]
  simp only [b1, names_f]
  have hl := nm_len
  unfold Kn at h
  rw [if_pos trivial, w64_id (by omega) (by omega), if_pos (by omega), if_pos (by omega)]
  rfl
def textL (op a : Int) : ByteArray := if argT op = 0 then nameT op else nameT op ++ ((⟨#[32]⟩ : ByteArray) ++ itoaL a)
theorem itoaL_data (n : Int) : (itoaL n).data.toList = Lib.itoa n := by unfold itoaL; simp
theorem itoaL_size (n : Int) (h : i32r n) : (itoaL n).size ≤ 21 := by
  unfold i32r at h
  have := Lib.itoa_length_le n (by omega) (by omega)
  show (Lib.itoa n).toArray.size ≤ 21
  rw [List.size_toArray]; exact this
theorem i64_ok (n : Int) (h : i32r n) : i64ok n = true := by
  unfold i32r at h
  have h2 : -9223372036854775808 ≤ n ∧ n ≤ 9223372036854775807 := ⟨by omega, by omega⟩
  unfold i64ok
  rw [decide_eq_true_eq]
  exact h2
theorem empty_app (b : ByteArray) : (⟨#[]⟩ : ByteArray) ++ b = b := by
  apply ByteArray.ext
  simp [ByteArray.data_append]
theorem text_f (K : Nat) (op a : Int) (ha : i32r a) : instr_Text.f K op a = some (if Rt op a then textL op a else ⟨#[]⟩) := by
  unfold instr_Text.f
  simp only [right_f, b1, decide_eq_true_eq]
  by_cases h : Rt op a
  · rw [if_pos h, if_pos h, name_f K op h.1]
    have hs := name_size op h.1
    have hi := itoaL_size a ha
    have h32 : (⟨#[32]⟩ : ByteArray).size = 1 := rfl
    have h00 : (⟨#[]⟩ : ByteArray).size = 0 := rfl
    have hw : IntKind.i64.wrap a = a := by unfold i32r at ha; exact w64_id (by omega) (by omega)
    simp only [arg_f, lt, empty_app, hw]
    rw [if_pos (by rw [h00]; omega)]
    unfold textL
    by_cases h0 : argT op = 0
    · rw [if_pos h0, if_pos h0]
    · rw [if_neg h0, if_neg h0, if_pos (i64_ok a ha), if_pos (by rw [h32]; omega), if_pos (by rw [ByteArray.size_append, h32]; omega)]
  · rw [if_neg h, if_neg h]
theorem text_data (op a : Int) : (textL op a).data.toList = if argT op = 0 then (nameT op).data.toList else (nameT op).data.toList ++ 32 :: Lib.itoa a := by
  unfold textL
  split
  · rfl
  · rw [ByteArray.data_append, ByteArray.data_append, Array.toList_append, Array.toList_append, itoaL_data]
    rfl
theorem text_pos (op a : Int) (h : Kn op) : (textL op a).data.toList ≠ [] := by
  have := (name_size op h).1
  rw [text_data]
  have hn : (nameT op).data.toList ≠ [] := fun e => by
    have : (nameT op).data.toList.length = (nameT op).size := size_list _
    rw [e] at this
    simp at this
    omega
  split
  · exact hn
  · simp
theorem text_cut (op a : Int) (h : Kn op) (s : ByteArray) (hs : textL op a = s) : (cutA s ⟨#[32]⟩).data.toList = (nameT op).data.toList ∧ (cutB s ⟨#[32]⟩).data.toList = if argT op = 0 then [] else Lib.itoa a := by
  subst hs
  have hd := text_data op a
  by_cases h0 : argT op = 0
  · rw [if_pos h0] at hd ⊢
    have := cut_miss (textL op a) (by rw [hd]; exact name_sp op h)
    rw [hd] at this
    exact this
  · rw [if_neg h0] at hd ⊢
    exact cut_hit _ _ _ hd (name_sp op h)
theorem text_inj (op a p b : Int) (h : Rt op a) (k : Rt p b) (e : textL op a = textL p b) : op = p ∧ a = b := by
  have c1 := text_cut op a h.1 _ rfl
  have c2 := text_cut p b k.1 _ rfl
  rw [e] at c1
  have hop := name_inj op p h.1 k.1 (c1.1.symm.trans c2.1)
  subst hop
  refine ⟨rfl, ?_⟩
  by_cases h0 : argT op = 0
  · rw [h.2.1 h0, k.2.1 h0]
  · have := c1.2.symm.trans c2.2
    rw [if_neg h0, if_neg h0] at this
    exact itoa_inj this
/-! ### finding a name -/
theorem find_l (K : Nat) (l : List ByteArray) (hl : l.length ≤ 100) (s : ByteArray) : ∀ (d n i : Nat), i + d = l.length → d < n →
    (∃ k : Nat, k < l.length ∧ s.toList = (l.getD k ⟨#[]⟩).toList ∧ slices_Index_string_string.l0 K l s n (i : Int) = some (k : Int)) ∨
    ((∀ k, i ≤ k → k < l.length → s.toList ≠ (l.getD k ⟨#[]⟩).toList) ∧ slices_Index_string_string.l0 K l s n (i : Int) = some (-1)) := by
  intro d
  induction d with
  | zero =>
    intro n i hd hn
    obtain ⟨n, rfl⟩ : ∃ k, n = k + 1 := ⟨n - 1, by omega⟩
    exact Or.inr ⟨fun k h1 h2 => by omega, by rw [slices_Index_string_string.l0.eq_2, if_neg (by omega)]⟩
  | succ d ih =>
    intro n i hd hn
    obtain ⟨n, rfl⟩ : ∃ k, n = k + 1 := ⟨n - 1, by omega⟩
    have hw : IntKind.i64.wrap ((i : Int) + 1) = (i : Int) + 1 := w64_id (by omega) (by omega)
    rw [slices_Index_string_string.l0.eq_2, if_pos (by omega), if_pos (by omega), Int.toNat_natCast, hw]
    by_cases h : s.toList = (l.getD i ⟨#[]⟩).toList
    · rw [if_pos (beq_iff_eq.2 h)]
      exact Or.inl ⟨i, by omega, h, rfl⟩
    · rw [if_neg (fun q => h (beq_iff_eq.1 q)), show (i : Int) + 1 = ((i + 1 : Nat) : Int) by omega]
      rcases ih n (i + 1) (by omega) (by omega) with h' | ⟨h1, h2⟩
      · exact Or.inl h'
      · exact Or.inr ⟨fun k hk1 hk2 => by
          by_cases e : k = i
          · subst e; exact h
          · exact h1 k (by omega) hk2, h2⟩
theorem find_f (K : Nat) (hK : 27 ≤ K) (s : ByteArray) : (∃ op, Kn op ∧ s.data.toList = (nameT op).data.toList ∧ ops_Find.f K s = some (op, true)) ∨ ((∀ op, Kn op → s.data.toList ≠ (nameT op).data.toList) ∧ ops_Find.f K s = some (0, false)) := by
  have hl := nm_len
  unfold ops_Find.f slices_Index_string_string.f
  rw [names_f]
  simp only [b1]
  rcases find_l K NM (by omega) s 26 K 0 (by omega) (by omega) with ⟨k, hk, h0, h1⟩ | ⟨h0, h1⟩
  · rw [show ((0 : Nat) : Int) = 0 from rfl] at h1
    rw [h1]
    simp only
    rw [if_neg (by omega), w64_id (by omega) (by omega), show (1 : Int) + (k : Int) = (k : Int) + 1 by omega]
    refine .inl ⟨(k : Int) + 1, by unfold Kn; omega, ?_, rfl⟩
    rw [ByteArray.toList_eq, ByteArray.toList_eq] at h0
    rw [h0]
    unfold nameT
    rw [show ((k : Int) + 1 - 1).toNat = k by omega]
  · rw [show ((0 : Nat) : Int) = 0 from rfl] at h1
    rw [h1]
    simp only
    rw [if_pos (by omega)]
    refine .inr ⟨fun op hop e => ?_, rfl⟩
    unfold Kn at hop
    refine h0 (op - 1).toNat (by omega) (by omega) ?_
    rw [ByteArray.toList_eq, ByteArray.toList_eq]
    unfold nameT at e
    exact e
/-! ### a text read as an instruction -/
theorem i32_wrap (x : Int) : i32r (IntKind.i32.wrap x) := by rw [w32]; unfold i32r; omega
theorem eq_of_list {a b : ByteArray} (h : a.data.toList = b.data.toList) : a = b := by
  apply ByteArray.ext
  exact Array.toList_inj.1 h
theorem parse_f (K : Nat) (hK : 27 ≤ K) (s : ByteArray) (hs : s.size < 4294967281) :
    (∃ op a, i32r a ∧ Rt op a ∧ textL op a = s ∧ instr_Parse.f K s = some (op, a, true)) ∨ ((∀ op a, i32r a → Rt op a → textL op a ≠ s) ∧ instr_Parse.f K s = some (0, 0, false)) := by
  have hz : (cutB s (⟨#[32]⟩ : ByteArray)).size ≤ s.size := by
    rw [← size_list, ← size_list]
    rcases split_sp s.data.toList with h | ⟨x, r, h, hx⟩
    · rw [(cut_miss s h).2]; simp
    · rw [(cut_hit s x r h hx).2, h]; simp; omega
  unfold instr_Parse.f
  rw [if_pos hs]
  rcases find_f K hK (cutA s (⟨#[32]⟩ : ByteArray)) with ⟨op, hop, hn, hf⟩ | ⟨hno, hf⟩
  · rw [hf]
    simp only [b2, lt]
    rw [if_pos (by omega), if_pos trivial, text_f K _ _ (i32_wrap _)]
    simp only [b1]
    generalize ha : IntKind.i32.wrap (parseN 32 (cutB s (⟨#[32]⟩ : ByteArray))) = a
    have har : i32r a := by rw [← ha]; exact i32_wrap _
    by_cases hr : Rt op a ∧ textL op a = s
    · rw [if_pos hr.1, hr.2]
      have : (!(s.toList == s.toList)) = false := by simp
      rw [this, if_neg (by simp)]
      exact .inl ⟨op, a, har, hr.1, hr.2, rfl⟩
    · have hne : (if Rt op a then textL op a else (⟨#[]⟩ : ByteArray)) ≠ s := by
        by_cases h1 : Rt op a
        · rw [if_pos h1]; exact fun e => hr ⟨h1, e⟩
        · rw [if_neg h1]
          intro e
          have hp := (name_size op hop).1
          have hc := (cut_miss s (by rw [← e]; simp)).1
          rw [hn, ← e] at hc
          have : (nameT op).data.toList.length = (nameT op).size := size_list _
          rw [hc] at this
          simp at this
          omega
      have hb : (!((if Rt op a then textL op a else (⟨#[]⟩ : ByteArray)).toList == s.toList)) = true := by
        rw [Bool.not_eq_true', beq_eq_false_iff_ne, ByteArray.toList_eq, ByteArray.toList_eq]
        exact fun e => hne (eq_of_list e)
      rw [hb, if_pos rfl]
      refine .inr ⟨fun p b hb2 hR hT => hr ?_, rfl⟩
      obtain ⟨c1, c2⟩ := text_cut p b hR.1 s hT
      have hpo := name_inj op p hop hR.1 (hn.symm.trans c1)
      subst hpo
      have hab : a = b := by
        rw [← ha]
        by_cases h0 : argT op = 0
        · rw [if_pos h0] at c2
          have e : cutB s (⟨#[32]⟩ : ByteArray) = ⟨#[]⟩ := eq_of_list c2
          rw [e, parse_none, hR.2.1 h0]
          rfl
        · rw [if_neg h0] at c2
          have e : cutB s (⟨#[32]⟩ : ByteArray) = itoaL b := eq_of_list (c2.trans (itoaL_data b).symm)
          rw [e, parse_itoa b hb2]
          unfold i32r at hb2
          exact w32_id (by omega) (by omega)
      subst hab
      exact ⟨hR, hT⟩
  · rw [hf]
    simp only [b2, lt]
    rw [if_pos (by omega), if_neg (by simp), if_pos trivial]
    refine .inr ⟨fun p b hb2 hR hT => ?_, rfl⟩
    exact hno p hR.1 (text_cut p b hR.1 s hT).1
theorem parse_text (K : Nat) (hK : 27 ≤ K) (op a : Int) (ha : i32r a) (h : Rt op a) : instr_Parse.f K (textL op a) = some (op, a, true) := by
  have hs : (textL op a).size < 4294967281 := by
    have := name_size op h.1
    have := itoaL_size a ha
    unfold textL
    split
    · omega
    · rw [ByteArray.size_append, ByteArray.size_append]
      have h32 : (⟨#[32]⟩ : ByteArray).size = 1 := rfl
      omega
  rcases parse_f K hK (textL op a) hs with ⟨p, b, hb, hR, hT, hp⟩ | ⟨hno, _⟩
  · obtain ⟨e1, e2⟩ := text_inj p b op a hR h hT
    rw [hp, e1, e2]
  · exact absurd rfl (hno op a ha h)
end Go.Proofs.YtiilloijkbabbaaDoor.Ins
