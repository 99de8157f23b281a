import Derived.Test.YtocdpimpkifdmaaDoorG0
import Derived.Test.YtocdpimpkifdmaaDoorPack
import Derived.Lib.ItoaLen
/- Events: which may be, their bytes, their texts. Conditions: in the lemmas. -/
set_option linter.unusedVariables false
set_option linter.unusedSimpArgs false
namespace Go.Proofs.YtocdpimpkifdmaaDoor.Trace
open Go Go.Fw Go.RowKit Go.Proofs.YtocdpimpkifdmaaDoor.G Go.Proofs.YtocdpimpkifdmaaDoor.Pack

/-- an event that may be -/
def Rt (e : S28) : Prop := (0 ≤ e.f0 ∧ e.f0 ≤ 65536) ∧ (0 ≤ e.f1 ∧ e.f1 ≤ 15) ∧ (1 ≤ e.f2 ∧ e.f2 ≤ 11) ∧ (0 ≤ e.f3 ∧ e.f3 ≤ 7) ∧ 0 ≤ e.f4
instance (e : S28) : Decidable (Rt e) := by unfold Rt; infer_instance
theorem within_f (K : Nat) (x a b : Int) : trace_Right_1.f K x a b = some (decide (a ≤ x ∧ x ≤ b)) := by
  unfold trace_Right_1.f
  by_cases h : x ≥ a
  · rw [if_pos h]; congr 1; exact decide_eq_decide.2 ⟨fun q => ⟨h, q⟩, fun q => q.2⟩
  · rw [if_neg h, decide_eq_false (fun q => h q.1)]
theorem right_f (K : Nat) (e : S28) : trace_Right.f K e = some (decide (Rt e)) := by
  unfold trace_Right.f
  simp only [within_f, b1, decide_eq_true_eq]
  have no : ¬ Rt e → some false = some (decide (Rt e)) := fun h => by rw [decide_eq_false h]
  by_cases h0 : 0 ≤ e.f0 ∧ e.f0 ≤ 65536
  · rw [if_pos h0]
    by_cases h1 : 0 ≤ e.f1 ∧ e.f1 ≤ 15
    · rw [if_pos h1]
      by_cases h2 : 1 ≤ e.f2 ∧ e.f2 ≤ 11
      · rw [if_pos h2]
        by_cases h3 : 0 ≤ e.f3 ∧ e.f3 ≤ 7
        · rw [if_pos h3]
          by_cases h4 : e.f4 ≥ 0
          · rw [decide_eq_true h4, decide_eq_true (show Rt e from ⟨h0, h1, h2, h3, h4⟩)]
          · rw [decide_eq_false h4]; exact no (fun q => h4 q.2.2.2.2)
        · rw [if_neg h3]; exact no (fun q => h3 q.2.2.2.1)
      · rw [if_neg h2]; exact no (fun q => h2 q.2.2.1)
    · rw [if_neg h1]; exact no (fun q => h1 q.2.1)
  · rw [if_neg h0]; exact no (fun q => h0 q.1)

/-! ### bytes -/
def i32r (x : Int) : Prop := -2147483648 ≤ x ∧ x ≤ 2147483647
/-- of 32 bits -/
def Sm (e : S28) : Prop := i32r e.f4 ∧ i32r e.f5 ∧ i32r e.f6
def u32n (x : Int) : Nat := (x % 4294967296).toNat
def ns (e : S28) : List Nat := [e.f0.toNat, e.f1.toNat, e.f2.toNat, e.f3.toNat, e.f4.toNat, u32n e.f5, u32n e.f6]
theorem ns_u (e : S28) (h : Rt e) (h2 : Sm e) : U64 (ns e) := by
  obtain ⟨h0, h1, h3, h4, h5⟩ := h
  obtain ⟨s4, s5, s6⟩ := h2
  unfold i32r at s4
  intro n hn
  unfold ns u32n at hn
  simp only [List.mem_cons, List.not_mem_nil, or_false] at hn
  rcases hn with rfl | rfl | rfl | rfl | rfl | rfl | rfl <;> omega
theorem row_f (e : S28) (h : Rt e) (h2 : Sm e) : ([IntKind.u64.wrap e.f0, IntKind.u64.wrap e.f1, IntKind.u64.wrap e.f2, IntKind.u64.wrap e.f3, IntKind.u64.wrap e.f4, IntKind.u64.wrap (IntKind.u32.wrap e.f5), IntKind.u64.wrap (IntKind.u32.wrap e.f6)] : List Int) = ints (ns e) := by
  obtain ⟨h0, h1, h3, h4, h5⟩ := h
  obtain ⟨s4, s5, s6⟩ := h2
  unfold i32r at s4
  have k : ∀ x : Int, IntKind.u64.wrap (IntKind.u32.wrap x) = (u32n x : Int) := fun x => by
    have : 0 ≤ x % 4294967296 ∧ x % 4294967296 < 4294967296 := by omega
    rw [wu32, wu64_id (by omega) (by omega)]
    unfold u32n
    omega
  rw [wu64_id (by omega) (by omega), wu64_id (by omega) (by omega), wu64_id (by omega) (by omega), wu64_id (by omega) (by omega), wu64_id (by omega) (by omega), k, k]
  unfold ns ints
  simp only [List.map_cons, List.map_nil, Int.ofNat_eq_natCast]
  rw [Int.toNat_of_nonneg h0.1, Int.toNat_of_nonneg h1.1, Int.toNat_of_nonneg (by omega), Int.toNat_of_nonneg h4.1, Int.toNat_of_nonneg h5]
def body (l : List S28) : List Int := (l.map fun e => encs (ns e)).flatten
theorem body_len : ∀ l : List S28, (body l).length ≤ 77 * l.length
  | [] => by simp [body]
  | e :: l => by
    have h1 := body_len l
    have h2 := encs_len (ns e)
    have h3 : (ns e).length = 7 := rfl
    unfold body at h1 ⊢
    simp only [List.map_cons, List.flatten_cons, List.length_append, List.length_cons]
    omega
theorem body_take (l : List S28) (i : Nat) (h : i < l.length) : body (l.take (i + 1)) = body (l.take i) ++ encs (ns (l.getD i zS28)) := by
  unfold body
  rw [List.take_add_one, List.getElem?_eq_getElem h, List.map_append, List.flatten_append]
  simp [List.getD, h]
/-- all may be -/
def all (l : List S28) : Bool := l.all (fun e => decide (Rt e))
theorem put_l (K : Nat) (hK : 100 ≤ K) (l : List S28) (hl : l.length ≤ 10000) (hs : ∀ e ∈ l, Sm e) (A : List Int) (hA : A.length ≤ 100) : ∀ (d n i : Nat), i + d = l.length → d < n →
    trace_Put.l0 K l n (A ++ body (l.take i)) (i : Int) = some (if all (l.drop i) = true then A ++ body l else []) := by
  intro d
  induction d with
  | zero =>
    intro n i hd hn
    obtain ⟨n, rfl⟩ : ∃ k, n = k + 1 := ⟨n - 1, by omega⟩
    rw [trace_Put.l0.eq_2, if_neg (by omega), List.drop_of_length_le (by omega), if_pos (show all [] = true from rfl), List.take_of_length_le (by omega)]
  | succ d ih =>
    intro n i hd hn
    obtain ⟨n, rfl⟩ : ∃ k, n = k + 1 := ⟨n - 1, by omega⟩
    have hi : i < l.length := by omega
    have hw : IntKind.i64.wrap ((i : Int) + 1) = ((i + 1 : Nat) : Int) := by rw [w64_id (by omega) (by omega)]; omega
    have hsm : Sm (l.getD i zS28) := by
      rw [List.getD_eq_getElem?_getD, List.getElem?_eq_getElem hi]
      exact hs _ (List.getElem_mem hi)
    have hdr : all (l.drop i) = (decide (Rt (l.getD i zS28)) && all (l.drop (i + 1))) := by
      rw [List.drop_eq_getElem_cons hi]
      unfold all
      rw [List.all_cons]
      simp [List.getD, hi]
    rw [trace_Put.l0.eq_2, if_pos (by omega), if_pos (by omega)]
    simp only [Int.toNat_natCast, hw, right_f, b1, decide_eq_true_eq]
    by_cases hr : Rt (l.getD i zS28)
    · rw [if_pos hr, row_f _ hr hsm]
      simp only [lt]
      rw [put_f K (ns (l.getD i zS28)) (ns_u _ hr hsm) (by show 7 ≤ 10000; omega) (by omega) (by show 7 < K; omega)]
      simp only
      have h1 := body_len (l.take i)
      have h2 := encs_len (ns (l.getD i zS28))
      have h3 : (ns (l.getD i zS28)).length = 7 := rfl
      have h4 : (l.take i).length ≤ l.length := by rw [List.length_take]; omega
      rw [if_pos (by rw [List.length_append]; omega), List.append_assoc, ← body_take l i hi, ih n (i + 1) (by omega) (by omega)]
      rw [hdr, decide_eq_true hr, Bool.true_and]
    · rw [if_neg hr, hdr, decide_eq_false hr, Bool.false_and, if_neg (by simp)]
theorem tput_f (K : Nat) (hK : 100 ≤ K) (l : List S28) (hl : l.length ≤ 10000) (hl2 : l.length < K) (hs : ∀ e ∈ l, Sm e) : trace_Put.f K l = some (if all l = true then enc l.length ++ body l else []) := by
  unfold trace_Put.f
  have h1 : ([IntKind.u64.wrap (l.length : Int)] : List Int) = ints [l.length] := by rw [wu64_id (by omega) (by omega)]; rfl
  simp only [lt, h1]
  rw [put_f K [l.length] (fun n hn => by have := List.mem_singleton.1 hn; omega) (by show 1 ≤ 10000; omega) (by omega) (by show 1 < K; omega)]
  simp only [b1]
  have he : encs [l.length] = enc l.length ++ body (l.take 0) := by unfold encs encs body; simp
  have hA := enc_len l.length
  rw [he]
  have := put_l K hK l hl hs (enc l.length) (by omega) l.length K 0 (by omega) hl2
  exact this

/-! ### texts -/
def NM : List (Int × ByteArray) := (trace_names.f 5000).getD []
theorem names_size : ∀ i : Fin 11, 4 ≤ (sget NM ((i : Nat) + 1 : Int)).size ∧ (sget NM ((i : Nat) + 1 : Int)).size ≤ 5 := by decide +kernel
theorem name_size (x : Int) (h : 1 ≤ x ∧ x ≤ 11) : 4 ≤ (sget NM x).size ∧ (sget NM x).size ≤ 5 := by
  have := names_size ⟨(x - 1).toNat, by omega⟩
  have e : (((⟨(x - 1).toNat, by omega⟩ : Fin 11) : Nat) : Int) + 1 = x := by show (((x - 1).toNat : Nat) : Int) + 1 = x; omega
  rw [e] at this
  exact this
theorem itoa_len (n : Int) (h : -9223372036854775808 ≤ n ∧ n ≤ 9223372036854775807) : 1 ≤ (Lib.itoa n).length ∧ (Lib.itoa n).length ≤ 21 := by
  refine ⟨?_, Lib.itoa_length_le n h.1 h.2⟩
  have hd : ∀ u, 1 ≤ (Lib.decDigits u).length := fun u => by rw [Lib.decDigits_length]; exact Lib.nDigits_pos u
  unfold Lib.itoa
  split
  · rw [List.length_cons]; omega
  · exact hd _
def textRow (e : S28) : List ByteArray := [itoaL e.f0, itoaL e.f1, sget NM e.f2, itoaL e.f3, itoaL e.f4, itoaL e.f5, itoaL e.f6]
def textL (e : S28) : ByteArray := joinL (textRow e) ⟨#[32]⟩
theorem text_len (e : S28) (h : Rt e) (h2 : Sm e) : (Lib.join ((textRow e).map (·.data.toList)) [32]).length ≤ 1000 ∧ 16 ≤ (Lib.join ((textRow e).map (·.data.toList)) [32]).length := by
  obtain ⟨h0, h1, h3, h4, h5⟩ := h
  obtain ⟨s4, s5, s6⟩ := h2
  unfold i32r at s4 s5 s6
  have n0 := itoa_len e.f0 (by omega)
  have n1 := itoa_len e.f1 (by omega)
  have n3 := itoa_len e.f3 (by omega)
  have n4 := itoa_len e.f4 (by omega)
  have n5 := itoa_len e.f5 (by omega)
  have n6 := itoa_len e.f6 (by omega)
  have hn := name_size e.f2 h3
  have hns : (sget NM e.f2).data.toList.length = (sget NM e.f2).size := by rw [Array.length_toList]; rfl
  unfold textRow
  simp only [List.map_cons, List.map_nil]
  rw [Lib.join_length]
  simp only [Lib.lens, itoaL, List.length_cons, List.length_nil, List.map_cons, List.map_nil, List.sum_cons, List.sum_nil, List.toList_toArray, hns]
  omega
theorem text_l (K : Nat) (ws : List Int) (hws : ws.length ≤ 10) (hw2 : ∀ x ∈ ws, i32r x) (g : List Int → List ByteArray → Option ByteArray) (A : List ByteArray) (hA : A.length ≤ 10) : ∀ (d n i : Nat), i + d = ws.length → d < n →
    trace_Text.l0 K ws g n (A ++ (ws.take i).map itoaL) (i : Int) = g ws (A ++ ws.map itoaL) := by
  intro d
  induction d with
  | zero =>
    intro n i hd hn
    obtain ⟨n, rfl⟩ : ∃ k, n = k + 1 := ⟨n - 1, by omega⟩
    rw [trace_Text.l0.eq_2, if_neg (by omega), List.take_of_length_le (by omega)]
  | succ d ih =>
    intro n i hd hn
    obtain ⟨n, rfl⟩ : ∃ k, n = k + 1 := ⟨n - 1, by omega⟩
    have hi : i < ws.length := by omega
    have hw : IntKind.i64.wrap ((i : Int) + 1) = ((i + 1 : Nat) : Int) := by rw [w64_id (by omega) (by omega)]; omega
    have hx := hw2 _ (List.getElem_mem hi)
    unfold i32r at hx
    have hg : ws.getD i 0 = ws[i] := by simp [List.getD, hi]
    have hwx : IntKind.i64.wrap ws[i] = ws[i] := w64_id (by omega) (by omega)
    have hok : i64ok ws[i] = true := decide_eq_true (by omega)
    rw [trace_Text.l0.eq_2, if_pos (by omega), if_pos (by omega)]
    simp only [Int.toNat_natCast, hw, hg, hwx, lt, List.length_singleton]
    have ht : (ws.take (i + 1)).map itoaL = (ws.take i).map itoaL ++ [itoaL ws[i]] := by
      rw [List.take_add_one, List.getElem?_eq_getElem hi, List.map_append]; rfl
    have hl : ((ws.take i).map itoaL).length ≤ 10 := by rw [List.length_map, List.length_take]; omega
    rw [if_pos hok, if_pos (by rw [List.length_append]; omega), List.append_assoc, ← ht]
    exact ih n (i + 1) (by omega) (by omega)
theorem text_f (K : Nat) (hK : 100 ≤ K) (hnm : trace_names.f K = some NM) (e : S28) (h2 : Sm e) : trace_Text.f K e = some (if Rt e then textL e else ⟨#[]⟩) := by
  unfold trace_Text.f
  simp only [right_f, b1, decide_eq_true_eq]
  by_cases h : Rt e
  · rw [if_pos h, if_pos h]
    have hr := h
    obtain ⟨h0, h1, h3, h4, h5⟩ := h
    have hs := h2
    obtain ⟨s4, s5, s6⟩ := h2
    unfold i32r at s4 s5 s6
    have k0 : i64ok e.f0 = true := decide_eq_true (by omega)
    have k1 : i64ok e.f1 = true := decide_eq_true (by omega)
    have w3 : IntKind.i32.wrap e.f3 = e.f3 := w32_id (by omega) (by omega)
    simp only [lt, w3, hnm]
    rw [if_pos k0, if_pos k1]
    have hl := text_l K [e.f3, e.f4, e.f5, e.f6] (by simp) (by
      intro x hx
      simp only [List.mem_cons, List.not_mem_nil, or_false] at hx
      unfold i32r
      rcases hx with rfl | rfl | rfl | rfl <;> omega) (fun c7 b0 => if joinOk b0 (⟨#[32]⟩ : ByteArray) = true then some (joinL b0 (⟨#[32]⟩ : ByteArray)) else none) [itoaL e.f0, itoaL e.f1, sget NM e.f2] (by simp) 4 K 0 (by simp) (by omega)
    refine hl.trans ?_
    have hrow : [itoaL e.f0, itoaL e.f1, sget NM e.f2] ++ [e.f3, e.f4, e.f5, e.f6].map itoaL = textRow e := rfl
    rw [hrow]
    have ht := text_len e hr hs
    have hj : joinOk (textRow e) (⟨#[32]⟩ : ByteArray) = true := decide_eq_true ⟨by show 7 ≤ 16777216; omega, by show (Lib.join ((textRow e).map (·.data.toList)) [32]).length ≤ _; omega⟩
    rw [if_pos hj]
    rfl
  · rw [if_neg h, if_neg h]
theorem text_size (e : S28) (h : Rt e) (h2 : Sm e) : 16 ≤ (textL e).size := (text_len e h h2).2
end Go.Proofs.YtocdpimpkifdmaaDoor.Trace
