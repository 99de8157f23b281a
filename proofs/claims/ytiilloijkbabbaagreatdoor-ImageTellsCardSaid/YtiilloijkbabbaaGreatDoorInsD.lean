import Derived.Test.YtiilloijkbabbaaGreatDoorG0
import Derived.Test.YtiilloijkbabbaaGreatDoorG2
import Derived.Test.YtiilloijkbabbaaGreatDoorG3
import Derived.Test.YtiilloijkbabbaaGreatDoorInsC
/- The document's reading of texts and bytes. Conditions: in the lemmas. -/
set_option linter.unusedVariables false
set_option linter.unusedSimpArgs false
namespace Go.Proofs.YtiilloijkbabbaaGreatDoor.Ins
open Go Go.Fw Go.RowKit Go.Proofs.YtiilloijkbabbaaGreatDoor.G Go.Proofs.YtiilloijkbabbaaGreatDoor.Pack Go.Proofs.YtiilloijkbabbaaGreatDoor.Txt

/-! ### bytes -/
theorem arg_nn : ∀ i : Fin 26, 0 ≤ argT ((i : Nat) + 1 : Int) := by decide +kernel
theorem argT_nn (op : Int) : 0 ≤ argT op := by
  by_cases h : Kn op
  · obtain ⟨i, rfl⟩ := fin_of op h; exact arg_nn i
  · rw [argT_un op h]; omega
theorem rtake_f (K : Nat) (l : List Int) (e : Int) (hB : IsB l) (hl : l.length ≤ 20000) (hK : 20000 < K) : confidantref5_Take.f K l e = some (tkR (tk l e)) := by
  have h1 := look_ok l e 26 hB
  have hle := look_le l e 26 (by omega) hB
  have n1 := rnum_look K l e 26 (by omega) hB (by omega)
  have n2 := rnum_look K (lookN l e 26).1 (lookN l e 26).2.1 4294967295 (by omega) h1.2.1 (by omega)
  have hw : IntKind.i64.wrap (lookN l e 26).2.2 = (lookN l e 26).2.2 := w64_id (by omega) (by omega)
  unfold confidantref5_Take.f
  rw [n1]
  generalize hv : (lookN l e 26).2.2 = v at *
  have e1 : lookN l e 26 = ((lookN l e 26).1, (lookN l e 26).2.1, v) := by rw [← hv]
  rw [e1]
  have tail : ∀ (L : List Int) (E A : Int), (lt (fun (b9 : Bool) => (if b9 = true then (some (L, E, (0 : Int), (0 : Int), false)) else (some (L, E, v, A, true)))) fun c5 => (if E = 0 then (b1 (confidantref5_Right.f K v A) fun (c1 : Bool) => (c5 (!(c1)))) else (c5 true))) = some (tkR (L, E, v, A)) := fun L E A => by
    unfold tkR
    simp only [lt, b1, rright_f]
    by_cases hE : E = 0
    · rw [if_pos hE]
      by_cases hR : Rt v A
      · rw [decide_eq_true hR, if_neg (by simp), if_pos ⟨hE, hR⟩]
      · rw [decide_eq_false hR, if_pos (by simp), if_neg (fun q => hR q.2)]
    · rw [if_neg hE, if_pos trivial, if_neg (fun q => hE q.1)]
  simp only [b3, hw, rarg_f, b1]
  unfold tk
  rw [hv]
  have hnn := argT_nn v
  by_cases h0 : argT v = 0
  · rw [if_neg (fun q : Kn v ∧ argT v ≠ 0 => q.2 h0)]
    have := tail (lookN l e 26).1 (lookN l e 26).2.1 0
    simp only [lt, b1] at this ⊢
    rw [if_neg (by omega)]
    exact this
  · rw [if_pos (show Kn v ∧ argT v ≠ 0 from ⟨kn_of v h0, h0⟩)]
    have := tail (lookN (lookN l e 26).1 (lookN l e 26).2.1 4294967295).1 (lookN (lookN l e 26).1 (lookN l e 26).2.1 4294967295).2.1 (IntKind.i32.wrap (IntKind.u32.wrap (lookN (lookN l e 26).1 (lookN l e 26).2.1 4294967295).2.2))
    simp only [lt, b1] at this ⊢
    rw [if_pos (by omega)]
    unfold confidantref1_Reader_Word.f
    rw [n2]
    exact this
/-! ### names -/
theorem rfind_l (K : Nat) (l : List ByteArray) (hl : l.length ≤ 100) (s : ByteArray) : ∀ (d n i : Nat), i + d = l.length → d < n →
    (∃ k : Nat, k < l.length ∧ (l.getD k ⟨#[]⟩).toList = s.toList ∧ confidantref5_Find.l0 K l s n (i : Int) = some ((k : Int) + 1, true)) ∨
    ((∀ k, i ≤ k → k < l.length → (l.getD k ⟨#[]⟩).toList ≠ s.toList) ∧ confidantref5_Find.l0 K l s n (i : Int) = some (0, false)) := by
  intro d
  induction d with
  | zero =>
    intro n i hd hn
    obtain ⟨n, rfl⟩ : ∃ k, n = k + 1 := ⟨n - 1, by omega⟩
    exact Or.inr ⟨fun k h1 h2 => by omega, by rw [confidantref5_Find.l0.eq_2, if_neg (by omega)]⟩
  | succ d ih =>
    intro n i hd hn
    obtain ⟨n, rfl⟩ : ∃ k, n = k + 1 := ⟨n - 1, by omega⟩
    have hw : IntKind.i64.wrap ((i : Int) + 1) = (i : Int) + 1 := w64_id (by omega) (by omega)
    rw [confidantref5_Find.l0.eq_2, if_pos (by omega), if_pos (by omega), Int.toNat_natCast, hw]
    by_cases h : (l.getD i ⟨#[]⟩).toList = s.toList
    · rw [if_pos (beq_iff_eq.2 h)]
      exact Or.inl ⟨i, by omega, h, rfl⟩
    · rw [if_neg (fun q => h (beq_iff_eq.1 q)), show (i : Int) + 1 = ((i + 1 : Nat) : Int) by omega]
      rcases ih n (i + 1) (by omega) (by omega) with h' | ⟨h1, h2⟩
      · exact Or.inl h'
      · exact Or.inr ⟨fun k hk1 hk2 => by
          by_cases e : k = i
          · subst e; exact h
          · exact h1 k (by omega) hk2, h2⟩
theorem rfind_f (K : Nat) (hK : 27 ≤ K) (s : ByteArray) : (∃ op, Kn op ∧ s.data.toList = (nameT op).data.toList ∧ confidantref5_Find.f K s = some (op, true)) ∨ ((∀ op, Kn op → s.data.toList ≠ (nameT op).data.toList) ∧ confidantref5_Find.f K s = some (0, false)) := by
  have hl := nm_len
  unfold confidantref5_Find.f
  rw [rnames_f]
  simp only [b1]
  rcases rfind_l K NM (by omega) s 26 K 0 (by omega) (by omega) with ⟨k, hk, h0, h1⟩ | ⟨h0, h1⟩
  · rw [show ((0 : Nat) : Int) = 0 from rfl] at h1
    rw [h1]
    refine .inl ⟨(k : Int) + 1, by unfold Kn; omega, ?_, rfl⟩
    rw [ByteArray.toList_eq, ByteArray.toList_eq] at h0
    rw [← h0]
    unfold nameT
    rw [show ((k : Int) + 1 - 1).toNat = k by omega]
  · rw [show ((0 : Nat) : Int) = 0 from rfl] at h1
    rw [h1]
    refine .inr ⟨fun op hop e => ?_, rfl⟩
    unfold Kn at hop
    refine h0 (op - 1).toNat (by omega) (by omega) ?_
    rw [ByteArray.toList_eq, ByteArray.toList_eq]
    unfold nameT at e
    exact e.symm
/-! ### texts -/
theorem split_at (s : ByteArray) : ∃ (A R : List UInt8), (cutA s ⟨#[32]⟩).data.toList = A ∧ (cutB s ⟨#[32]⟩).data.toList = R ∧ (32 : UInt8) ∉ A ∧ s.data.toList.take A.length = A ∧ s.data.toList.drop (A.length + 1) = R ∧ A.length ≤ s.data.toList.length ∧ (A.length = s.data.toList.length ∨ s.data.toList[A.length]? = some 32) := by
  rcases split_sp s.data.toList with h | ⟨a, r, h, ha⟩
  · obtain ⟨c1, c2⟩ := cut_miss s h
    refine ⟨_, _, c1, c2, h, ?_, ?_, Nat.le_refl _, .inl rfl⟩
    · exact List.take_length ..
    · exact List.drop_eq_nil_of_le (by omega)
  · obtain ⟨c1, c2⟩ := cut_hit s a r h ha
    refine ⟨_, _, c1, c2, ha, ?_, ?_, ?_, .inr ?_⟩
    · rw [h]; exact List.take_left ..
    · rw [h, show a ++ 32 :: r = (a ++ [32]) ++ r by simp, show a.length + 1 = (a ++ [32]).length by simp]; exact List.drop_left ..
    · rw [h]; simp
    · rw [h]; simp
theorem sAt_eq (s : ByteArray) (j : Nat) (c : UInt8) (h : s.data.toList[j]? = some c) : sAt s (j : Int) = (c.toNat : Int) := by
  unfold sAt
  rw [Int.toNat_natCast, List.getD_eq_getElem?_getD, h]
  rfl
theorem to_space (K : Nat) (s : ByteArray) (hs : s.size ≤ 100000) (j : Int → Option (Int × Int × Bool)) (A : List UInt8) (hA : (32 : UInt8) ∉ A) (ht : s.data.toList.take A.length = A) (hl : A.length ≤ s.data.toList.length) (he : A.length = s.data.toList.length ∨ s.data.toList[A.length]? = some 32) :
    ∀ (d n i : Nat), i + d = A.length → d < n → confidantref5_Parse.l0 K j s n (i : Int) = j (A.length : Int) := by
  have hsz := size_list s
  intro d
  induction d with
  | zero =>
    intro n i hd hn
    obtain ⟨n, rfl⟩ : ∃ k, n = k + 1 := ⟨n - 1, by omega⟩
    rw [confidantref5_Parse.l0.eq_2]
    simp only [lt]
    have hi : i = A.length := by omega
    subst hi
    rcases he with he | he
    · rw [if_neg (by omega), if_neg (by simp)]
    · have hlt := (List.getElem?_eq_some_iff.1 he).1
      rw [if_pos (by omega), if_pos (by omega), sAt_eq s _ _ he]
      simp
  | succ d ih =>
    intro n i hd hn
    obtain ⟨n, rfl⟩ : ∃ k, n = k + 1 := ⟨n - 1, by omega⟩
    have hw : IntKind.i64.wrap ((i : Int) + 1) = ((i + 1 : Nat) : Int) := by rw [w64_id (by omega) (by omega)]; omega
    have hget : s.data.toList[i]? = A[i]? := by
      rw [← ht, List.getElem?_take, if_pos (by omega)]
    have hAi : A[i]? = some A[i] := List.getElem?_eq_getElem (by omega)
    have hne : A[i] ≠ 32 := fun e => hA (e ▸ List.getElem_mem _)
    have hne2 : A[i].toNat ≠ 32 := fun e => hne (by rw [← UInt8.toNat_inj]; exact e)
    rw [confidantref5_Parse.l0.eq_2]
    simp only [lt]
    rw [if_pos (by omega), if_pos (by omega), sAt_eq s i _ (hget.trans hAi), hw]
    rw [if_pos (by rw [Bool.not_eq_true', decide_eq_false_iff_not]; omega)]
    exact ih n (i + 1) (by omega) (by omega)
theorem digits (K : Nat) (s : ByteArray) (hs : s.size ≤ 100000) (j : Int → Option (Int × Int × Bool)) (n0 : Nat) (hn0 : n0 ≤ 100000) : ∀ (m n v k : Nat), k + m = n0 + 13 → m < n → m ≤ 12 → v < 10 ^ (12 - m) →
    confidantref5_Parse.l1 K s j (n0 : Int) n (v : Int) (k : Int) = j (dfold v ((s.data.toList.drop k).take m) : Int) := by
  have hsz := size_list s
  intro m
  induction m with
  | zero =>
    intro n v k hk hn hm hv
    obtain ⟨n, rfl⟩ : ∃ k, n = k + 1 := ⟨n - 1, by omega⟩
    have hw : IntKind.i64.wrap ((n0 : Int) + 13) = ((n0 + 13 : Nat) : Int) := by rw [w64_id (by omega) (by omega)]; omega
    rw [confidantref5_Parse.l1.eq_2, hw]
    simp only [lt, List.take_zero]
    have : (if (k : Int) < (s.size : Int) then (decide ((k : Int) < ((n0 + 13 : Nat) : Int))) else false) = false := by
      rw [decide_eq_false (by omega)]; simp
    by_cases hlt : (k : Int) < (s.size : Int)
    · rw [if_pos hlt, decide_eq_false (by omega), if_neg (by simp)]; rfl
    · rw [if_neg hlt, if_neg (by simp)]; rfl
  | succ m ih =>
    intro n v k hk hn hm hv
    obtain ⟨n, rfl⟩ : ∃ k, n = k + 1 := ⟨n - 1, by omega⟩
    have hw : IntKind.i64.wrap ((n0 : Int) + 13) = ((n0 + 13 : Nat) : Int) := by rw [w64_id (by omega) (by omega)]; omega
    have hw2 : IntKind.i64.wrap ((k : Int) + 1) = ((k + 1 : Nat) : Int) := by rw [w64_id (by omega) (by omega)]; omega
    rw [confidantref5_Parse.l1.eq_2, hw, hw2]
    simp only [lt]
    by_cases hlt : (k : Int) < (s.size : Int)
    · have hkl : k < s.data.toList.length := by omega
      obtain ⟨c, hc⟩ : ∃ c, s.data.toList[k]? = some c := ⟨_, List.getElem?_eq_getElem hkl⟩
      have hd : s.data.toList.drop k = c :: s.data.toList.drop (k + 1) := by
        rw [List.drop_eq_getElem_cons hkl]
        congr 1
        rw [List.getElem?_eq_getElem hkl] at hc
        exact Option.some.inj hc
      have hc8 : c.toNat < 256 := c.toNat_lt
      have hp : 10 ^ (12 - m) = 10 * 10 ^ (12 - (m + 1)) := by rw [show 12 - m = (12 - (m + 1)) + 1 by omega, Nat.pow_succ]; omega
      have hbig : 10 ^ (12 - (m + 1)) ≤ 10 ^ 11 := Nat.pow_le_pow_right (by decide) (by omega)
      have h11 : (10 : Nat) ^ 11 = 100000000000 := by decide
      rw [if_pos hlt, decide_eq_true (show (k : Int) < ((n0 + 13 : Nat) : Int) by omega), if_pos rfl, if_pos (show (0 : Int) ≤ (k : Int) by omega), if_pos hlt, sAt_eq s k c hc, hd, List.take_succ_cons]
      show _ = j (dfold (if 48 ≤ c.toNat ∧ c.toNat ≤ 57 then 10 * v + (c.toNat - 48) else v) ((s.data.toList.drop (k + 1)).take m) : Int)
      by_cases h48 : (c.toNat : Int) ≥ 48
      · rw [if_pos h48]
        by_cases h57 : (c.toNat : Int) ≤ 57
        · have e : IntKind.i64.wrap (IntKind.i64.wrap (10 * (v : Int)) + IntKind.i64.wrap (IntKind.u8.wrap ((c.toNat : Int) - 48))) = ((10 * v + (c.toNat - 48) : Nat) : Int) := by
            rw [wu8_id (by omega) (by omega), w64_id (x := (c.toNat : Int) - 48) (by omega) (by omega), w64_id (x := 10 * (v : Int)) (by omega) (by omega), w64_id (by omega) (by omega)]
            omega
          rw [decide_eq_true h57, if_pos rfl, if_pos (show (0 : Int) ≤ (k : Int) by omega), if_pos hlt, e, if_pos (show 48 ≤ c.toNat ∧ c.toNat ≤ 57 by omega)]
          exact ih n (10 * v + (c.toNat - 48)) (k + 1) (by omega) (by omega) (by omega) (by omega)
        · rw [decide_eq_false h57, if_neg (by simp), if_neg (show ¬ (48 ≤ c.toNat ∧ c.toNat ≤ 57) by omega)]
          exact ih n v (k + 1) (by omega) (by omega) (by omega) (by omega)
      · rw [if_neg h48, if_neg (by simp), if_neg (show ¬ (48 ≤ c.toNat ∧ c.toNat ≤ 57) by omega)]
        exact ih n v (k + 1) (by omega) (by omega) (by omega) (by omega)
    · rw [if_neg hlt, if_neg (by simp), List.drop_eq_nil_of_le (by omega)]
      simp [dfold]
theorem nDigits_le : ∀ (m u : Nat), u < 10 ^ (m + 1) → Lib.nDigits u ≤ m + 1
  | 0, u, h => by rw [Lib.nDigits_small (by omega)]; omega
  | m + 1, u, h => by
    by_cases h1 : u < 10
    · rw [Lib.nDigits_small h1]; omega
    · rw [Lib.nDigits_big h1]
      have := nDigits_le m (u / 10) (by rw [Nat.pow_succ] at h; omega)
      omega
theorem itoa_len (n : Int) (h : i32r n) : (Lib.itoa n).length ≤ 11 := by
  unfold i32r at h
  have e : (10 : Nat) ^ (9 + 1) = 10000000000 := by decide
  unfold Lib.itoa
  split
  · have := nDigits_le 9 n.natAbs (by omega)
    rw [List.length_cons, Lib.decDigits_length]
    omega
  · have := nDigits_le 9 n.toNat (by omega)
    rw [Lib.decDigits_length]
    omega
/-- does this number make that text? -/
def Pm (op : Int) (s : ByteArray) (x : Int) : Prop := i32r x ∧ (if Rt op x then textL op x else (⟨#[]⟩ : ByteArray)).data.toList = s.data.toList
instance (op : Int) (s : ByteArray) (x : Int) : Decidable (Pm op s x) := by unfold Pm; infer_instance
theorem try_f (K : Nat) (hK : 30 ≤ K) (op x : Int) (s : ByteArray) (d6 : Option (Int × Int × Bool)) :
    (lt (fun (c4 : Bool) => (if c4 = true then (b1 (confidantref5_Text.f K op (IntKind.i32.wrap x)) fun (d8 : ByteArray) => (if (d8.toList == s.toList) = true then (some (op, IntKind.i32.wrap x, true)) else (d6))) else (d6))) fun d7 => (if x ≥ (-2147483648) then (d7 (decide (x ≤ 2147483647))) else (d7 false))) = if Pm op s x then some (op, x, true) else d6 := by
  simp only [lt]
  by_cases h1 : x ≥ -2147483648
  · rw [if_pos h1]
    by_cases h2 : x ≤ 2147483647
    · have hi : i32r x := ⟨h1, h2⟩
      have hw : IntKind.i32.wrap x = x := w32_id (by omega) (by omega)
      rw [decide_eq_true h2, if_pos rfl, hw, rtext_f K hK op x hi]
      simp only [b1]
      by_cases h : (if Rt op x then textL op x else (⟨#[]⟩ : ByteArray)).data.toList = s.data.toList
      · rw [if_pos (by rw [beq_iff_eq, ByteArray.toList_eq, ByteArray.toList_eq]; exact h), if_pos (show Pm op s x from ⟨hi, h⟩)]
      · rw [if_neg (by rw [beq_iff_eq, ByteArray.toList_eq, ByteArray.toList_eq]; exact h), if_neg (fun q : Pm op s x => h q.2)]
    · rw [decide_eq_false h2, if_neg (by simp), if_neg (fun q : Pm op s x => h2 q.1.2)]
  · rw [if_neg h1, if_neg (by simp), if_neg (fun q : Pm op s x => h1 q.1.1)]
theorem tries (K : Nat) (hK : 30 ≤ K) (op V : Int) (s : ByteArray) (b9 : List Int → Option (Int × Int × Bool)) : confidantref5_Parse.l2 K [V, -V] op s b9 K 0 = if Pm op s V then some (op, V, true) else if Pm op s (-V) then some (op, -V, true) else b9 [V, -V] := by
  obtain ⟨n, rfl⟩ : ∃ k, K = k + 3 := ⟨K - 3, by omega⟩
  have w1 : IntKind.i64.wrap ((0 : Int) + 1) = 1 := by rw [w64_id (by omega) (by omega)]; rfl
  have w2 : IntKind.i64.wrap ((1 : Int) + 1) = 2 := by rw [w64_id (by omega) (by omega)]; rfl
  have e2 : confidantref5_Parse.l2 (n + 3) [V, -V] op s b9 (n + 1) 2 = b9 [V, -V] := by
    rw [confidantref5_Parse.l2.eq_2, if_neg (by simp)]
  have e1 : confidantref5_Parse.l2 (n + 3) [V, -V] op s b9 (n + 2) 1 = if Pm op s (-V) then some (op, -V, true) else b9 [V, -V] := by
    rw [confidantref5_Parse.l2.eq_2, if_pos (by simp), w2, e2]
    exact try_f (n + 3) hK op (-V) s (b9 [V, -V])
  rw [confidantref5_Parse.l2.eq_2, if_pos (by simp), w1, e1]
  exact try_f (n + 3) hK op V s _
theorem pm_of (op : Int) (s : ByteArray) (x : Int) (hne : s.data.toList ≠ []) (h : Pm op s x) : i32r x ∧ Rt op x ∧ textL op x = s := by
  refine ⟨h.1, ?_⟩
  have h2 := h.2
  by_cases hr : Rt op x
  · rw [if_pos hr] at h2; exact ⟨hr, eq_of_list h2⟩
  · rw [if_neg hr] at h2; exact absurd h2.symm hne
theorem rparse_f (K : Nat) (hK : 2000 ≤ K) (s : ByteArray) (hs : s.size ≤ 1000) :
    (∃ op a, i32r a ∧ Rt op a ∧ textL op a = s ∧ confidantref5_Parse.f K s = some (op, a, true)) ∨ ((∀ op a, i32r a → Rt op a → textL op a ≠ s) ∧ confidantref5_Parse.f K s = some (0, 0, false)) := by
  have hsz := size_list s
  obtain ⟨A, R, hA, hR, hno, ht, hd, hl, he⟩ := split_at s
  have hx : (s.extract 0 ((A.length : Nat) : Int).toNat).data.toList = A := by
    rw [Int.toNat_natCast, Lib.extract_data, List.drop_zero, Nat.sub_zero, ht]
  unfold confidantref5_Parse.f
  simp only [lt]
  rw [show (0 : Int) = ((0 : Nat) : Int) from rfl, to_space K s (by omega) _ A hno ht hl he A.length K 0 (by omega) (by omega)]
  rw [if_pos (show ((0 : Nat) : Int) ≤ (A.length : Int) by omega), if_pos (by omega)]
  rcases rfind_f K (by omega) (s.extract 0 ((A.length : Nat) : Int).toNat) with ⟨op, hop, hn, hf⟩ | ⟨hnf, hf⟩
  · rw [hf]
    rw [hx] at hn
    simp only [b2]
    rw [if_pos trivial]
    have hw : IntKind.i64.wrap ((A.length : Int) + 1) = ((A.length + 1 : Nat) : Int) := by rw [w64_id (by omega) (by omega)]; omega
    have hdig := digits K s (by omega) (fun (b0 : Int) => (confidantref5_Parse.l2 K [b0, IntKind.i64.wrap (((0 : Nat) : Int) - b0)] op s (fun (c7 : List Int) => (some (((0 : Nat) : Int), ((0 : Nat) : Int), false))) K ((0 : Nat) : Int))) A.length (by omega) 12 K 0 (A.length + 1) (by omega) (by omega) (by omega) (by decide)
    rw [hw, hdig, hd]
    have hbound : ∀ (l : List UInt8) (v m : Nat), l.length ≤ m → v < 10 ^ (12 - m) → m ≤ 12 → dfold v l < 10 ^ 12 := by
      intro l
      induction l with
      | nil => intro v m _ hv hm; exact Nat.lt_of_lt_of_le hv (Nat.pow_le_pow_right (by decide) (by omega))
      | cons c l ih =>
        intro v m hlm hv hm
        obtain ⟨m, rfl⟩ : ∃ k, m = k + 1 := ⟨m - 1, by simp at hlm; omega⟩
        have hp : 10 ^ (12 - m) = 10 * 10 ^ (12 - (m + 1)) := by rw [show 12 - m = (12 - (m + 1)) + 1 by omega, Nat.pow_succ]; omega
        show dfold (if 48 ≤ c.toNat ∧ c.toNat ≤ 57 then 10 * v + (c.toNat - 48) else v) l < _
        refine ih _ m (by simpa using hlm) ?_ (by omega)
        split <;> omega
    have hb := hbound (R.take 12) 0 12 (by simp; omega) (by decide) (by omega)
    have h12 : (10 : Nat) ^ 12 = 1000000000000 := by decide
    generalize hV : dfold 0 (R.take 12) = V at *
    have hneg : IntKind.i64.wrap (((0 : Nat) : Int) - (V : Int)) = -(V : Int) := by rw [w64_id (by omega) (by omega)]; omega
    rw [hneg]
    have htr := tries K (by omega) op (V : Int) s (fun (c7 : List Int) => (some (((0 : Nat) : Int), ((0 : Nat) : Int), false)))
    simp only [Int.natCast_zero] at htr ⊢
    rw [htr]
    have hne : s.data.toList ≠ [] := fun e => by
      have hp := (name_size op hop).1
      rw [e] at ht
      rw [List.take_nil] at ht
      rw [← ht] at hn
      have := size_list (nameT op)
      rw [← hn] at this
      simp at this
      omega
    by_cases p1 : Pm op s (V : Int)
    · rw [if_pos p1]
      obtain ⟨q1, q2, q3⟩ := pm_of op s _ hne p1
      exact .inl ⟨op, _, q1, q2, q3, rfl⟩
    · rw [if_neg p1]
      by_cases p2 : Pm op s (-(V : Int))
      · rw [if_pos p2]
        obtain ⟨q1, q2, q3⟩ := pm_of op s _ hne p2
        exact .inl ⟨op, _, q1, q2, q3, rfl⟩
      · rw [if_neg p2]
        refine .inr ⟨fun p b hb2 hRt hT => ?_, rfl⟩
        obtain ⟨c1, c2⟩ := text_cut p b hRt.1 s hT
        have hpo := name_inj op p hop hRt.1 (hn.symm.trans (hA.symm.trans c1))
        subst hpo
        have hab : V = b.natAbs := by
          rw [← hV, ← hR, c2]
          by_cases h0 : argT op = 0
          · rw [if_pos h0, hRt.2.1 h0]; rfl
          · rw [if_neg h0, List.take_of_length_le (by have := itoa_len b hb2; omega), dfold_itoa]
        have pm : Pm op s b := ⟨hb2, by rw [if_pos hRt, hT]⟩
        by_cases hbn : b < 0
        · have : -(V : Int) = b := by omega
          exact p2 (by rw [this]; exact pm)
        · have : (V : Int) = b := by omega
          exact p1 (by rw [this]; exact pm)
  · rw [hf]
    simp only [b2]
    rw [if_neg (by simp)]
    refine .inr ⟨fun p b hb2 hRt hT => ?_, rfl⟩
    obtain ⟨c1, c2⟩ := text_cut p b hRt.1 s hT
    exact hnf p hRt.1 (by rw [hx, ← hA]; exact c1)
theorem parse_same (K : Nat) (hK : 2000 ≤ K) (s : ByteArray) (hs : s.size ≤ 1000) : ∃ op a b, instr_Parse.f K s = some (op, a, b) ∧ confidantref5_Parse.f K s = some (op, a, b) := by
  rcases parse_f K (by omega) s (by omega) with ⟨op, a, h1, h2, h3, h4⟩ | ⟨h1, h2⟩ <;> rcases rparse_f K hK s hs with ⟨p, b, g1, g2, g3, g4⟩ | ⟨g1, g2⟩
  · obtain ⟨e1, e2⟩ := text_inj op a p b h2 g2 (h3.trans g3.symm)
    subst e1 e2
    exact ⟨_, _, _, h4, g4⟩
  · exact absurd h3 (g1 op a h1 h2)
  · exact absurd g3 (h1 p b g1 g2)
  · exact ⟨_, _, _, h2, g2⟩
end Go.Proofs.YtiilloijkbabbaaGreatDoor.Ins
