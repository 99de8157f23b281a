import Derived.Test.YtiilloijkbabbaaDoorG0
import Derived.Test.YtiilloijkbabbaaDoorPack
/- Numbers read; bytes as strings. Conditions: in the lemmas. -/
set_option linter.unusedVariables false
set_option linter.unusedSimpArgs false
namespace Go.Proofs.YtiilloijkbabbaaDoor.Pack
open Go Go.Fw Go.RowKit Go.Proofs.YtiilloijkbabbaaDoor.G

theorem sL7 {a : Nat} (h : a < 144115188075855872) : sL .u64 (a : Int) 7 = ((128 * a : Nat) : Int) := by
  unfold sL
  have : min (Int.toNat 7) IntKind.u64.bits = 7 := by decide
  rw [this, wu64_id (by omega) (by omega)]
  omega
theorem or_nat {x y : Nat} (hx : x < 18446744073709551616) (hy : y < 18446744073709551616) : bO .u64 (x : Int) (y : Int) = ((x ||| y : Nat) : Int) := by
  have h3 : ((BitVec.ofInt 64 (x : Int)) ||| (BitVec.ofInt 64 (y : Int))).toNat = x ||| y := by
    rw [BitVec.toNat_or, BitVec.toNat_ofInt, BitVec.toNat_ofInt]
    have e1 : ((x : Int) % ((2 ^ 64 : Nat) : Int)).toNat = x := by omega
    have e2 : ((y : Int) % ((2 ^ 64 : Nat) : Int)).toNat = y := by omega
    rw [e1, e2]
  have h4 : x ||| y < 2 ^ 64 := Nat.or_lt_two_pow hx hy
  show IntKind.u64.wrap ((((BitVec.ofInt 64 (x : Int)) ||| (BitVec.ofInt 64 (y : Int))).toNat : Nat) : Int) = _
  rw [h3, wu64_id (by omega) (by omega)]
theorem or7 {a c : Nat} (h : a < 144115188075855872) (hc : c < 128) : bO .u64 ((128 * a : Nat) : Int) (c : Int) = ((128 * a + c : Nat) : Int) := by
  rw [or_nat (by omega) (by omega)]
  have := Nat.shiftLeft_add_eq_or_of_lt (b := c) (i := 7) (by omega) a
  rw [Nat.shiftLeft_eq, show a * 2 ^ 7 = 128 * a by omega] at this
  rw [this]
/-- a number read: what is left, the error, the number -/
def rdN (most : Int) : List Int → Nat → Bool → List Int × Int × Int
  | [], _, _ => ([], 21, 0)
  | c :: l, a, first => if (first = true ∧ c = 128) ∨ 144115188075855872 ≤ a then ([], 20, 0) else
      if c < 128 then (if ((128 * a + c.toNat % 128 : Nat) : Int) > most then ([], 22, 0) else (l, 0, ((128 * a + c.toNat % 128 : Nat) : Int))) else rdN most l (128 * a + c.toNat % 128) false
theorem num_0 (K : Nat) (l : List Int) (most : Int) (hl : l.length ≤ 1000000) (hB : IsB l) : ∀ (d m i a : Nat), i + d = l.length → d < m → a < 18446744073709551616 →
    pack_Reader_Num.l0 K l 0 most (some ([], 21, 0)) m (a : Int) (i : Int) = some (rdN most (l.drop i) a (decide (i = 0)))
  | 0, m, i, a, hd, hm, ha => by
    obtain ⟨m, rfl⟩ : ∃ k, m = k + 1 := ⟨m - 1, by omega⟩
    rw [pack_Reader_Num.l0.eq_2, if_neg (by omega), List.drop_of_length_le (by omega)]
    rfl
  | d + 1, m, i, a, hd, hm, ha => by
    obtain ⟨m, rfl⟩ : ∃ k, m = k + 1 := ⟨m - 1, by omega⟩
    have hi : i < l.length := by omega
    have e1 : l.getD (i : Int).toNat 0 = l[i] := by simp [List.getD, hi]
    obtain ⟨c, hc, hc2⟩ := hB _ (List.getElem_mem hi)
    have e2 : l.drop i = (c : Int) :: l.drop (i + 1) := by rw [List.drop_eq_getElem_cons hi, hc]
    have e3 : sR .u64 (a : Int) 57 = ((a / 144115188075855872 : Nat) : Int) := sR_nat a 57 ha
    have e4 : IntKind.i64.wrap ((i : Int) + 1) = ((i + 1 : Nat) : Int) := by rw [w64_id (by omega) (by omega)]; omega
    have e5 : (i : Int) = 0 ↔ i = 0 := by omega
    have e6 : (c : Int) = 128 ↔ c = 128 := by omega
    have e7 : IntKind.u64.wrap ((c % 128 : Nat) : Int) = ((c % 128 : Nat) : Int) := wu64_id (by omega) (by omega)
    rw [pack_Reader_Num.l0.eq_2, if_pos (by omega), e2]
    simp only [lt, e1, hc, e3, e4]
    rw [if_pos (by omega)]
    have hbad : pack_Reader_fail.f K l 0 20 = some ([], 20, 0) := rfl
    have hlong : pack_Reader_fail.f K l 0 22 = some ([], 22, 0) := rfl
    have step : ∀ (f : Bool), ¬ (f = true ∧ (c : Int) = 128) → (i = 0 → f = true) → (i ≠ 0 → f = false) → ¬ 144115188075855872 ≤ a →
        (if bA .u8 (c : Int) 128 = 0 then if bO .u64 (sL .u64 (a : Int) 7) (IntKind.u64.wrap (bN .u8 (c : Int) 128)) > most then b3 (pack_Reader_fail.f K l 0 22) fun t10882 t10883 t10884 => some (t10882, t10883, t10884) else if 0 ≤ ((i + 1 : Nat) : Int) then if ((i + 1 : Nat) : Int) ≤ (l.length : Int) then some (l.drop ((i + 1 : Nat) : Int).toNat, 0, bO .u64 (sL .u64 (a : Int) 7) (IntKind.u64.wrap (bN .u8 (c : Int) 128))) else none else none else pack_Reader_Num.l0 K l 0 most (some ([], 21, 0)) m (bO .u64 (sL .u64 (a : Int) 7) (IntKind.u64.wrap (bN .u8 (c : Int) 128))) ((i + 1 : Nat) : Int)) = some (rdN most ((c : Int) :: l.drop (i + 1)) a f) := by
      intro f h1 h2 h3 h4
      rw [sL7 (by omega), b_not c hc2, e7, or7 (by omega) (by omega), b_and c hc2]
      unfold rdN
      rw [if_neg (c := (f = true ∧ (c : Int) = 128) ∨ 144115188075855872 ≤ a) (fun h => h.elim h1 h4)]
      simp only [Int.toNat_natCast]
      by_cases h5 : c < 128
      · rw [if_pos (c := (if c < 128 then (0 : Int) else 128) = 0) (by rw [if_pos h5]), if_pos (c := (c : Int) < 128) (by omega)]
        by_cases h6 : ((128 * a + c % 128 : Nat) : Int) > most
        · rw [if_pos h6, if_pos h6, hlong]; rfl
        · rw [if_neg h6, if_neg h6, if_pos (by omega), if_pos (by omega)]
      · rw [if_neg (c := (if c < 128 then (0 : Int) else 128) = 0) (by rw [if_neg h5]; decide), if_neg (c := (c : Int) < 128) (by omega), num_0 K l most hl hB d m (i + 1) _ (by omega) (by omega) (by omega)]
        congr 2
    have hz : ((a / 144115188075855872 : Nat) : Int) = 0 ↔ ¬ 144115188075855872 ≤ a := by omega
    have bad : ∀ f : Bool, ((f = true ∧ (c : Int) = 128) ∨ 144115188075855872 ≤ a) → rdN most ((c : Int) :: l.drop (i + 1)) a f = ([], 20, 0) := by
      intro f h
      unfold rdN
      rw [if_pos h]
    by_cases h0 : i = 0
    · rw [if_pos (e5.2 h0), decide_eq_true h0]
      by_cases h1 : (c : Int) = 128
      · rw [if_pos h1, if_pos trivial, hbad, bad true (.inl ⟨rfl, h1⟩)]; rfl
      · rw [if_neg h1]
        by_cases h2 : 144115188075855872 ≤ a
        · rw [if_pos (by rw [decide_eq_false (by rw [hz]; simpa using h2)]; rfl), hbad, bad true (.inr h2)]; rfl
        · rw [if_neg (by rw [decide_eq_true (hz.2 h2)]; decide)]
          exact step true (by simp [h1]) (by simp) (by simp [h0]) h2
    · rw [if_neg (by omega), decide_eq_false h0]
      by_cases h2 : 144115188075855872 ≤ a
      · rw [if_pos (by rw [decide_eq_false (by rw [hz]; simpa using h2)]; rfl), hbad, bad false (.inr h2)]; rfl
      · rw [if_neg (by rw [decide_eq_true (hz.2 h2)]; decide)]
        exact step false (by simp) (by simp [h0]) (by simp) h2
theorem num_f (K : Nat) (l : List Int) (most : Int) (hl : l.length ≤ 1000000) (hB : IsB l) (hK : l.length < K) : pack_Reader_Num.f K l 0 most = some (rdN most l 0 true) := by
  unfold pack_Reader_Num.f
  rw [if_pos rfl]
  exact num_0 K l most hl hB l.length K 0 0 (by omega) hK (by omega)
theorem num_err (K : Nat) (l : List Int) (e most : Int) (he : e ≠ 0) : pack_Reader_Num.f K l e most = some (l, e, 0) := by
  unfold pack_Reader_Num.f
  rw [if_neg he]
/-- a lookN for a number: what is left, the error, the number -/
def lookN (l : List Int) (e most : Int) : List Int × Int × Int := if e = 0 then rdN most l 0 true else (l, e, 0)
theorem num_look (K : Nat) (l : List Int) (e most : Int) (hl : l.length ≤ 1000000) (hB : IsB l) (hK : l.length < K) : pack_Reader_Num.f K l e most = some (lookN l e most) := by
  unfold lookN
  by_cases h : e = 0
  · subst h; rw [if_pos rfl, num_f K l most hl hB hK]
  · rw [if_neg h, num_err K l e most h]
theorem rdN_ok (most : Int) : ∀ (l : List Int) (a : Nat) (f : Bool), IsB l → a < 18446744073709551616 → (rdN most l a f).1.length ≤ l.length ∧ IsB (rdN most l a f).1 ∧ 0 ≤ (rdN most l a f).2.2 ∧ ((rdN most l a f).2.1 ≠ 0 → (rdN most l a f).2.2 = 0) ∧ (rdN most l a f).2.2 < 18446744073709551616
  | [], a, f, _, _ => ⟨Nat.le_refl _, IsB.nil, by simp [rdN], by simp [rdN], by simp [rdN]⟩
  | c :: l, a, f, hB, ha => by
    have hBl : IsB l := fun x hx => hB x (by simp [hx])
    unfold rdN
    split
    · exact ⟨by simp, IsB.nil, by simp, by simp, by simp⟩
    · rename_i h
      have ha2 : a < 144115188075855872 := by
        rcases Nat.lt_or_ge a 144115188075855872 with h2 | h2
        · exact h2
        · exact absurd (.inr h2) h
      split
      · split
        · exact ⟨by simp, IsB.nil, by simp, by simp, by simp⟩
        · exact ⟨by simp, hBl, by simp only; omega, by simp, by simp only; omega⟩
      · obtain ⟨h1, h2, h3, h4, h5⟩ := rdN_ok most l (128 * a + c.toNat % 128) false hBl (by omega)
        exact ⟨by simp; omega, h2, h3, h4, h5⟩
theorem look_ok (l : List Int) (e most : Int) (hB : IsB l) : (lookN l e most).1.length ≤ l.length ∧ IsB (lookN l e most).1 ∧ 0 ≤ (lookN l e most).2.2 ∧ ((lookN l e most).2.1 ≠ 0 → (lookN l e most).2.2 = 0) ∧ (lookN l e most).2.2 < 18446744073709551616 := by
  unfold lookN
  split
  · exact rdN_ok most l 0 true hB (by omega)
  · exact ⟨Nat.le_refl _, hB, by simp, by simp, by simp⟩
theorem rd_hi (most : Int) : ∀ (f m : Nat) (rest : List Int), m ≤ f → m < 18446744073709551616 → rdN most (hi m ++ rest) 0 true = if m = 0 then rdN most rest 0 true else rdN most rest m false
  | f, 0, rest, _, _ => by rw [hi_zero]; rfl
  | 0, m + 1, rest, h, _ => by omega
  | f + 1, m + 1, rest, h, hm => by
    rw [hi_eq hm (by omega), List.append_assoc, rd_hi most f ((m + 1) / 128) _ (by omega) (by omega), if_neg (show ¬ m + 1 = 0 by omega)]
    have e1 : (((m + 1) % 128 + 128 : Nat) : Int).toNat % 128 = (m + 1) % 128 := by omega
    by_cases h0 : (m + 1) / 128 = 0
    · rw [if_pos h0]
      show rdN most ((((m + 1) % 128 + 128 : Nat) : Int) :: rest) 0 true = _
      rw [rdN, if_neg (by omega), if_neg (by omega), e1]
      congr 1
      omega
    · rw [if_neg h0]
      show rdN most ((((m + 1) % 128 + 128 : Nat) : Int) :: rest) ((m + 1) / 128) false = _
      rw [rdN, if_neg (by simp; omega), if_neg (by omega), e1]
      congr 1
      omega
theorem rd_enc (most : Int) (n : Nat) (rest : List Int) (hn : n < 18446744073709551616) : rdN most (enc n ++ rest) 0 true = if (n : Int) > most then ([], 22, 0) else (rest, 0, (n : Int)) := by
  unfold enc
  rw [List.append_assoc, rd_hi most _ (n / 128) _ (Nat.le_refl _) (by omega)]
  have e1 : ((n % 128 : Nat) : Int).toNat % 128 = n % 128 := by omega
  by_cases h0 : n / 128 = 0
  · rw [if_pos h0]
    show rdN most (((n % 128 : Nat) : Int) :: rest) 0 true = _
    rw [rdN, if_neg (by omega), if_pos (by omega), e1, show 128 * 0 + n % 128 = n by omega]
  · rw [if_neg h0]
    show rdN most (((n % 128 : Nat) : Int) :: rest) (n / 128) false = _
    rw [rdN, if_neg (by simp; omega), if_pos (by omega), e1, show 128 * (n / 128) + n % 128 = n by omega]
def bs (l : List Int) : List UInt8 := l.map fun n => UInt8.ofNat n.toNat
theorem bStr_data (l : List Int) : (bStr l).data.toList = bs l := by
  have key : ∀ (l : List Int) (r : ByteArray), (l.foldl (fun r n => r.push (UInt8.ofNat n.toNat)) r).data.toList = r.data.toList ++ bs l := by
    intro l
    induction l with
    | nil => intro r; simp [bs]
    | cons a l ih => intro r; rw [List.foldl_cons, ih]; simp [bs, ByteArray.push]
  have := key l ByteArray.empty
  simpa [bStr] using this
theorem bStr_toList (l : List Int) : (bStr l).toList = bs l := by rw [ByteArray.toList_eq, bStr_data]
theorem bStr_size (l : List Int) : (bStr l).size = l.length := by
  have : (bStr l).data.toList.length = l.length := by rw [bStr_data]; simp [bs]
  simpa using this
theorem bs_inj {a b : List Int} (ha : IsB a) (hb : IsB b) (h : bs a = bs b) : a = b := by
  induction a generalizing b with
  | nil => cases b with
    | nil => rfl
    | cons y b => simp [bs] at h
  | cons x a ih => cases b with
    | nil => simp [bs] at h
    | cons y b =>
      simp only [bs, List.map_cons, List.cons.injEq] at h
      obtain ⟨c, rfl, hc⟩ := ha x (by simp)
      obtain ⟨d, rfl, hd⟩ := hb y (by simp)
      have h1 : c = d := by
        have := congrArg UInt8.toNat h.1
        simp at this
        omega
      rw [h1, ih (fun z hz => ha z (by simp [hz])) (fun z hz => hb z (by simp [hz])) h.2]
theorem bStr_eq {a b : List Int} (ha : IsB a) (hb : IsB b) : ((bStr a).toList == (bStr b).toList) = decide (a = b) := by
  rw [bStr_toList, bStr_toList]
  by_cases h : a = b
  · subst h; simp
  · rw [decide_eq_false h]
    simp only [beq_eq_false_iff_ne, ne_eq]
    exact fun e => h (bs_inj ha hb e)
theorem bStr_self (a : List Int) : ((bStr a).toList == (bStr a).toList) = true := by simp

theorem enc_inj {a b : Nat} {r s : List Int} (ha : a < 18446744073709551616) (hb : b < 18446744073709551616) (h : enc a ++ r = enc b ++ s) : a = b ∧ r = s := by
  have h1 := rd_enc 18446744073709551616 a r ha
  have h2 := rd_enc 18446744073709551616 b s hb
  rw [if_neg (by omega)] at h1 h2
  rw [h, h2] at h1
  simp only [Prod.mk.injEq] at h1
  exact ⟨by omega, h1.1.symm⟩
theorem encs_inj : ∀ {a b : List Nat} {r s : List Int}, a.length = b.length → U64 a → U64 b → encs a ++ r = encs b ++ s → a = b ∧ r = s
  | [], [], r, s, _, _, _, h => ⟨rfl, h⟩
  | x :: a, y :: b, r, s, hl, ha, hb, h => by
    have e1 : encs (x :: a) = enc x ++ encs a := rfl
    have e2 : encs (y :: b) = enc y ++ encs b := rfl
    rw [e1, e2, List.append_assoc, List.append_assoc] at h
    obtain ⟨h1, h2⟩ := enc_inj (ha x (List.mem_cons_self ..)) (hb y (List.mem_cons_self ..)) h
    obtain ⟨h3, h4⟩ := encs_inj (by simpa using hl) (fun n hn => ha n (List.mem_cons_of_mem _ hn)) (fun n hn => hb n (List.mem_cons_of_mem _ hn)) h2
    exact ⟨by rw [h1, h3], h4⟩
  | [], _ :: _, _, _, hl, _, _, _ => by simp at hl
  | _ :: _, [], _, _, hl, _, _, _ => by simp at hl
end Go.Proofs.YtiilloijkbabbaaDoor.Pack
