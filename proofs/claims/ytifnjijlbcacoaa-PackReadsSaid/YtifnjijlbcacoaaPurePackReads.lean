import Derived.Test.YtifnjijlbcacoaaPack2
import Derived.Test.YtifnjijlbcacoaaG4
/- What any looks tell of any bytes, and which error is the first. No condition. -/
set_option linter.unusedVariables false
set_option linter.unusedSimpArgs false
namespace Go.Proofs.Ytifnjijlbcacoaa.Pure
open Go Go.Fw Go.RowKit Go.Proofs.Ytifnjijlbcacoaa.G Go.Proofs.Ytifnjijlbcacoaa.Pack

theorem and_nat {x y : Nat} (hx : x < 18446744073709551616) (hy : y < 18446744073709551616) : bA .u64 (x : Int) (y : Int) = ((x &&& y : Nat) : Int) := by
  have h3 : ((BitVec.ofInt 64 (x : Int)) &&& (BitVec.ofInt 64 (y : Int))).toNat = x &&& y := by
    rw [BitVec.toNat_and, BitVec.toNat_ofInt, BitVec.toNat_ofInt]
    have e1 : ((x : Int) % ((2 ^ 64 : Nat) : Int)).toNat = x := by omega
    have e2 : ((y : Int) % ((2 ^ 64 : Nat) : Int)).toNat = y := by omega
    rw [e1, e2]
  have h4 : x &&& y ≤ x := Nat.and_le_left
  show IntKind.u64.wrap ((((BitVec.ofInt 64 (x : Int)) &&& (BitVec.ofInt 64 (y : Int))).toNat : Nat) : Int) = _
  rw [h3, wu64_id (by omega) (by omega)]
theorem and7 {x : Nat} (hx : x < 18446744073709551616) : bA .u64 (x : Int) 127 = ((x % 128 : Nat) : Int) := by
  have := and_nat hx (y := 127) (by omega)
  rw [show ((127 : Nat) : Int) = 127 from rfl] at this
  rw [this]
  have h := Nat.and_two_pow_sub_one_eq_mod x 7
  rw [show (2 : Nat) ^ 7 - 1 = 127 from rfl] at h
  rw [h]

theorem rp_1 (K : Nat) (j : List Int → Option (List Int)) : ∀ (d m y : Nat) (acc : List Int), y < 128 ^ d → d ≤ 9 → d < m → acc.length + d ≤ 1000 → confidantref1_Put.l1 K j m acc (y : Int) = j (hi y ++ acc)
  | 0, m, y, acc, hy, hd, hm, hw => by
    obtain ⟨m, rfl⟩ : ∃ k, m = k + 1 := ⟨m - 1, by omega⟩
    have : y = 0 := by simpa using hy
    subst this
    rw [confidantref1_Put.l1.eq_2, if_neg (by omega)]; rfl
  | d + 1, m, y, acc, hy, hd, hm, hw => by
    obtain ⟨m, rfl⟩ : ∃ k, m = k + 1 := ⟨m - 1, by omega⟩
    have hlt : y < 18446744073709551616 := Nat.lt_of_lt_of_le hy (Nat.le_trans (Nat.pow_le_pow_right (by decide) hd) (by decide))
    rw [confidantref1_Put.l1.eq_2]
    by_cases h0 : y = 0
    · subst h0; rw [if_neg (by omega)]; rfl
    · have e1 : sR .u64 (y : Int) 7 = ((y / 128 : Nat) : Int) := sR_nat y 7 hlt
      have e2 : IntKind.u8.wrap ((y % 128 : Nat) : Int) = ((y % 128 : Nat) : Int) := wu8_id (by omega) (by omega)
      have e3 : y % 128 % 128 = y % 128 := by omega
      rw [if_pos (by omega), and7 hlt, e2, b_or _ (by omega), e1, e3]
      simp only [lt, List.length_cons, List.length_nil]
      rw [if_pos (by omega), rp_1 K j d m (y / 128) _ (Nat.div_lt_of_lt_mul (by rw [Nat.pow_succ, Nat.mul_comm] at hy; exact hy)) (by omega) (by omega) (by simp; omega), hi_eq hlt h0, List.append_assoc]

theorem rp_0 (K : Nat) (ns : List Nat) (hU : U64 ns) (hl : ns.length ≤ 10000) (hK : 12 ≤ K) : ∀ (d m i : Nat), i + d = ns.length → d < m → confidantref1_Put.l0 K (ints ns) m (encs (ns.take i)) (i : Int) = some (encs ns)
  | 0, m, i, hd, hm => by
    obtain ⟨m, rfl⟩ : ∃ k, m = k + 1 := ⟨m - 1, by omega⟩
    have hlen : (ints ns).length = ns.length := by simp [ints]
    rw [confidantref1_Put.l0.eq_2, if_neg (by omega), List.take_of_length_le (by omega)]
  | d + 1, m, i, hd, hm => by
    obtain ⟨m, rfl⟩ : ∃ k, m = k + 1 := ⟨m - 1, by omega⟩
    have hlen : (ints ns).length = ns.length := by simp [ints]
    have hi : i < ns.length := by omega
    have hx : (ints ns).getD (i : Int).toNat 0 = ((ns[i] : Nat) : Int) := by simp [ints, List.getD, hi]
    have hn := hU _ (List.getElem_mem hi)
    have hle := encs_len (ns.take i)
    rw [List.length_take] at hle
    have e1 : sR .u64 ((ns[i] : Nat) : Int) 7 = ((ns[i] / 128 : Nat) : Int) := sR_nat ns[i] 7 hn
    have e2 : IntKind.u8.wrap ((ns[i] % 128 : Nat) : Int) = ((ns[i] % 128 : Nat) : Int) := wu8_id (by omega) (by omega)
    have hd9 : ns[i] / 128 < 128 ^ 9 := Nat.lt_of_lt_of_le (show ns[i] / 128 < 144115188075855872 + 1 by omega) (by decide)
    rw [confidantref1_Put.l0.eq_2, if_pos (by omega)]
    simp only [lt]
    rw [if_pos (by omega), hx, and7 hn, e1, e2, rp_1 K _ 9 K (ns[i] / 128) _ hd9 (by omega) (by omega) (by simp)]
    have he := enc_len ns[i]
    have e3 : Pack.hi (ns[i] / 128) ++ [((ns[i] % 128 : Nat) : Int)] = enc ns[i] := rfl
    rw [e3, if_pos (by omega), w64_id (by omega) (by omega), show ((i : Int) + 1) = ((i + 1 : Nat) : Int) by omega]
    have e7 : encs (ns.take i) ++ enc ns[i] = encs (ns.take (i + 1)) := by
      rw [List.take_add_one, encs_app]
      simp [hi, encs]
    rw [e7]
    exact rp_0 K ns hU hl hK d m (i + 1) (by omega) (by omega)
theorem rput_f (K : Nat) (ns : List Nat) (hU : U64 ns) (hl : ns.length ≤ 10000) (hK : 12 ≤ K) (hK2 : ns.length < K) : confidantref1_Put.f K (ints ns) = some (encs ns) := rp_0 K ns hU hl hK ns.length K 0 (by omega) hK2
theorem rlump_f (K : Nat) (b : List Int) (hb : b.length ≤ 1000000) (hK : 12 ≤ K) : confidantref1_Lump.f K b = some (enc b.length ++ b) := by
  unfold confidantref1_Lump.f
  simp only [lt]
  have e : [IntKind.u64.wrap (b.length : Int)] = ints [b.length] := by rw [wu64_id (by omega) (by omega)]; simp [ints]
  have e2 : encs [b.length] = enc b.length := by simp [encs]
  have := enc_len b.length
  rw [e, rput_f K [b.length] (fun n hn => by rw [List.mem_singleton.1 hn]; omega) (by simp) hK (by simp; omega), e2]
  simp only [b1]
  rw [if_pos (by omega)]

/-! ### reading -/
theorem b_127 : ∀ c : Nat, c < 256 → bA .u8 (c : Int) 127 = ((c % 128 : Nat) : Int) := by decide +kernel

theorem rn_0 (K : Nat) (l : List Int) (most : Int) (hl : l.length ≤ 1000000) (hB : IsB l) : ∀ (d m i a : Nat), i + d = l.length → d < m → a < 18446744073709551616 →
    confidantref1_Reader_Num.l0 K l 0 most (some ([], 21, 0)) m (a : Int) (i : Int) = some (rdN most (l.drop i) a (decide (i = 0)))
  | 0, m, i, a, hd, hm, ha => by
    obtain ⟨m, rfl⟩ : ∃ k, m = k + 1 := ⟨m - 1, by omega⟩
    rw [confidantref1_Reader_Num.l0.eq_2, if_neg (by omega), List.drop_of_length_le (by omega)]
    rfl
  | d + 1, m, i, a, hd, hm, ha => by
    obtain ⟨m, rfl⟩ : ∃ k, m = k + 1 := ⟨m - 1, by omega⟩
    have hi : i < l.length := by omega
    have e1 : l.getD (i : Int).toNat 0 = l[i] := by simp [List.getD, hi]
    obtain ⟨c, hc, hc2⟩ := hB _ (List.getElem_mem hi)
    have e2 : l.drop i = (c : Int) :: l.drop (i + 1) := by rw [List.drop_eq_getElem_cons hi, hc]
    have e4 : IntKind.i64.wrap ((i : Int) + 1) = ((i + 1 : Nat) : Int) := by rw [w64_id (by omega) (by omega)]; omega
    have e5 : (i : Int) = 0 ↔ i = 0 := by omega
    have e7 : IntKind.u64.wrap ((c % 128 : Nat) : Int) = ((c % 128 : Nat) : Int) := wu64_id (by omega) (by omega)
    rw [confidantref1_Reader_Num.l0.eq_2, if_pos (by omega), e2]
    simp only [lt, e1, hc, e4]
    rw [if_pos (by omega)]
    have hbad : confidantref1_Reader_fail.f K l 0 20 = some ([], 20) := rfl
    have hlong : confidantref1_Reader_fail.f K l 0 22 = some ([], 22) := rfl
    have step : ∀ (f : Bool), ¬ (f = true ∧ (c : Int) = 128) → (i = 0 → f = true) → (i ≠ 0 → f = false) → ¬ 144115188075855872 ≤ a →
        (if (c : Int) < 128 then if bO .u64 (sL .u64 (a : Int) 7) (IntKind.u64.wrap (bA .u8 (c : Int) 127)) > most then b2 (confidantref1_Reader_fail.f K l 0 22) fun t9629 t9630 => some (t9629, t9630, 0) else if 0 ≤ ((i + 1 : Nat) : Int) then if ((i + 1 : Nat) : Int) ≤ (l.length : Int) then some (l.drop ((i + 1 : Nat) : Int).toNat, 0, bO .u64 (sL .u64 (a : Int) 7) (IntKind.u64.wrap (bA .u8 (c : Int) 127))) else none else none else confidantref1_Reader_Num.l0 K l 0 most (some ([], 21, 0)) m (bO .u64 (sL .u64 (a : Int) 7) (IntKind.u64.wrap (bA .u8 (c : Int) 127))) ((i + 1 : Nat) : Int)) = some (rdN most ((c : Int) :: l.drop (i + 1)) a f) := by
      intro f h1 h2 h3 h4
      rw [sL7 (by omega), b_127 c hc2, e7, or7 (by omega) (by omega)]
      unfold rdN
      rw [if_neg (c := (f = true ∧ (c : Int) = 128) ∨ 144115188075855872 ≤ a) (fun h => h.elim h1 h4)]
      simp only [Int.toNat_natCast]
      by_cases h5 : (c : Int) < 128
      · rw [if_pos h5, if_pos h5]
        by_cases h6 : ((128 * a + c % 128 : Nat) : Int) > most
        · rw [if_pos h6, if_pos h6, hlong]; rfl
        · rw [if_neg h6, if_neg h6, if_pos (by omega), if_pos (by omega)]
      · rw [if_neg h5, if_neg h5, rn_0 K l most hl hB d m (i + 1) _ (by omega) (by omega) (by omega)]
        congr 2
    have hz : ((a : Nat) : Int) > 144115188075855871 ↔ 144115188075855872 ≤ a := by omega
    have bad : ∀ f : Bool, ((f = true ∧ (c : Int) = 128) ∨ 144115188075855872 ≤ a) → rdN most ((c : Int) :: l.drop (i + 1)) a f = ([], 20, 0) := by
      intro f h
      unfold rdN
      rw [if_pos h]
    by_cases h0 : i = 0
    · rw [if_pos (e5.2 h0), decide_eq_true h0]
      by_cases h1 : (c : Int) = 128
      · rw [if_pos h1, if_pos trivial, hbad, bad true (.inl ⟨rfl, h1⟩)]; rfl
      · rw [if_neg h1]
        by_cases h2 : 144115188075855872 ≤ a
        · rw [if_pos (decide_eq_true (hz.2 h2)), hbad, bad true (.inr h2)]; rfl
        · rw [if_neg (by rw [decide_eq_false (by rw [hz]; exact h2)]; decide)]
          exact step true (by simp [h1]) (by simp) (by simp [h0]) h2
    · rw [if_neg (by omega), decide_eq_false h0]
      by_cases h2 : 144115188075855872 ≤ a
      · rw [if_pos (decide_eq_true (hz.2 h2)), hbad, bad false (.inr h2)]; rfl
      · rw [if_neg (by rw [decide_eq_false (by rw [hz]; exact h2)]; decide)]
        exact step false (by simp) (by simp [h0]) (by simp) h2

/-- a look for a number: what is left, the error, the number -/
def look (l : List Int) (e most : Int) : List Int × Int × Int := if e = 0 then rdN most l 0 true else (l, e, 0)
theorem num_look (K : Nat) (l : List Int) (e most : Int) (hl : l.length ≤ 1000000) (hB : IsB l) (hK : l.length < K) : pack_Reader_Num.f K l e most = some (look l e most) := by
  unfold look
  by_cases h : e = 0
  · subst h; rw [if_pos rfl, num_f K l most hl hB hK]
  · rw [if_neg h, num_err K l e most h]
theorem rnum_look (K : Nat) (l : List Int) (e most : Int) (hl : l.length ≤ 1000000) (hB : IsB l) (hK : l.length < K) : confidantref1_Reader_Num.f K l e most = some (look l e most) := by
  unfold look confidantref1_Reader_Num.f
  by_cases h : e = 0
  · subst h
    rw [if_pos rfl, if_pos rfl]
    exact rn_0 K l most hl hB l.length K 0 0 (by omega) hK (by omega)
  · rw [if_neg h, if_neg h]

theorem rdN_ok (most : Int) : ∀ (l : List Int) (a : Nat) (f : Bool), IsB l → a < 18446744073709551616 → (rdN most l a f).1.length ≤ l.length ∧ IsB (rdN most l a f).1 ∧ 0 ≤ (rdN most l a f).2.2 ∧ ((rdN most l a f).2.1 ≠ 0 → (rdN most l a f).2.2 = 0) ∧ (rdN most l a f).2.2 < 18446744073709551616
  | [], a, f, _, _ => ⟨Nat.le_refl _, IsB.nil, by simp [rdN], by simp [rdN], by simp [rdN]⟩
  | c :: l, a, f, hB, ha => by
    have hBl : IsB l := fun x hx => hB x (by simp [hx])
    unfold rdN
    split
    · exact ⟨by simp, IsB.nil, by simp, by simp, by simp⟩
    · rename_i h
      have ha2 : a < 144115188075855872 := by
        rcases Nat.lt_or_ge a 144115188075855872 with h2 | h2
        · exact h2
        · exact absurd (.inr h2) h
      split
      · split
        · exact ⟨by simp, IsB.nil, by simp, by simp, by simp⟩
        · exact ⟨by simp, hBl, by simp only; omega, by simp, by simp only; omega⟩
      · obtain ⟨h1, h2, h3, h4, h5⟩ := rdN_ok most l (128 * a + c.toNat % 128) false hBl (by omega)
        exact ⟨by simp; omega, h2, h3, h4, h5⟩
theorem look_ok (l : List Int) (e most : Int) (hB : IsB l) : (look l e most).1.length ≤ l.length ∧ IsB (look l e most).1 ∧ 0 ≤ (look l e most).2.2 ∧ ((look l e most).2.1 ≠ 0 → (look l e most).2.2 = 0) ∧ (look l e most).2.2 < 18446744073709551616 := by
  unfold look
  split
  · exact rdN_ok most l 0 true hB (by omega)
  · exact ⟨Nat.le_refl _, hB, by simp, by simp, by simp⟩

/-- a look for a lump -/
def lookL (l : List Int) (e m : Int) : List Int × Int × List Int :=
  let r := look l e (IntKind.u64.wrap (mx m 0))
  if r.2.1 = 0 then (if r.2.2 > (r.1.length : Int) then ([], 21, []) else (r.1.drop r.2.2.toNat, 0, r.1.take r.2.2.toNat)) else (r.1, r.2.1, [])
theorem lump_look (K : Nat) (l : List Int) (e m : Int) (hl : l.length ≤ 1000000) (hB : IsB l) (hK : l.length < K) : pack_Reader_Lump.f K l e m = some (lookL l e m) := by
  unfold pack_Reader_Lump.f lookL
  rw [num_look K l e _ hl hB hK]
  obtain ⟨h1, h2, h3, h4, h5⟩ := look_ok l e (IntKind.u64.wrap (mx m 0)) hB
  generalize look l e (IntKind.u64.wrap (mx m 0)) = r at h1 h2 h3 h4 h5
  obtain ⟨t, e', n⟩ := r
  simp only at h1 h2 h3 h4 h5
  simp only [b3, lt, List.nil_append, List.length_nil, Nat.zero_add]
  rw [wu64_id (by omega) (by omega)]
  by_cases he : e' = 0
  · rw [if_pos he]
    by_cases h6 : n > (t.length : Int)
    · rw [if_pos h6, if_pos h6]; rfl
    · have h7 := List.length_take_le n.toNat t
      rw [if_neg h6, if_neg h6, if_pos (by omega), if_pos (by omega), if_pos (by omega), he]
  · have h6 := h4 he
    subst h6
    rw [if_neg he, if_neg (by omega), if_pos (by omega), if_pos (by omega)]
    simp
theorem rlump_look (K : Nat) (l : List Int) (e m : Int) (hl : l.length ≤ 1000000) (hB : IsB l) (hK : l.length < K) : confidantref1_Reader_Lump.f K l e m = some (lookL l e m) := by
  unfold confidantref1_Reader_Lump.f lookL
  rw [rnum_look K l e _ hl hB hK]
  obtain ⟨h1, h2, h3, h4, h5⟩ := look_ok l e (IntKind.u64.wrap (mx m 0)) hB
  generalize look l e (IntKind.u64.wrap (mx m 0)) = r at h1 h2 h3 h4 h5
  obtain ⟨t, e', n⟩ := r
  simp only at h1 h2 h3 h4 h5
  simp only [b3, lt]
  rw [wu64_id (by omega) (by omega)]
  by_cases he : e' = 0
  · rw [if_pos he, if_pos he]
    by_cases h6 : n > (t.length : Int)
    · rw [if_pos h6, if_pos h6]; rfl
    · rw [if_neg h6, if_neg h6, if_pos (by omega), if_pos (by omega), he]
  · rw [if_neg he, if_neg he]
theorem lookL_ok (l : List Int) (e m : Int) (hB : IsB l) : (lookL l e m).1.length ≤ l.length ∧ IsB (lookL l e m).1 := by
  unfold lookL
  obtain ⟨h1, h2, h3, h4, h5⟩ := look_ok l e (IntKind.u64.wrap (mx m 0)) hB
  simp only
  split
  · split
    · exact ⟨by simp, IsB.nil⟩
    · exact ⟨by simp; omega, h2.drop _⟩
  · exact ⟨h1, h2⟩

/-! ### the law -/
theorem pr_3 (K : Nat) (acts : List S48) (j : List Int → Int → List Int → Int → Option Bool) (hj : ∀ a b, j a b a b = some true) (ha : acts.length ≤ 30) (ho : ∀ x ∈ acts, okS48 x) (hK : 2000 ≤ K) : ∀ (d m i : Nat) (l : List Int) (e : Int), i + d = acts.length → d < m → l.length ≤ 1000 → IsB l →
    confidantlaw1_PackReads.l3 K acts j m l e l e (i : Int) = some true
  | 0, m, i, l, e, hd, hm, hl, hB => by
    obtain ⟨m, rfl⟩ : ∃ k, m = k + 1 := ⟨m - 1, by omega⟩
    rw [confidantlaw1_PackReads.l3.eq_2, if_neg (by omega)]
    exact hj l e
  | d + 1, m, i, l, e, hd, hm, hl, hB => by
    obtain ⟨m, rfl⟩ : ∃ k, m = k + 1 := ⟨m - 1, by omega⟩
    have hi : i < acts.length := by omega
    have e1 : acts.getD (i : Int).toNat zS48 = acts[i] := by simp [List.getD, hi]
    have hok := ho _ (List.getElem_mem hi)
    have hu := is_u64 hok.2.1
    rw [confidantlaw1_PackReads.l3.eq_2, if_pos (by omega), e1]
    simp only [lt]
    rw [if_pos (by omega)]
    have next : ∀ (l' : List Int) (e' : Int), l'.length ≤ 1000 → IsB l' → confidantlaw1_PackReads.l3 K acts j m l' e' l' e' (IntKind.i64.wrap ((i : Int) + 1)) = some true := by
      intro l' e' h1 h2
      rw [w64_id (by omega) (by omega), show ((i : Int) + 1) = ((i + 1 : Nat) : Int) by omega]
      exact pr_3 K acts j hj ha ho hK d m (i + 1) l' e' (by omega) (by omega) h1 h2
    have tail : ∀ (l' : List Int) (e' : Int), l'.length ≤ 1000 → IsB l' → (b3 (pack_Reader_Err.f K l' e') fun t44547 t44548 t44549 => if t44549 = e' then b3 (pack_Reader_Left.f K t44547 t44548) fun t44554 t44555 t44556 => if (!decide (t44556 = (l'.length : Int))) = true then some false else confidantlaw1_PackReads.l3 K acts j m l' e' t44554 t44555 (IntKind.i64.wrap ((i : Int) + 1)) else if True then some false else confidantlaw1_PackReads.l3 K acts j m l' e' t44547 t44548 (IntKind.i64.wrap ((i : Int) + 1))) = some true := by
      intro l' e' h1 h2
      unfold pack_Reader_Err.f pack_Reader_Left.f
      simp only [b3, if_true, decide_true, Bool.not_true, Bool.false_eq_true, if_false]
      exact next l' e' h1 h2
    have body : ∀ q : Int, (if (acts[i]).f0 = true then (fun x44411 => b3 (pack_Reader_Lump.f K l e x44411) fun t44430 t44431 t44432 => b3 (confidantref1_Reader_Lump.f K l e x44411) fun t44438 t44439 t44440 => if ((bStr t44432).toList == (bStr t44440).toList) = true then (b3 (pack_Reader_Err.f K t44430 t44431) fun t44547 t44548 t44549 => if t44549 = t44439 then b3 (pack_Reader_Left.f K t44547 t44548) fun t44554 t44555 t44556 => if (!decide (t44556 = (t44438.length : Int))) = true then some false else confidantlaw1_PackReads.l3 K acts j m t44438 t44439 t44554 t44555 (IntKind.i64.wrap ((i : Int) + 1)) else if True then some false else confidantlaw1_PackReads.l3 K acts j m t44438 t44439 t44547 t44548 (IntKind.i64.wrap ((i : Int) + 1))) else some false) (if sR .u64 q 60 = 15 then -1 else IntKind.i64.wrap (bA .u64 q 4095))
        else b3 (pack_Reader_Num.f K l e q) fun t44489 t44490 t44491 => b3 (confidantref1_Reader_Num.f K l e q) fun t44495 t44496 t44497 => if t44491 = t44497 then (b3 (pack_Reader_Err.f K t44489 t44490) fun t44547 t44548 t44549 => if t44549 = t44496 then b3 (pack_Reader_Left.f K t44547 t44548) fun t44554 t44555 t44556 => if (!decide (t44556 = (t44495.length : Int))) = true then some false else confidantlaw1_PackReads.l3 K acts j m t44495 t44496 t44554 t44555 (IntKind.i64.wrap ((i : Int) + 1)) else if True then some false else confidantlaw1_PackReads.l3 K acts j m t44495 t44496 t44547 t44548 (IntKind.i64.wrap ((i : Int) + 1))) else some false) = some true := by
      intro q
      by_cases hf : (acts[i]).f0 = true
      · rw [if_pos hf]
        simp only
        generalize (if sR .u64 q 60 = 15 then (-1 : Int) else IntKind.i64.wrap (bA .u64 q 4095)) = mm
        rw [lump_look K l e mm (by omega) hB (by omega), rlump_look K l e mm (by omega) hB (by omega)]
        obtain ⟨g1, g2⟩ := lookL_ok l e mm hB
        generalize lookL l e mm = r at g1 g2
        obtain ⟨t, e', b⟩ := r
        simp only [b3]
        rw [if_pos (bStr_self b)]
        exact tail t e' (by simp only at g1; omega) g2
      · rw [if_neg hf, num_look K l e q (by omega) hB (by omega), rnum_look K l e q (by omega) hB (by omega)]
        obtain ⟨g1, g2, _⟩ := look_ok l e q hB
        generalize look l e q = r at g1 g2
        obtain ⟨t, e', b⟩ := r
        simp only [b3]
        rw [if_pos trivial]
        exact tail t e' (by simp only at g1; omega) g2
    have body2 : ∀ q : Int, (if (acts[i]).f0 = true then (if sR .u64 q 60 = 15 then (fun x44411 => b3 (pack_Reader_Lump.f K l e x44411) fun t44430 t44431 t44432 => b3 (confidantref1_Reader_Lump.f K l e x44411) fun t44438 t44439 t44440 => if ((bStr t44432).toList == (bStr t44440).toList) = true then (b3 (pack_Reader_Err.f K t44430 t44431) fun t44547 t44548 t44549 => if t44549 = t44439 then b3 (pack_Reader_Left.f K t44547 t44548) fun t44554 t44555 t44556 => if (!decide (t44556 = (t44438.length : Int))) = true then some false else confidantlaw1_PackReads.l3 K acts j m t44438 t44439 t44554 t44555 (IntKind.i64.wrap ((i : Int) + 1)) else if True then some false else confidantlaw1_PackReads.l3 K acts j m t44438 t44439 t44547 t44548 (IntKind.i64.wrap ((i : Int) + 1))) else some false) (-1) else (fun x44411 => b3 (pack_Reader_Lump.f K l e x44411) fun t44430 t44431 t44432 => b3 (confidantref1_Reader_Lump.f K l e x44411) fun t44438 t44439 t44440 => if ((bStr t44432).toList == (bStr t44440).toList) = true then (b3 (pack_Reader_Err.f K t44430 t44431) fun t44547 t44548 t44549 => if t44549 = t44439 then b3 (pack_Reader_Left.f K t44547 t44548) fun t44554 t44555 t44556 => if (!decide (t44556 = (t44438.length : Int))) = true then some false else confidantlaw1_PackReads.l3 K acts j m t44438 t44439 t44554 t44555 (IntKind.i64.wrap ((i : Int) + 1)) else if True then some false else confidantlaw1_PackReads.l3 K acts j m t44438 t44439 t44547 t44548 (IntKind.i64.wrap ((i : Int) + 1))) else some false) (IntKind.i64.wrap (bA .u64 q 4095)))
        else b3 (pack_Reader_Num.f K l e q) fun t44489 t44490 t44491 => b3 (confidantref1_Reader_Num.f K l e q) fun t44495 t44496 t44497 => if t44491 = t44497 then (b3 (pack_Reader_Err.f K t44489 t44490) fun t44547 t44548 t44549 => if t44549 = t44496 then b3 (pack_Reader_Left.f K t44547 t44548) fun t44554 t44555 t44556 => if (!decide (t44556 = (t44495.length : Int))) = true then some false else confidantlaw1_PackReads.l3 K acts j m t44495 t44496 t44554 t44555 (IntKind.i64.wrap ((i : Int) + 1)) else if True then some false else confidantlaw1_PackReads.l3 K acts j m t44495 t44496 t44547 t44548 (IntKind.i64.wrap ((i : Int) + 1))) else some false) = some true := by
      intro q
      have := body q
      by_cases h15 : sR .u64 q 60 = 15
      · simp only [h15, if_true] at this ⊢; exact this
      · simp only [h15, if_false] at this ⊢; exact this
    by_cases h3 : Int.tmod (i : Int) 3 > 0
    · rw [if_pos h3]
      obtain ⟨r, hr, hr2⟩ : ∃ r : Nat, Int.tmod (acts[i]).f1 3 = (r : Int) ∧ r < 3 := by
        rw [Int.tmod_eq_emod_of_nonneg (by omega)]
        exact ⟨((acts[i]).f1 % 3).toNat, by omega, by omega⟩
      rw [hr]
      rw [if_pos (by omega), if_pos (by simp; omega)]
      exact body2 _
    · rw [if_neg h3]
      exact body2 _

theorem pr_2 (K : Nat) (xs : List (List Int)) (acts : List S48) (ha : acts.length ≤ 30) (ho : ∀ x ∈ acts, okS48 x) (hK : 2000 ≤ K) (hx : ∀ x ∈ xs, x.length ≤ 1000 ∧ IsB x) (hl : xs.length ≤ 10) : ∀ (d m i : Nat), i + d = xs.length → d < m → confidantlaw1_PackReads.l2 K xs acts m (i : Int) = some true
  | 0, m, i, hd, hm => by
    obtain ⟨m, rfl⟩ : ∃ k, m = k + 1 := ⟨m - 1, by omega⟩
    rw [confidantlaw1_PackReads.l2.eq_2, if_neg (by omega)]
  | d + 1, m, i, hd, hm => by
    obtain ⟨m, rfl⟩ : ∃ k, m = k + 1 := ⟨m - 1, by omega⟩
    have hi : i < xs.length := by omega
    have e1 : xs.getD (i : Int).toNat [] = xs[i] := by simp [List.getD, hi]
    obtain ⟨h1, h2⟩ := hx _ (List.getElem_mem hi)
    rw [confidantlaw1_PackReads.l2.eq_2, if_pos (by omega), e1]
    simp only [lt]
    rw [if_pos (by omega)]
    have hn : pack_New.f K xs[i] = some (xs[i], 0) := rfl
    rw [hn]
    simp only [b2]
    refine pr_3 K acts _ (fun a b => ?_) ha ho hK acts.length K 0 xs[i] 0 (by omega) (by omega) h1 h2
    rw [w64_id (by omega) (by omega), show ((i : Int) + 1) = ((i + 1 : Nat) : Int) by omega]
    exact pr_2 K xs acts ha ho hK hx hl d m (i + 1) (by omega) (by omega)

theorem pr_1 (K : Nat) (ns : List Int) (k : Int) (j : List Int → Option Bool) (hn : ∀ x ∈ ns, (Lit.int .u64 x).wf = true) (hl : ns.length ≤ 12) (hK : 200 ≤ K) (hj : ∀ l, l.length ≤ 700 → IsB l → j l = some true) : ∀ (d m i : Nat) (b : List Int), i + d = ns.length → d < m → b.length ≤ 500 + 11 * i → IsB b →
    confidantlaw1_PackReads.l1 K ns k j m b (i : Int) = some true
  | 0, m, i, b, hd, hm, hb, hB => by
    obtain ⟨m, rfl⟩ : ∃ k, m = k + 1 := ⟨m - 1, by omega⟩
    rw [confidantlaw1_PackReads.l1.eq_2, if_neg (by omega)]
    exact hj b (by omega) hB
  | d + 1, m, i, b, hd, hm, hb, hB => by
    obtain ⟨m, rfl⟩ : ∃ k, m = k + 1 := ⟨m - 1, by omega⟩
    have hi : i < ns.length := by omega
    have e1 : ns.getD (i : Int).toNat 0 = ns[i] := by simp [List.getD, hi]
    have hwk : (Lit.int .u8 (IntKind.u8.wrap (k + IntKind.u8.wrap (i : Int)))).wf = true := wf_wrap .u8 _
    obtain ⟨x, hx, hxe⟩ := edge_f ns[i] _ (hn _ (List.getElem_mem hi)) hwk
    have e3 : ([(x : Int)] : List Int) = ints [x] := rfl
    have e4 : encs [x] = enc x := by simp [encs]
    have h1 := enc_len x
    rw [confidantlaw1_PackReads.l1.eq_2, if_pos (by omega), if_pos (by omega), e1, hxe]
    simp only [b1, lt]
    rw [e3, rput_f K [x] (fun n hn => by rw [List.mem_singleton.1 hn]; exact hx) (by simp) (by omega) (by simp; omega), e4]
    simp only
    rw [if_pos (by omega), w64_id (by omega) (by omega), show ((i : Int) + 1) = ((i + 1 : Nat) : Int) by omega]
    exact pr_1 K ns k j hn hl hK hj d m (i + 1) _ (by omega) (by omega) (by simp; omega) (hB.app (enc_B x))

theorem pr_0 (K : Nat) (rs : List (List Int)) (j : List Int → Option Bool) (hB : ∀ r ∈ rs, IsB r) (hl : rs.length ≤ 6) (hK : 200 ≤ K) (hj : ∀ l, l.length ≤ 500 → IsB l → j l = some true) : ∀ (d m i : Nat) (b : List Int), i + d = rs.length → d < m → b.length ≤ 41 * i → IsB b →
    confidantlaw1_PackReads.l0 K rs j m b (i : Int) = some true
  | 0, m, i, b, hd, hm, hb, hbB => by
    obtain ⟨m, rfl⟩ : ∃ k, m = k + 1 := ⟨m - 1, by omega⟩
    rw [confidantlaw1_PackReads.l0.eq_2, if_neg (by omega)]
    exact hj b (by omega) hbB
  | d + 1, m, i, b, hd, hm, hb, hbB => by
    obtain ⟨m, rfl⟩ : ∃ k, m = k + 1 := ⟨m - 1, by omega⟩
    have hi : i < rs.length := by omega
    have e1 : rs.getD (i : Int).toNat [] = rs[i] := by simp [List.getD, hi]
    have hr := hB _ (List.getElem_mem hi)
    rw [confidantlaw1_PackReads.l0.eq_2, if_pos (by omega), if_pos (by omega), e1]
    by_cases h30 : (rs[i].length : Int) > 30
    · rw [if_pos h30]
    have h1 := enc_len rs[i].length
    rw [if_neg h30, lump_f K _ (by omega) (by omega), rlump_f K _ (by omega) (by omega)]
    simp only [b1, lt]
    rw [if_pos (bStr_self _)]
    rw [if_pos (by simp; omega), w64_id (by omega) (by omega), show ((i : Int) + 1) = ((i + 1 : Nat) : Int) by omega]
    exact pr_0 K rs j hB hl hK hj d m (i + 1) _ (by omega) (by omega) (by simp; omega) (hbB.app ((enc_B _).app hr))

theorem PackReads : confidantlaw1_PackReads.Pure := by
  intro raw ns rs acts k _ hraw _ hn _ hr _ ho hk
  obtain ⟨K, hK, hkn⟩ : ∃ K, 3000 ≤ K ∧ confidantlaw1_known.f K = some true := ⟨3000, Nat.le_refl _, by kernel_rfl⟩
  have uk := is_u8 hk
  refine ⟨K, ?_⟩
  unfold confidantlaw1_PackReads.f
  simp only [hkn, b1, if_true, lt]
  by_cases h1 : (raw.length : Int) > 60
  · rw [if_pos h1]
  rw [if_neg h1]
  by_cases h2 : (ns.length : Int) > 12
  · rw [if_pos h2]
  rw [if_neg h2]
  by_cases h3 : (rs.length : Int) > 6
  · rw [if_pos h3]
  rw [if_neg h3]
  by_cases h4 : (acts.length : Int) > 30
  · rw [if_pos (decide_eq_true h4)]
  rw [if_neg (by simpa using h4)]
  have hB : ∀ r ∈ rs, IsB r := fun r h => IsB.of (hr r h).2
  refine pr_0 K rs _ hB (by omega) (by omega) (fun b hb hbB => ?_) rs.length K 0 [] (by omega) (by omega) (by simp) IsB.nil
  have hU : U64 (ns.map Int.toNat) := by
    intro n h
    obtain ⟨x, hx, rfl⟩ := List.mem_map.1 h
    have := is_u64 (hn x hx)
    omega
  have hns : ns = ints (ns.map Int.toNat) := by
    unfold ints
    rw [List.map_map]
    conv => lhs; rw [← List.map_id ns]
    refine List.map_congr_left fun x hx => ?_
    have := is_u64 (hn x hx)
    show x = ((x.toNat : Nat) : Int)
    omega
  have p1 : pack_Put.f K ns = some (encs (ns.map Int.toNat)) := by
    have := put_f K (ns.map Int.toNat) hU (by simp; omega) (by omega) (by simp; omega)
    rwa [← hns] at this
  have p2 : confidantref1_Put.f K ns = some (encs (ns.map Int.toNat)) := by
    have := rput_f K (ns.map Int.toNat) hU (by simp; omega) (by omega) (by simp; omega)
    rwa [← hns] at this
  rw [p1, p2]
  simp only
  rw [if_pos (bStr_self _)]
  refine pr_1 K ns k _ hn (by omega) (by omega) (fun l hl hlB => ?_) ns.length K 0 b (by omega) (by omega) (by omega) hbB
  simp only [List.length_nil, Nat.zero_add, List.nil_append, List.length_append, List.length_cons]
  rw [if_pos (by omega), if_pos (by omega), if_pos (by omega), if_pos (by omega)]
  have hrB : IsB raw := IsB.of hraw
  have byte : ∀ x : Int, ∃ c : Nat, IntKind.u8.wrap x = (c : Int) ∧ c < 256 := fun x => ⟨(x % 256).toNat, by rw [wu8]; omega, by omega⟩
  have lits : ∀ (a : Int) (l : List Int), (∃ c : Nat, a = (c : Int) ∧ c < 256) → (∀ x ∈ l, x = 255 ∨ x = 127) → IsB (a :: l) := by
    intro a l h h' x hx
    rcases List.mem_cons.1 hx with rfl | hx
    · exact h
    · rcases h' x hx with rfl | rfl
      · exact ⟨255, rfl, by omega⟩
      · exact ⟨127, rfl, by omega⟩
  refine pr_2 K _ acts (by omega) ho (by omega) (fun x hx => ?_) (by simp) 5 K 0 (by simp) (by omega)
  simp only [List.mem_cons, List.mem_nil_iff, or_false] at hx
  rcases hx with rfl | rfl | rfl | rfl | rfl
  · exact ⟨by omega, hrB⟩
  · exact ⟨by omega, hlB⟩
  · exact ⟨by simp; omega, hlB.app hrB⟩
  · exact ⟨by simp; omega, (lits _ _ (byte _) (by simp)).app hrB⟩
  · exact ⟨by simp; omega, (lits _ _ (byte _) (by simp)).app hrB⟩
end Go.Proofs.Ytifnjijlbcacoaa.Pure
