import Derived.Test.YtipaaapbapijhaaG0
import Derived.Test.YtipaaapbapijhaaG2
import Derived.Test.YtipaaapbapijhaaG3
import Derived.Test.YtipaaapbapijhaaFwLaw
/- Numbers as bytes: what Put writes and what Num reads. Conditions: in the lemmas. -/
set_option linter.unusedVariables false
set_option linter.unusedSimpArgs false
namespace Go.Proofs.Ytipaaapbapijhaa.Reads
open Go Go.Fw Go.RowKit Go.Proofs.Ytipaaapbapijhaa.G

/-! ### bytes -/
theorem b_and : ∀ c : Nat, c < 256 → bA .u8 (c : Int) 128 = if c < 128 then 0 else 128 := by decide +kernel
theorem b_not : ∀ c : Nat, c < 256 → bN .u8 (c : Int) 128 = ((c % 128 : Nat) : Int) := by decide +kernel
theorem b_or : ∀ c : Nat, c < 256 → bO .u8 (c : Int) 128 = ((c % 128 + 128 : Nat) : Int) := by decide +kernel

theorem sR_nat (n s : Nat) (h : n < 18446744073709551616) : sR .u64 (n : Int) (s : Int) = ((n / 2 ^ s : Nat) : Int) := by
  unfold sR
  simp only [IntKind.bits, Int.toNat_natCast]
  have e : ∀ t : Nat, Int.fdiv (n : Int) (2 ^ t : Int) = ((n / 2 ^ t : Nat) : Int) := by
    intro t
    rw [Int.fdiv_eq_ediv_of_nonneg _ (by exact Int.le_of_lt (Int.pow_pos (by decide)))]
    norm_cast
  rw [e]
  by_cases hs : s ≤ 64
  · rw [Nat.min_eq_left hs]
  · rw [Nat.min_eq_right (by omega)]
    have h1 : n / 2 ^ 64 = 0 := Nat.div_eq_of_lt h
    have h2 : n / 2 ^ s = 0 := Nat.div_eq_of_lt (Nat.lt_of_lt_of_le h (by
      have : (2 : Nat) ^ 64 ≤ 2 ^ s := Nat.pow_le_pow_right (by decide) (by omega)
      exact this))
    rw [h1, h2]

theorem p7 (h : Nat) : 2 ^ (7 * h) = 128 ^ h := by rw [Nat.pow_mul]

/-! ### what is written -/
def hiF : Nat → Nat → List Int
  | 0, _ => []
  | f + 1, m => if m = 0 then [] else hiF f (m / 128) ++ [((m % 128 + 128 : Nat) : Int)]
theorem hiF_more : ∀ (f m : Nat), m < 128 ^ f → hiF (f + 1) m = hiF f m
  | 0, m, h => by
    have : m = 0 := by simpa using h
    subst this; rfl
  | f + 1, m, h => by
    show (if m = 0 then [] else hiF (f + 1) (m / 128) ++ _) = (if m = 0 then [] else hiF f (m / 128) ++ _)
    rw [hiF_more f (m / 128) (by rw [Nat.pow_succ] at h; exact Nat.div_lt_of_lt_mul (by rw [Nat.mul_comm]; exact h))]
def hi (m : Nat) : List Int := hiF 10 m
theorem hi_zero : hi 0 = [] := rfl
theorem hi_eq {m : Nat} (h : m < 18446744073709551616) (h0 : m ≠ 0) : hi m = hi (m / 128) ++ [((m % 128 + 128 : Nat) : Int)] := by
  unfold hi
  have h1 : hiF 10 (m / 128) = hiF 9 (m / 128) := hiF_more 9 _ (by
    have : m / 128 < 18446744073709551616 / 128 + 1 := by omega
    exact Nat.lt_trans this (by decide))
  rw [h1]
  show (if m = 0 then [] else hiF 9 (m / 128) ++ _) = _
  rw [if_neg h0]
def enc (n : Nat) : List Int := hi (n / 128) ++ [((n % 128 : Nat) : Int)]

theorem hiF_len : ∀ (f m : Nat), (hiF f m).length ≤ f
  | 0, m => Nat.le_refl _
  | f + 1, m => by
    show (if m = 0 then [] else hiF f (m / 128) ++ _).length ≤ _
    split
    · simp
    · have := hiF_len f (m / 128); simp; omega
theorem hi_len (m : Nat) : (hi m).length ≤ 10 := hiF_len 10 m
theorem enc_len (n : Nat) : (enc n).length ≤ 11 := by have := hi_len (n / 128); unfold enc; simp; omega
theorem enc_pos (n : Nat) : 0 < (enc n).length := by unfold enc; simp

def IsB (l : List Int) : Prop := ∀ x ∈ l, ∃ c : Nat, x = (c : Int) ∧ c < 256
theorem IsB.nil : IsB [] := by intro x hx; simp at hx
theorem IsB.app {a b : List Int} (ha : IsB a) (hb : IsB b) : IsB (a ++ b) := fun x hx => by
  rcases List.mem_append.1 hx with h | h
  · exact ha x h
  · exact hb x h
theorem IsB.drop {a : List Int} (h : IsB a) (n : Nat) : IsB (a.drop n) := fun x hx => h x (List.mem_of_mem_drop hx)
theorem IsB.take {a : List Int} (h : IsB a) (n : Nat) : IsB (a.take n) := fun x hx => h x (List.mem_of_mem_take hx)
theorem IsB.of {l : List Int} (h : ∀ x ∈ l, (Lit.int .u8 x).wf = true) : IsB l := fun x hx => by
  have := is_u8 (h x hx)
  exact ⟨x.toNat, by omega, by omega⟩
theorem hiF_B : ∀ (f m : Nat), IsB (hiF f m)
  | 0, m => IsB.nil
  | f + 1, m => by
    show IsB (if m = 0 then [] else hiF f (m / 128) ++ _)
    split
    · exact IsB.nil
    · refine (hiF_B f _).app fun x hx => ?_
      rw [List.mem_singleton.1 hx]
      exact ⟨_, rfl, by omega⟩
theorem enc_B (n : Nat) : IsB (enc n) := (hiF_B 10 _).app fun x hx => by
  rw [List.mem_singleton.1 hx]
  exact ⟨_, rfl, by omega⟩

/-! ### Put -/
def hiL : Nat → Nat → List Int
  | 0, _ => []
  | h + 1, n => ((n / 128 ^ (h + 1) % 128 + 128 : Nat) : Int) :: hiL h n
theorem hiL_snoc : ∀ (h n : Nat), hiL (h + 1) n = hiL h (n / 128) ++ [((n / 128 % 128 + 128 : Nat) : Int)]
  | 0, n => by simp [hiL]
  | h + 1, n => by
    show _ :: hiL (h + 1) n = (_ :: hiL h (n / 128)) ++ _
    rw [hiL_snoc h n, List.cons_append]
    congr 3
    rw [Nat.div_div_eq_div_mul, Nat.pow_succ 128 (h + 1), Nat.mul_comm]
theorem hiL_hi : ∀ (h n : Nat), n < 18446744073709551616 → (h = 0 ∨ n / 128 ^ h ≠ 0) → n / 128 ^ (h + 1) = 0 → hiL h n = hi (n / 128)
  | 0, n, _, _, h2 => by
    have : n / 128 = 0 := by simpa using h2
    rw [this]; rfl
  | h + 1, n, hn, h1, h2 => by
    have h1 : n / 128 ^ (h + 1) ≠ 0 := h1.resolve_left (by omega)
    have e1 : ∀ k, n / 128 / 128 ^ k = n / 128 ^ (k + 1) := fun k => by rw [Nat.div_div_eq_div_mul, Nat.pow_succ, Nat.mul_comm]
    have h0 : n / 128 ≠ 0 := fun h => h1 (by rw [← e1, h, Nat.zero_div])
    rw [hiL_snoc, hi_eq (by omega) h0, hiL_hi h (n / 128) (by omega) ?_ (by rw [e1]; exact h2)]
    by_cases hh : h = 0
    · exact .inl hh
    · exact .inr (by rw [e1]; exact h1)

theorem div_zero_le {n k : Nat} (hn : n < 18446744073709551616) (hk : 10 ≤ k) : n / 128 ^ k = 0 := by
  refine Nat.div_eq_of_lt (Nat.lt_of_lt_of_le hn (Nat.le_trans (by decide : 18446744073709551616 ≤ 128 ^ 10) (Nat.pow_le_pow_right (by decide) hk)))

theorem put_1 (K : Nat) (l : List Int) (x : Int) (j : Int → Option (List Int)) (n : Nat) (hx : l.getD x.toNat 0 = (n : Int)) (hn : n < 18446744073709551616) : ∀ (d m h : Nat), h + d = 10 → d < m → (h = 0 ∨ n / 128 ^ h ≠ 0) →
    ∃ h' : Nat, h' ≤ 10 ∧ (h' = 0 ∨ n / 128 ^ h' ≠ 0) ∧ n / 128 ^ (h' + 1) = 0 ∧ pack_Put.l1 K l x j m (h : Int) = j (h' : Int)
  | d, m, h, hd, hm, h0 => by
    obtain ⟨m, rfl⟩ : ∃ k, m = k + 1 := ⟨m - 1, by omega⟩
    have e1 : IntKind.i64.wrap ((h : Int) + 1) = ((h + 1 : Nat) : Int) := by rw [w64_id (by omega) (by omega)]; omega
    have e2 : IntKind.i64.wrap (7 * ((h + 1 : Nat) : Int)) = ((7 * (h + 1) : Nat) : Int) := by rw [w64_id (by omega) (by omega)]; omega
    have hc : n / 128 ^ (h + 1) = 0 ∨ n / 128 ^ (h + 1) ≠ 0 := by omega
    rw [pack_Put.l1.eq_2, e1, e2, if_neg (by omega), hx, sR_nat _ _ hn, p7]
    rcases hc with hc | hc
    · exact ⟨h, by omega, h0, hc, by rw [hc]; rfl⟩
    · rw [if_neg (by omega)]
      cases d with
      | zero => exact absurd (div_zero_le hn (by omega)) hc
      | succ d => exact put_1 K l x j n hx hn d m (h + 1) (by omega) (by omega) (.inr hc)

theorem put_2 (K : Nat) (l : List Int) (x : Int) (j : List Int → Option (List Int)) (n : Nat) (hx : l.getD x.toNat 0 = (n : Int)) (hn : n < 18446744073709551616) : ∀ (h m : Nat) (out : List Int), h ≤ 10 → h < m → out.length + h ≤ 1000000 →
    pack_Put.l2 K l x j m out (h : Int) = j (out ++ hiL h n)
  | 0, m, out, hh, hm, ho => by
    obtain ⟨m, rfl⟩ : ∃ k, m = k + 1 := ⟨m - 1, by omega⟩
    rw [pack_Put.l2.eq_2, if_neg (by omega)]; simp [hiL]
  | h + 1, m, out, hh, hm, ho => by
    obtain ⟨m, rfl⟩ : ∃ k, m = k + 1 := ⟨m - 1, by omega⟩
    have e2 : IntKind.i64.wrap (7 * ((h + 1 : Nat) : Int)) = ((7 * (h + 1) : Nat) : Int) := by rw [w64_id (by omega) (by omega)]; omega
    have e3 : IntKind.i64.wrap (((h + 1 : Nat) : Int) - 1) = (h : Int) := by rw [w64_id (by omega) (by omega)]; omega
    have e4 : IntKind.u8.wrap ((n / 128 ^ (h + 1) : Nat) : Int) = ((n / 128 ^ (h + 1) % 256 : Nat) : Int) := by
      generalize n / 128 ^ (h + 1) = q
      rw [wu8]; omega
    have e5 : n / 128 ^ (h + 1) % 256 % 128 = n / 128 ^ (h + 1) % 128 := by generalize n / 128 ^ (h + 1) = q; omega
    have e6 : n / 128 ^ (h + 1) % 256 < 256 := Nat.mod_lt _ (by decide)
    rw [pack_Put.l2.eq_2, if_pos (by omega), e2, if_neg (by omega), hx, sR_nat _ _ hn, p7, e4, b_or _ e6, e3, e5]
    simp only [lt, List.length_cons, List.length_nil]
    rw [if_pos (by omega), put_2 K l x j n hx hn h m _ (by omega) (by omega) (by simp; omega)]
    simp [hiL, List.append_assoc]

def encs : List Nat → List Int
  | [] => []
  | n :: l => enc n ++ encs l
theorem encs_app : ∀ (a b : List Nat), encs (a ++ b) = encs a ++ encs b
  | [], b => rfl
  | n :: a, b => by show enc n ++ encs (a ++ b) = (enc n ++ encs a) ++ encs b; rw [encs_app a b, List.append_assoc]
theorem encs_len : ∀ (a : List Nat), (encs a).length ≤ 11 * a.length
  | [] => by simp [encs]
  | n :: a => by have := encs_len a; have := enc_len n; simp [encs]; omega
theorem encs_B : ∀ (a : List Nat), IsB (encs a)
  | [] => IsB.nil
  | n :: a => (enc_B n).app (encs_B a)
def ints (l : List Nat) : List Int := l.map Int.ofNat
def U64 (l : List Nat) : Prop := ∀ n ∈ l, n < 18446744073709551616

theorem put_0 (K : Nat) (ns : List Nat) (hU : U64 ns) (hl : ns.length ≤ 10000) (hK : 12 ≤ K) : ∀ (d m i : Nat), i + d = ns.length → d < m → pack_Put.l0 K (ints ns) m (encs (ns.take i)) (i : Int) = some (encs ns)
  | 0, m, i, hd, hm => by
    obtain ⟨m, rfl⟩ : ∃ k, m = k + 1 := ⟨m - 1, by omega⟩
    have hlen : (ints ns).length = ns.length := by simp [ints]
    rw [pack_Put.l0.eq_2, if_neg (by omega), List.take_of_length_le (by omega)]
  | d + 1, m, i, hd, hm => by
    obtain ⟨m, rfl⟩ : ∃ k, m = k + 1 := ⟨m - 1, by omega⟩
    have hlen : (ints ns).length = ns.length := by simp [ints]
    have hi : i < ns.length := by omega
    have hx : (ints ns).getD (i : Int).toNat 0 = ((ns[i] : Nat) : Int) := by simp [ints, List.getD, hi]
    have hn := hU _ (List.getElem_mem hi)
    have hle := encs_len (ns.take i)
    rw [List.length_take] at hle
    rw [pack_Put.l0.eq_2, if_pos (by omega)]
    simp only [lt]
    rw [if_pos (by omega)]
    obtain ⟨h', g1, g2, g3, g4⟩ := put_1 K (ints ns) i (fun x7295 => pack_Put.l2 K (ints ns) (i : Int) (fun x7455 => if (x7455.length + [bN .u8 (IntKind.u8.wrap ((ints ns).getD (i : Int).toNat 0)) 128].length) * 1 ≤ 140737488355328 then pack_Put.l0 K (ints ns) m (x7455 ++ [bN .u8 (IntKind.u8.wrap ((ints ns).getD (i : Int).toNat 0)) 128]) (IntKind.i64.wrap ((i : Int) + 1)) else none) K (encs (ns.take i)) x7295) ns[i] hx hn 10 K 0 (by omega) (by omega) (.inl rfl)
    refine Eq.trans g4 ?_
    rw [put_2 K (ints ns) i _ ns[i] hx hn h' K _ g1 (by omega) (by omega), hx, hiL_hi h' _ hn g2 g3]
    have e4 : IntKind.u8.wrap ((ns[i] : Nat) : Int) = ((ns[i] % 256 : Nat) : Int) := by rw [wu8]; omega
    have e5 : ns[i] % 256 % 128 = ns[i] % 128 := by omega
    have e6 := hi_len (ns[i] / 128)
    rw [e4, b_not _ (by omega), e5, if_pos (by simp; omega), w64_id (by omega) (by omega), show ((i : Int) + 1) = ((i + 1 : Nat) : Int) by omega]
    have e7 : encs (ns.take i) ++ Reads.hi (ns[i] / 128) ++ [((ns[i] % 128 : Nat) : Int)] = encs (ns.take (i + 1)) := by
      rw [List.take_add_one, encs_app]
      simp [hi, encs, enc]
    rw [e7]
    exact put_0 K ns hU hl hK d m (i + 1) (by omega) (by omega)

theorem put_f (K : Nat) (ns : List Nat) (hU : U64 ns) (hl : ns.length ≤ 10000) (hK : 12 ≤ K) (hK2 : ns.length < K) : pack_Put.f K (ints ns) = some (encs ns) := put_0 K ns hU hl hK ns.length K 0 (by omega) hK2

theorem sL7 {a : Nat} (h : a < 144115188075855872) : sL .u64 (a : Int) 7 = ((128 * a : Nat) : Int) := by
  unfold sL
  have : min (Int.toNat 7) IntKind.u64.bits = 7 := by decide
  rw [this, wu64_id (by omega) (by omega)]
  omega
theorem or_nat {x y : Nat} (hx : x < 18446744073709551616) (hy : y < 18446744073709551616) : bO .u64 (x : Int) (y : Int) = ((x ||| y : Nat) : Int) := by
  have h3 : ((BitVec.ofInt 64 (x : Int)) ||| (BitVec.ofInt 64 (y : Int))).toNat = x ||| y := by
    rw [BitVec.toNat_or, BitVec.toNat_ofInt, BitVec.toNat_ofInt]
    have e1 : ((x : Int) % ((2 ^ 64 : Nat) : Int)).toNat = x := by omega
    have e2 : ((y : Int) % ((2 ^ 64 : Nat) : Int)).toNat = y := by omega
    rw [e1, e2]
  have h4 : x ||| y < 2 ^ 64 := Nat.or_lt_two_pow hx hy
  show IntKind.u64.wrap ((((BitVec.ofInt 64 (x : Int)) ||| (BitVec.ofInt 64 (y : Int))).toNat : Nat) : Int) = _
  rw [h3, wu64_id (by omega) (by omega)]
theorem or7 {a c : Nat} (h : a < 144115188075855872) (hc : c < 128) : bO .u64 ((128 * a : Nat) : Int) (c : Int) = ((128 * a + c : Nat) : Int) := by
  rw [or_nat (by omega) (by omega)]
  have := Nat.shiftLeft_add_eq_or_of_lt (b := c) (i := 7) (by omega) a
  rw [Nat.shiftLeft_eq, show a * 2 ^ 7 = 128 * a by omega] at this
  rw [this]

/-- a number read: what is left, the error, the number -/
def rdN (most : Int) : List Int → Nat → Bool → List Int × Int × Int
  | [], _, _ => ([], 21, 0)
  | c :: l, a, first => if (first = true ∧ c = 128) ∨ 144115188075855872 ≤ a then ([], 20, 0) else
      if c < 128 then (if ((128 * a + c.toNat % 128 : Nat) : Int) > most then ([], 22, 0) else (l, 0, ((128 * a + c.toNat % 128 : Nat) : Int))) else rdN most l (128 * a + c.toNat % 128) false

theorem num_0 (K : Nat) (l : List Int) (most : Int) (hl : l.length ≤ 1000000) (hB : IsB l) : ∀ (d m i a : Nat), i + d = l.length → d < m → a < 18446744073709551616 →
    pack_Reader_Num.l0 K l 0 most (some ([], 21, 0)) m (a : Int) (i : Int) = some (rdN most (l.drop i) a (decide (i = 0)))
  | 0, m, i, a, hd, hm, ha => by
    obtain ⟨m, rfl⟩ : ∃ k, m = k + 1 := ⟨m - 1, by omega⟩
    rw [pack_Reader_Num.l0.eq_2, if_neg (by omega), List.drop_of_length_le (by omega)]
    rfl
  | d + 1, m, i, a, hd, hm, ha => by
    obtain ⟨m, rfl⟩ : ∃ k, m = k + 1 := ⟨m - 1, by omega⟩
    have hi : i < l.length := by omega
    have e1 : l.getD (i : Int).toNat 0 = l[i] := by simp [List.getD, hi]
    obtain ⟨c, hc, hc2⟩ := hB _ (List.getElem_mem hi)
    have e2 : l.drop i = (c : Int) :: l.drop (i + 1) := by rw [List.drop_eq_getElem_cons hi, hc]
    have e3 : sR .u64 (a : Int) 57 = ((a / 144115188075855872 : Nat) : Int) := sR_nat a 57 ha
    have e4 : IntKind.i64.wrap ((i : Int) + 1) = ((i + 1 : Nat) : Int) := by rw [w64_id (by omega) (by omega)]; omega
    have e5 : (i : Int) = 0 ↔ i = 0 := by omega
    have e6 : (c : Int) = 128 ↔ c = 128 := by omega
    have e7 : IntKind.u64.wrap ((c % 128 : Nat) : Int) = ((c % 128 : Nat) : Int) := wu64_id (by omega) (by omega)
    rw [pack_Reader_Num.l0.eq_2, if_pos (by omega), e2]
    simp only [lt, e1, hc, e3, e4]
    rw [if_pos (by omega)]
    have hbad : pack_Reader_fail.f K l 0 20 = some ([], 20, 0) := rfl
    have hlong : pack_Reader_fail.f K l 0 22 = some ([], 22, 0) := rfl
    have step : ∀ (f : Bool), ¬ (f = true ∧ (c : Int) = 128) → (i = 0 → f = true) → (i ≠ 0 → f = false) → ¬ 144115188075855872 ≤ a →
        (if bA .u8 (c : Int) 128 = 0 then if bO .u64 (sL .u64 (a : Int) 7) (IntKind.u64.wrap (bN .u8 (c : Int) 128)) > most then b3 (pack_Reader_fail.f K l 0 22) fun t10882 t10883 t10884 => some (t10882, t10883, t10884) else if 0 ≤ ((i + 1 : Nat) : Int) then if ((i + 1 : Nat) : Int) ≤ (l.length : Int) then some (l.drop ((i + 1 : Nat) : Int).toNat, 0, bO .u64 (sL .u64 (a : Int) 7) (IntKind.u64.wrap (bN .u8 (c : Int) 128))) else none else none else pack_Reader_Num.l0 K l 0 most (some ([], 21, 0)) m (bO .u64 (sL .u64 (a : Int) 7) (IntKind.u64.wrap (bN .u8 (c : Int) 128))) ((i + 1 : Nat) : Int)) = some (rdN most ((c : Int) :: l.drop (i + 1)) a f) := by
      intro f h1 h2 h3 h4
      rw [sL7 (by omega), b_not c hc2, e7, or7 (by omega) (by omega), b_and c hc2]
      unfold rdN
      rw [if_neg (c := (f = true ∧ (c : Int) = 128) ∨ 144115188075855872 ≤ a) (fun h => h.elim h1 h4)]
      simp only [Int.toNat_natCast]
      by_cases h5 : c < 128
      · rw [if_pos (c := (if c < 128 then (0 : Int) else 128) = 0) (by rw [if_pos h5]), if_pos (c := (c : Int) < 128) (by omega)]
        by_cases h6 : ((128 * a + c % 128 : Nat) : Int) > most
        · rw [if_pos h6, if_pos h6, hlong]; rfl
        · rw [if_neg h6, if_neg h6, if_pos (by omega), if_pos (by omega)]
      · rw [if_neg (c := (if c < 128 then (0 : Int) else 128) = 0) (by rw [if_neg h5]; decide), if_neg (c := (c : Int) < 128) (by omega), num_0 K l most hl hB d m (i + 1) _ (by omega) (by omega) (by omega)]
        congr 2
    have hz : ((a / 144115188075855872 : Nat) : Int) = 0 ↔ ¬ 144115188075855872 ≤ a := by omega
    have bad : ∀ f : Bool, ((f = true ∧ (c : Int) = 128) ∨ 144115188075855872 ≤ a) → rdN most ((c : Int) :: l.drop (i + 1)) a f = ([], 20, 0) := by
      intro f h
      unfold rdN
      rw [if_pos h]
    by_cases h0 : i = 0
    · rw [if_pos (e5.2 h0), decide_eq_true h0]
      by_cases h1 : (c : Int) = 128
      · rw [if_pos h1, if_pos trivial, hbad, bad true (.inl ⟨rfl, h1⟩)]; rfl
      · rw [if_neg h1]
        by_cases h2 : 144115188075855872 ≤ a
        · rw [if_pos (by rw [decide_eq_false (by rw [hz]; simpa using h2)]; rfl), hbad, bad true (.inr h2)]; rfl
        · rw [if_neg (by rw [decide_eq_true (hz.2 h2)]; decide)]
          exact step true (by simp [h1]) (by simp) (by simp [h0]) h2
    · rw [if_neg (by omega), decide_eq_false h0]
      by_cases h2 : 144115188075855872 ≤ a
      · rw [if_pos (by rw [decide_eq_false (by rw [hz]; simpa using h2)]; rfl), hbad, bad false (.inr h2)]; rfl
      · rw [if_neg (by rw [decide_eq_true (hz.2 h2)]; decide)]
        exact step false (by simp) (by simp [h0]) (by simp) h2

theorem num_f (K : Nat) (l : List Int) (most : Int) (hl : l.length ≤ 1000000) (hB : IsB l) (hK : l.length < K) : pack_Reader_Num.f K l 0 most = some (rdN most l 0 true) := by
  unfold pack_Reader_Num.f
  rw [if_pos rfl]
  exact num_0 K l most hl hB l.length K 0 0 (by omega) hK (by omega)
theorem num_err (K : Nat) (l : List Int) (e most : Int) (he : e ≠ 0) : pack_Reader_Num.f K l e most = some (l, e, 0) := by
  unfold pack_Reader_Num.f
  rw [if_neg he]
theorem and_nat {x y : Nat} (hx : x < 18446744073709551616) (hy : y < 18446744073709551616) : bA .u64 (x : Int) (y : Int) = ((x &&& y : Nat) : Int) := by
  have h3 : ((BitVec.ofInt 64 (x : Int)) &&& (BitVec.ofInt 64 (y : Int))).toNat = x &&& y := by
    rw [BitVec.toNat_and, BitVec.toNat_ofInt, BitVec.toNat_ofInt]
    have e1 : ((x : Int) % ((2 ^ 64 : Nat) : Int)).toNat = x := by omega
    have e2 : ((y : Int) % ((2 ^ 64 : Nat) : Int)).toNat = y := by omega
    rw [e1, e2]
  have h4 : x &&& y ≤ x := Nat.and_le_left
  show IntKind.u64.wrap ((((BitVec.ofInt 64 (x : Int)) &&& (BitVec.ofInt 64 (y : Int))).toNat : Nat) : Int) = _
  rw [h3, wu64_id (by omega) (by omega)]
theorem and7 {x : Nat} (hx : x < 18446744073709551616) : bA .u64 (x : Int) 127 = ((x % 128 : Nat) : Int) := by
  have := and_nat hx (y := 127) (by omega)
  rw [show ((127 : Nat) : Int) = 127 from rfl] at this
  rw [this]
  have h := Nat.and_two_pow_sub_one_eq_mod x 7
  rw [show (2 : Nat) ^ 7 - 1 = 127 from rfl] at h
  rw [h]

theorem rp_1 (K : Nat) (j : List Int → Option (List Int)) : ∀ (d m y : Nat) (acc : List Int), y < 128 ^ d → d ≤ 9 → d < m → acc.length + d ≤ 1000 → confidantref1_Put.l1 K j m acc (y : Int) = j (hi y ++ acc)
  | 0, m, y, acc, hy, hd, hm, hw => by
    obtain ⟨m, rfl⟩ : ∃ k, m = k + 1 := ⟨m - 1, by omega⟩
    have : y = 0 := by simpa using hy
    subst this
    rw [confidantref1_Put.l1.eq_2, if_neg (by omega)]; rfl
  | d + 1, m, y, acc, hy, hd, hm, hw => by
    obtain ⟨m, rfl⟩ : ∃ k, m = k + 1 := ⟨m - 1, by omega⟩
    have hlt : y < 18446744073709551616 := Nat.lt_of_lt_of_le hy (Nat.le_trans (Nat.pow_le_pow_right (by decide) hd) (by decide))
    rw [confidantref1_Put.l1.eq_2]
    by_cases h0 : y = 0
    · subst h0; rw [if_neg (by omega)]; rfl
    · have e1 : sR .u64 (y : Int) 7 = ((y / 128 : Nat) : Int) := sR_nat y 7 hlt
      have e2 : IntKind.u8.wrap ((y % 128 : Nat) : Int) = ((y % 128 : Nat) : Int) := wu8_id (by omega) (by omega)
      have e3 : y % 128 % 128 = y % 128 := by omega
      rw [if_pos (by omega), and7 hlt, e2, b_or _ (by omega), e1, e3]
      simp only [lt, List.length_cons, List.length_nil]
      rw [if_pos (by omega), rp_1 K j d m (y / 128) _ (Nat.div_lt_of_lt_mul (by rw [Nat.pow_succ, Nat.mul_comm] at hy; exact hy)) (by omega) (by omega) (by simp; omega), hi_eq hlt h0, List.append_assoc]

theorem rp_0 (K : Nat) (ns : List Nat) (hU : U64 ns) (hl : ns.length ≤ 10000) (hK : 12 ≤ K) : ∀ (d m i : Nat), i + d = ns.length → d < m → confidantref1_Put.l0 K (ints ns) m (encs (ns.take i)) (i : Int) = some (encs ns)
  | 0, m, i, hd, hm => by
    obtain ⟨m, rfl⟩ : ∃ k, m = k + 1 := ⟨m - 1, by omega⟩
    have hlen : (ints ns).length = ns.length := by simp [ints]
    rw [confidantref1_Put.l0.eq_2, if_neg (by omega), List.take_of_length_le (by omega)]
  | d + 1, m, i, hd, hm => by
    obtain ⟨m, rfl⟩ : ∃ k, m = k + 1 := ⟨m - 1, by omega⟩
    have hlen : (ints ns).length = ns.length := by simp [ints]
    have hi : i < ns.length := by omega
    have hx : (ints ns).getD (i : Int).toNat 0 = ((ns[i] : Nat) : Int) := by simp [ints, List.getD, hi]
    have hn := hU _ (List.getElem_mem hi)
    have hle := encs_len (ns.take i)
    rw [List.length_take] at hle
    have e1 : sR .u64 ((ns[i] : Nat) : Int) 7 = ((ns[i] / 128 : Nat) : Int) := sR_nat ns[i] 7 hn
    have e2 : IntKind.u8.wrap ((ns[i] % 128 : Nat) : Int) = ((ns[i] % 128 : Nat) : Int) := wu8_id (by omega) (by omega)
    have hd9 : ns[i] / 128 < 128 ^ 9 := Nat.lt_of_lt_of_le (show ns[i] / 128 < 144115188075855872 + 1 by omega) (by decide)
    rw [confidantref1_Put.l0.eq_2, if_pos (by omega)]
    simp only [lt]
    rw [if_pos (by omega), hx, and7 hn, e1, e2, rp_1 K _ 9 K (ns[i] / 128) _ hd9 (by omega) (by omega) (by simp)]
    have he := enc_len ns[i]
    have e3 : Reads.hi (ns[i] / 128) ++ [((ns[i] % 128 : Nat) : Int)] = enc ns[i] := rfl
    rw [e3, if_pos (by omega), w64_id (by omega) (by omega), show ((i : Int) + 1) = ((i + 1 : Nat) : Int) by omega]
    have e7 : encs (ns.take i) ++ enc ns[i] = encs (ns.take (i + 1)) := by
      rw [List.take_add_one, encs_app]
      simp [hi, encs]
    rw [e7]
    exact rp_0 K ns hU hl hK d m (i + 1) (by omega) (by omega)
theorem rput_f (K : Nat) (ns : List Nat) (hU : U64 ns) (hl : ns.length ≤ 10000) (hK : 12 ≤ K) (hK2 : ns.length < K) : confidantref1_Put.f K (ints ns) = some (encs ns) := rp_0 K ns hU hl hK ns.length K 0 (by omega) hK2
theorem b_127 : ∀ c : Nat, c < 256 → bA .u8 (c : Int) 127 = ((c % 128 : Nat) : Int) := by decide +kernel

theorem rn_0 (K : Nat) (l : List Int) (most : Int) (hl : l.length ≤ 1000000) (hB : IsB l) : ∀ (d m i a : Nat), i + d = l.length → d < m → a < 18446744073709551616 →
    confidantref1_Reader_Num.l0 K l 0 most (some ([], 21, 0)) m (a : Int) (i : Int) = some (rdN most (l.drop i) a (decide (i = 0)))
  | 0, m, i, a, hd, hm, ha => by
    obtain ⟨m, rfl⟩ : ∃ k, m = k + 1 := ⟨m - 1, by omega⟩
    rw [confidantref1_Reader_Num.l0.eq_2, if_neg (by omega), List.drop_of_length_le (by omega)]
    rfl
  | d + 1, m, i, a, hd, hm, ha => by
    obtain ⟨m, rfl⟩ : ∃ k, m = k + 1 := ⟨m - 1, by omega⟩
    have hi : i < l.length := by omega
    have e1 : l.getD (i : Int).toNat 0 = l[i] := by simp [List.getD, hi]
    obtain ⟨c, hc, hc2⟩ := hB _ (List.getElem_mem hi)
    have e2 : l.drop i = (c : Int) :: l.drop (i + 1) := by rw [List.drop_eq_getElem_cons hi, hc]
    have e4 : IntKind.i64.wrap ((i : Int) + 1) = ((i + 1 : Nat) : Int) := by rw [w64_id (by omega) (by omega)]; omega
    have e5 : (i : Int) = 0 ↔ i = 0 := by omega
    have e7 : IntKind.u64.wrap ((c % 128 : Nat) : Int) = ((c % 128 : Nat) : Int) := wu64_id (by omega) (by omega)
    rw [confidantref1_Reader_Num.l0.eq_2, if_pos (by omega), e2]
    simp only [lt, e1, hc, e4]
    rw [if_pos (by omega)]
    have hbad : confidantref1_Reader_fail.f K l 0 20 = some ([], 20) := rfl
    have hlong : confidantref1_Reader_fail.f K l 0 22 = some ([], 22) := rfl
    have step : ∀ (f : Bool), ¬ (f = true ∧ (c : Int) = 128) → (i = 0 → f = true) → (i ≠ 0 → f = false) → ¬ 144115188075855872 ≤ a →
        (if (c : Int) < 128 then if bO .u64 (sL .u64 (a : Int) 7) (IntKind.u64.wrap (bA .u8 (c : Int) 127)) > most then b2 (confidantref1_Reader_fail.f K l 0 22) fun t9629 t9630 => some (t9629, t9630, 0) else if 0 ≤ ((i + 1 : Nat) : Int) then if ((i + 1 : Nat) : Int) ≤ (l.length : Int) then some (l.drop ((i + 1 : Nat) : Int).toNat, 0, bO .u64 (sL .u64 (a : Int) 7) (IntKind.u64.wrap (bA .u8 (c : Int) 127))) else none else none else confidantref1_Reader_Num.l0 K l 0 most (some ([], 21, 0)) m (bO .u64 (sL .u64 (a : Int) 7) (IntKind.u64.wrap (bA .u8 (c : Int) 127))) ((i + 1 : Nat) : Int)) = some (rdN most ((c : Int) :: l.drop (i + 1)) a f) := by
      intro f h1 h2 h3 h4
      rw [sL7 (by omega), b_127 c hc2, e7, or7 (by omega) (by omega)]
      unfold rdN
      rw [if_neg (c := (f = true ∧ (c : Int) = 128) ∨ 144115188075855872 ≤ a) (fun h => h.elim h1 h4)]
      simp only [Int.toNat_natCast]
      by_cases h5 : (c : Int) < 128
      · rw [if_pos h5, if_pos h5]
        by_cases h6 : ((128 * a + c % 128 : Nat) : Int) > most
        · rw [if_pos h6, if_pos h6, hlong]; rfl
        · rw [if_neg h6, if_neg h6, if_pos (by omega), if_pos (by omega)]
      · rw [if_neg h5, if_neg h5, rn_0 K l most hl hB d m (i + 1) _ (by omega) (by omega) (by omega)]
        congr 2
    have hz : ((a : Nat) : Int) > 144115188075855871 ↔ 144115188075855872 ≤ a := by omega
    have bad : ∀ f : Bool, ((f = true ∧ (c : Int) = 128) ∨ 144115188075855872 ≤ a) → rdN most ((c : Int) :: l.drop (i + 1)) a f = ([], 20, 0) := by
      intro f h
      unfold rdN
      rw [if_pos h]
    by_cases h0 : i = 0
    · rw [if_pos (e5.2 h0), decide_eq_true h0]
      by_cases h1 : (c : Int) = 128
      · rw [if_pos h1, if_pos trivial, hbad, bad true (.inl ⟨rfl, h1⟩)]; rfl
      · rw [if_neg h1]
        by_cases h2 : 144115188075855872 ≤ a
        · rw [if_pos (decide_eq_true (hz.2 h2)), hbad, bad true (.inr h2)]; rfl
        · rw [if_neg (by rw [decide_eq_false (by rw [hz]; exact h2)]; decide)]
          exact step true (by simp [h1]) (by simp) (by simp [h0]) h2
    · rw [if_neg (by omega), decide_eq_false h0]
      by_cases h2 : 144115188075855872 ≤ a
      · rw [if_pos (decide_eq_true (hz.2 h2)), hbad, bad false (.inr h2)]; rfl
      · rw [if_neg (by rw [decide_eq_false (by rw [hz]; exact h2)]; decide)]
        exact step false (by simp) (by simp [h0]) (by simp) h2

/-- a lookN for a number: what is left, the error, the number -/
def lookN (l : List Int) (e most : Int) : List Int × Int × Int := if e = 0 then rdN most l 0 true else (l, e, 0)
theorem num_look (K : Nat) (l : List Int) (e most : Int) (hl : l.length ≤ 1000000) (hB : IsB l) (hK : l.length < K) : pack_Reader_Num.f K l e most = some (lookN l e most) := by
  unfold lookN
  by_cases h : e = 0
  · subst h; rw [if_pos rfl, num_f K l most hl hB hK]
  · rw [if_neg h, num_err K l e most h]
theorem rnum_look (K : Nat) (l : List Int) (e most : Int) (hl : l.length ≤ 1000000) (hB : IsB l) (hK : l.length < K) : confidantref1_Reader_Num.f K l e most = some (lookN l e most) := by
  unfold lookN confidantref1_Reader_Num.f
  by_cases h : e = 0
  · subst h
    rw [if_pos rfl, if_pos rfl]
    exact rn_0 K l most hl hB l.length K 0 0 (by omega) hK (by omega)
  · rw [if_neg h, if_neg h]

theorem rdN_ok (most : Int) : ∀ (l : List Int) (a : Nat) (f : Bool), IsB l → a < 18446744073709551616 → (rdN most l a f).1.length ≤ l.length ∧ IsB (rdN most l a f).1 ∧ 0 ≤ (rdN most l a f).2.2 ∧ ((rdN most l a f).2.1 ≠ 0 → (rdN most l a f).2.2 = 0) ∧ (rdN most l a f).2.2 < 18446744073709551616
  | [], a, f, _, _ => ⟨Nat.le_refl _, IsB.nil, by simp [rdN], by simp [rdN], by simp [rdN]⟩
  | c :: l, a, f, hB, ha => by
    have hBl : IsB l := fun x hx => hB x (by simp [hx])
    unfold rdN
    split
    · exact ⟨by simp, IsB.nil, by simp, by simp, by simp⟩
    · rename_i h
      have ha2 : a < 144115188075855872 := by
        rcases Nat.lt_or_ge a 144115188075855872 with h2 | h2
        · exact h2
        · exact absurd (.inr h2) h
      split
      · split
        · exact ⟨by simp, IsB.nil, by simp, by simp, by simp⟩
        · exact ⟨by simp, hBl, by simp only; omega, by simp, by simp only; omega⟩
      · obtain ⟨h1, h2, h3, h4, h5⟩ := rdN_ok most l (128 * a + c.toNat % 128) false hBl (by omega)
        exact ⟨by simp; omega, h2, h3, h4, h5⟩
theorem look_ok (l : List Int) (e most : Int) (hB : IsB l) : (lookN l e most).1.length ≤ l.length ∧ IsB (lookN l e most).1 ∧ 0 ≤ (lookN l e most).2.2 ∧ ((lookN l e most).2.1 ≠ 0 → (lookN l e most).2.2 = 0) ∧ (lookN l e most).2.2 < 18446744073709551616 := by
  unfold lookN
  split
  · exact rdN_ok most l 0 true hB (by omega)
  · exact ⟨Nat.le_refl _, hB, by simp, by simp, by simp⟩

theorem rd_hi (most : Int) : ∀ (f m : Nat) (rest : List Int), m ≤ f → m < 18446744073709551616 → rdN most (hi m ++ rest) 0 true = if m = 0 then rdN most rest 0 true else rdN most rest m false
  | f, 0, rest, _, _ => by rw [hi_zero]; rfl
  | 0, m + 1, rest, h, _ => by omega
  | f + 1, m + 1, rest, h, hm => by
    rw [hi_eq hm (by omega), List.append_assoc, rd_hi most f ((m + 1) / 128) _ (by omega) (by omega), if_neg (show ¬ m + 1 = 0 by omega)]
    have e1 : (((m + 1) % 128 + 128 : Nat) : Int).toNat % 128 = (m + 1) % 128 := by omega
    by_cases h0 : (m + 1) / 128 = 0
    · rw [if_pos h0]
      show rdN most ((((m + 1) % 128 + 128 : Nat) : Int) :: rest) 0 true = _
      rw [rdN, if_neg (by omega), if_neg (by omega), e1]
      congr 1
      omega
    · rw [if_neg h0]
      show rdN most ((((m + 1) % 128 + 128 : Nat) : Int) :: rest) ((m + 1) / 128) false = _
      rw [rdN, if_neg (by simp; omega), if_neg (by omega), e1]
      congr 1
      omega

theorem rd_enc (most : Int) (n : Nat) (rest : List Int) (hn : n < 18446744073709551616) : rdN most (enc n ++ rest) 0 true = if (n : Int) > most then ([], 22, 0) else (rest, 0, (n : Int)) := by
  unfold enc
  rw [List.append_assoc, rd_hi most _ (n / 128) _ (Nat.le_refl _) (by omega)]
  have e1 : ((n % 128 : Nat) : Int).toNat % 128 = n % 128 := by omega
  by_cases h0 : n / 128 = 0
  · rw [if_pos h0]
    show rdN most (((n % 128 : Nat) : Int) :: rest) 0 true = _
    rw [rdN, if_neg (by omega), if_pos (by omega), e1, show 128 * 0 + n % 128 = n by omega]
  · rw [if_neg h0]
    show rdN most (((n % 128 : Nat) : Int) :: rest) (n / 128) false = _
    rw [rdN, if_neg (by simp; omega), if_pos (by omega), e1, show 128 * (n / 128) + n % 128 = n by omega]

def bs (l : List Int) : List UInt8 := l.map fun n => UInt8.ofNat n.toNat
theorem bStr_data (l : List Int) : (bStr l).data.toList = bs l := by
  have key : ∀ (l : List Int) (r : ByteArray), (l.foldl (fun r n => r.push (UInt8.ofNat n.toNat)) r).data.toList = r.data.toList ++ bs l := by
    intro l
    induction l with
    | nil => intro r; simp [bs]
    | cons a l ih => intro r; rw [List.foldl_cons, ih]; simp [bs, ByteArray.push]
  have := key l ByteArray.empty
  simpa [bStr] using this
theorem bStr_toList (l : List Int) : (bStr l).toList = bs l := by rw [ByteArray.toList_eq, bStr_data]
theorem bStr_size (l : List Int) : (bStr l).size = l.length := by
  have : (bStr l).data.toList.length = l.length := by rw [bStr_data]; simp [bs]
  simpa using this
theorem bs_inj {a b : List Int} (ha : IsB a) (hb : IsB b) (h : bs a = bs b) : a = b := by
  induction a generalizing b with
  | nil => cases b with
    | nil => rfl
    | cons y b => simp [bs] at h
  | cons x a ih => cases b with
    | nil => simp [bs] at h
    | cons y b =>
      simp only [bs, List.map_cons, List.cons.injEq] at h
      obtain ⟨c, rfl, hc⟩ := ha x (by simp)
      obtain ⟨d, rfl, hd⟩ := hb y (by simp)
      have h1 : c = d := by
        have := congrArg UInt8.toNat h.1
        simp at this
        omega
      rw [h1, ih (fun z hz => ha z (by simp [hz])) (fun z hz => hb z (by simp [hz])) h.2]
theorem bStr_eq {a b : List Int} (ha : IsB a) (hb : IsB b) : ((bStr a).toList == (bStr b).toList) = decide (a = b) := by
  rw [bStr_toList, bStr_toList]
  by_cases h : a = b
  · subst h; simp
  · rw [decide_eq_false h]
    simp only [beq_eq_false_iff_ne, ne_eq]
    exact fun e => h (bs_inj ha hb e)
theorem bStr_self (a : List Int) : ((bStr a).toList == (bStr a).toList) = true := by simp
/-- what is read is what stands there -/
theorem rd_back (most : Int) : ∀ (l : List Int) (a : Nat) (f : Bool) (rest : List Int) (v : Int), IsB l → a < 18446744073709551616 → (f = true → a = 0) → (f = false → a ≠ 0) → rdN most l a f = (rest, 0, v) →
    ∃ n : Nat, v = (n : Int) ∧ n < 18446744073709551616 ∧ hi a ++ l = enc n ++ rest ∧ v ≤ most
  | [], a, f, rest, v, _, _, _, _, h => by simp [rdN] at h
  | c :: l, a, f, rest, v, hB, ha, hf, hf2, h => by
    have hBl : IsB l := fun x hx => hB x (by simp [hx])
    obtain ⟨cn, rfl, hc⟩ := hB c (by simp)
    unfold rdN at h
    split at h
    · simp at h
    · rename_i h0
      have ha2 : a < 144115188075855872 := by
        rcases Nat.lt_or_ge a 144115188075855872 with h2 | h2
        · exact h2
        · exact absurd (.inr h2) h0
      split at h
      · rename_i h1
        split at h
        · simp at h
        · rename_i h2
          simp only [Prod.mk.injEq] at h
          obtain ⟨rfl, _, rfl⟩ := h
          have hcn : cn < 128 := by omega
          refine ⟨_, rfl, by simp only [Int.toNat_natCast]; omega, ?_, by omega⟩
          unfold enc
          simp only [Int.toNat_natCast]
          have e1 : (128 * a + cn % 128) / 128 = a := by omega
          have e2 : (128 * a + cn % 128) % 128 = cn := by omega
          rw [e1, e2, List.append_assoc]
          rfl
      · rename_i h1
        have hcn : 128 ≤ cn := by omega
        have hne : 128 * a + cn % 128 ≠ 0 := by
          intro g
          have g1 : a = 0 := by omega
          have g2 : cn = 128 := by omega
          cases f with
          | true => exact h0 (.inl ⟨rfl, by rw [g2]; rfl⟩)
          | false => exact hf2 rfl g1
        simp only [Int.toNat_natCast] at h
        obtain ⟨n, hn1, hn2, hn3, hn4⟩ := rd_back most l (128 * a + cn % 128) false rest v hBl (by omega) (fun g => by simp at g) (fun _ => hne) h
        refine ⟨n, hn1, hn2, ?_, hn4⟩
        rw [← hn3, hi_eq (by omega) hne, List.append_assoc]
        have e1 : (128 * a + cn % 128) / 128 = a := by omega
        have e2 : (128 * a + cn % 128) % 128 + 128 = cn := by omega
        rw [e1, e2]
        rfl
theorem look_back (l : List Int) (e most : Int) (rest : List Int) (v : Int) (hB : IsB l) (h : lookN l e most = (rest, 0, v)) : e = 0 ∧ ∃ n : Nat, v = (n : Int) ∧ n < 18446744073709551616 ∧ l = enc n ++ rest ∧ v ≤ most := by
  unfold lookN at h
  by_cases he : e = 0
  · rw [if_pos he] at h
    refine ⟨he, ?_⟩
    obtain ⟨n, h1, h2, h3, h4⟩ := rd_back most l 0 true rest v hB (by omega) (fun _ => rfl) (fun g => by simp at g) h
    rw [hi_zero, List.nil_append] at h3
    exact ⟨n, h1, h2, h3, h4⟩
  · rw [if_neg he] at h
    simp only [Prod.mk.injEq] at h
    exact absurd h.2.1 he
end Go.Proofs.Ytipaaapbapijhaa.Reads
