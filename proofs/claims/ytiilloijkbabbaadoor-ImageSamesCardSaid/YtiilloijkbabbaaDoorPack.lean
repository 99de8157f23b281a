import Derived.Test.YtiilloijkbabbaaDoorG0
import Derived.Test.YtiilloijkbabbaaDoorFwLaw
/- Numbers as bytes: what Put writes and what Num reads. Conditions: in the lemmas. -/
set_option linter.unusedVariables false
set_option linter.unusedSimpArgs false
namespace Go.Proofs.YtiilloijkbabbaaDoor.Pack
open Go Go.Fw Go.RowKit Go.Proofs.YtiilloijkbabbaaDoor.G

/-! ### bytes -/
theorem b_and : ∀ c : Nat, c < 256 → bA .u8 (c : Int) 128 = if c < 128 then 0 else 128 := by decide +kernel
theorem b_not : ∀ c : Nat, c < 256 → bN .u8 (c : Int) 128 = ((c % 128 : Nat) : Int) := by decide +kernel
theorem b_or : ∀ c : Nat, c < 256 → bO .u8 (c : Int) 128 = ((c % 128 + 128 : Nat) : Int) := by decide +kernel

theorem sR_nat (n s : Nat) (h : n < 18446744073709551616) : sR .u64 (n : Int) (s : Int) = ((n / 2 ^ s : Nat) : Int) := by
  unfold sR
  simp only [IntKind.bits, Int.toNat_natCast]
  have e : ∀ t : Nat, Int.fdiv (n : Int) (2 ^ t : Int) = ((n / 2 ^ t : Nat) : Int) := by
    intro t
    rw [Int.fdiv_eq_ediv_of_nonneg _ (by exact Int.le_of_lt (Int.pow_pos (by decide)))]
    norm_cast
  rw [e]
  by_cases hs : s ≤ 64
  · rw [Nat.min_eq_left hs]
  · rw [Nat.min_eq_right (by omega)]
    have h1 : n / 2 ^ 64 = 0 := Nat.div_eq_of_lt h
    have h2 : n / 2 ^ s = 0 := Nat.div_eq_of_lt (Nat.lt_of_lt_of_le h (by
      have : (2 : Nat) ^ 64 ≤ 2 ^ s := Nat.pow_le_pow_right (by decide) (by omega)
      exact this))
    rw [h1, h2]

theorem p7 (h : Nat) : 2 ^ (7 * h) = 128 ^ h := by rw [Nat.pow_mul]

/-! ### what is written -/
def hiF : Nat → Nat → List Int
  | 0, _ => []
  | f + 1, m => if m = 0 then [] else hiF f (m / 128) ++ [((m % 128 + 128 : Nat) : Int)]
theorem hiF_more : ∀ (f m : Nat), m < 128 ^ f → hiF (f + 1) m = hiF f m
  | 0, m, h => by
    have : m = 0 := by simpa using h
    subst this; rfl
  | f + 1, m, h => by
    show (if m = 0 then [] else hiF (f + 1) (m / 128) ++ _) = (if m = 0 then [] else hiF f (m / 128) ++ _)
    rw [hiF_more f (m / 128) (by rw [Nat.pow_succ] at h; exact Nat.div_lt_of_lt_mul (by rw [Nat.mul_comm]; exact h))]
def hi (m : Nat) : List Int := hiF 10 m
theorem hi_zero : hi 0 = [] := rfl
theorem hi_eq {m : Nat} (h : m < 18446744073709551616) (h0 : m ≠ 0) : hi m = hi (m / 128) ++ [((m % 128 + 128 : Nat) : Int)] := by
  unfold hi
  have h1 : hiF 10 (m / 128) = hiF 9 (m / 128) := hiF_more 9 _ (by
    have : m / 128 < 18446744073709551616 / 128 + 1 := by omega
    exact Nat.lt_trans this (by decide))
  rw [h1]
  show (if m = 0 then [] else hiF 9 (m / 128) ++ _) = _
  rw [if_neg h0]
def enc (n : Nat) : List Int := hi (n / 128) ++ [((n % 128 : Nat) : Int)]

theorem hiF_len : ∀ (f m : Nat), (hiF f m).length ≤ f
  | 0, m => Nat.le_refl _
  | f + 1, m => by
    show (if m = 0 then [] else hiF f (m / 128) ++ _).length ≤ _
    split
    · simp
    · have := hiF_len f (m / 128); simp; omega
theorem hi_len (m : Nat) : (hi m).length ≤ 10 := hiF_len 10 m
theorem enc_len (n : Nat) : (enc n).length ≤ 11 := by have := hi_len (n / 128); unfold enc; simp; omega
theorem enc_pos (n : Nat) : 0 < (enc n).length := by unfold enc; simp

def IsB (l : List Int) : Prop := ∀ x ∈ l, ∃ c : Nat, x = (c : Int) ∧ c < 256
theorem IsB.nil : IsB [] := by intro x hx; simp at hx
theorem IsB.app {a b : List Int} (ha : IsB a) (hb : IsB b) : IsB (a ++ b) := fun x hx => by
  rcases List.mem_append.1 hx with h | h
  · exact ha x h
  · exact hb x h
theorem IsB.drop {a : List Int} (h : IsB a) (n : Nat) : IsB (a.drop n) := fun x hx => h x (List.mem_of_mem_drop hx)
theorem IsB.take {a : List Int} (h : IsB a) (n : Nat) : IsB (a.take n) := fun x hx => h x (List.mem_of_mem_take hx)
theorem IsB.of {l : List Int} (h : ∀ x ∈ l, (Lit.int .u8 x).wf = true) : IsB l := fun x hx => by
  have := is_u8 (h x hx)
  exact ⟨x.toNat, by omega, by omega⟩
theorem hiF_B : ∀ (f m : Nat), IsB (hiF f m)
  | 0, m => IsB.nil
  | f + 1, m => by
    show IsB (if m = 0 then [] else hiF f (m / 128) ++ _)
    split
    · exact IsB.nil
    · refine (hiF_B f _).app fun x hx => ?_
      rw [List.mem_singleton.1 hx]
      exact ⟨_, rfl, by omega⟩
theorem enc_B (n : Nat) : IsB (enc n) := (hiF_B 10 _).app fun x hx => by
  rw [List.mem_singleton.1 hx]
  exact ⟨_, rfl, by omega⟩

/-! ### Put -/
def hiL : Nat → Nat → List Int
  | 0, _ => []
  | h + 1, n => ((n / 128 ^ (h + 1) % 128 + 128 : Nat) : Int) :: hiL h n
theorem hiL_snoc : ∀ (h n : Nat), hiL (h + 1) n = hiL h (n / 128) ++ [((n / 128 % 128 + 128 : Nat) : Int)]
  | 0, n => by simp [hiL]
  | h + 1, n => by
    show _ :: hiL (h + 1) n = (_ :: hiL h (n / 128)) ++ _
    rw [hiL_snoc h n, List.cons_append]
    congr 3
    rw [Nat.div_div_eq_div_mul, Nat.pow_succ 128 (h + 1), Nat.mul_comm]
theorem hiL_hi : ∀ (h n : Nat), n < 18446744073709551616 → (h = 0 ∨ n / 128 ^ h ≠ 0) → n / 128 ^ (h + 1) = 0 → hiL h n = hi (n / 128)
  | 0, n, _, _, h2 => by
    have : n / 128 = 0 := by simpa using h2
    rw [this]; rfl
  | h + 1, n, hn, h1, h2 => by
    have h1 : n / 128 ^ (h + 1) ≠ 0 := h1.resolve_left (by omega)
    have e1 : ∀ k, n / 128 / 128 ^ k = n / 128 ^ (k + 1) := fun k => by rw [Nat.div_div_eq_div_mul, Nat.pow_succ, Nat.mul_comm]
    have h0 : n / 128 ≠ 0 := fun h => h1 (by rw [← e1, h, Nat.zero_div])
    rw [hiL_snoc, hi_eq (by omega) h0, hiL_hi h (n / 128) (by omega) ?_ (by rw [e1]; exact h2)]
    by_cases hh : h = 0
    · exact .inl hh
    · exact .inr (by rw [e1]; exact h1)

theorem div_zero_le {n k : Nat} (hn : n < 18446744073709551616) (hk : 10 ≤ k) : n / 128 ^ k = 0 := by
  refine Nat.div_eq_of_lt (Nat.lt_of_lt_of_le hn (Nat.le_trans (by decide : 18446744073709551616 ≤ 128 ^ 10) (Nat.pow_le_pow_right (by decide) hk)))

theorem put_1 (K : Nat) (l : List Int) (x : Int) (j : Int → Option (List Int)) (n : Nat) (hx : l.getD x.toNat 0 = (n : Int)) (hn : n < 18446744073709551616) : ∀ (d m h : Nat), h + d = 10 → d < m → (h = 0 ∨ n / 128 ^ h ≠ 0) →
    ∃ h' : Nat, h' ≤ 10 ∧ (h' = 0 ∨ n / 128 ^ h' ≠ 0) ∧ n / 128 ^ (h' + 1) = 0 ∧ pack_Put.l1 K l x j m (h : Int) = j (h' : Int)
  | d, m, h, hd, hm, h0 => by
    obtain ⟨m, rfl⟩ : ∃ k, m = k + 1 := ⟨m - 1, by omega⟩
    have e1 : IntKind.i64.wrap ((h : Int) + 1) = ((h + 1 : Nat) : Int) := by rw [w64_id (by omega) (by omega)]; omega
    have e2 : IntKind.i64.wrap (7 * ((h + 1 : Nat) : Int)) = ((7 * (h + 1) : Nat) : Int) := by rw [w64_id (by omega) (by omega)]; omega
    have hc : n / 128 ^ (h + 1) = 0 ∨ n / 128 ^ (h + 1) ≠ 0 := by omega
    rw [pack_Put.l1.eq_2, e1, e2, if_neg (by omega), hx, sR_nat _ _ hn, p7]
    rcases hc with hc | hc
    · exact ⟨h, by omega, h0, hc, by rw [hc]; rfl⟩
    · rw [if_neg (by omega)]
      cases d with
      | zero => exact absurd (div_zero_le hn (by omega)) hc
      | succ d => exact put_1 K l x j n hx hn d m (h + 1) (by omega) (by omega) (.inr hc)

theorem put_2 (K : Nat) (l : List Int) (x : Int) (j : List Int → Option (List Int)) (n : Nat) (hx : l.getD x.toNat 0 = (n : Int)) (hn : n < 18446744073709551616) : ∀ (h m : Nat) (out : List Int), h ≤ 10 → h < m → out.length + h ≤ 1000000 →
    pack_Put.l2 K l x j m out (h : Int) = j (out ++ hiL h n)
  | 0, m, out, hh, hm, ho => by
    obtain ⟨m, rfl⟩ : ∃ k, m = k + 1 := ⟨m - 1, by omega⟩
    rw [pack_Put.l2.eq_2, if_neg (by omega)]; simp [hiL]
  | h + 1, m, out, hh, hm, ho => by
    obtain ⟨m, rfl⟩ : ∃ k, m = k + 1 := ⟨m - 1, by omega⟩
    have e2 : IntKind.i64.wrap (7 * ((h + 1 : Nat) : Int)) = ((7 * (h + 1) : Nat) : Int) := by rw [w64_id (by omega) (by omega)]; omega
    have e3 : IntKind.i64.wrap (((h + 1 : Nat) : Int) - 1) = (h : Int) := by rw [w64_id (by omega) (by omega)]; omega
    have e4 : IntKind.u8.wrap ((n / 128 ^ (h + 1) : Nat) : Int) = ((n / 128 ^ (h + 1) % 256 : Nat) : Int) := by
      generalize n / 128 ^ (h + 1) = q
      rw [wu8]; omega
    have e5 : n / 128 ^ (h + 1) % 256 % 128 = n / 128 ^ (h + 1) % 128 := by generalize n / 128 ^ (h + 1) = q; omega
    have e6 : n / 128 ^ (h + 1) % 256 < 256 := Nat.mod_lt _ (by decide)
    rw [pack_Put.l2.eq_2, if_pos (by omega), e2, if_neg (by omega), hx, sR_nat _ _ hn, p7, e4, b_or _ e6, e3, e5]
    simp only [lt, List.length_cons, List.length_nil]
    rw [if_pos (by omega), put_2 K l x j n hx hn h m _ (by omega) (by omega) (by simp; omega)]
    simp [hiL, List.append_assoc]

def encs : List Nat → List Int
  | [] => []
  | n :: l => enc n ++ encs l
theorem encs_app : ∀ (a b : List Nat), encs (a ++ b) = encs a ++ encs b
  | [], b => rfl
  | n :: a, b => by show enc n ++ encs (a ++ b) = (enc n ++ encs a) ++ encs b; rw [encs_app a b, List.append_assoc]
theorem encs_len : ∀ (a : List Nat), (encs a).length ≤ 11 * a.length
  | [] => by simp [encs]
  | n :: a => by have := encs_len a; have := enc_len n; simp [encs]; omega
theorem encs_B : ∀ (a : List Nat), IsB (encs a)
  | [] => IsB.nil
  | n :: a => (enc_B n).app (encs_B a)
def ints (l : List Nat) : List Int := l.map Int.ofNat
def U64 (l : List Nat) : Prop := ∀ n ∈ l, n < 18446744073709551616

theorem put_0 (K : Nat) (ns : List Nat) (hU : U64 ns) (hl : ns.length ≤ 10000) (hK : 12 ≤ K) : ∀ (d m i : Nat), i + d = ns.length → d < m → pack_Put.l0 K (ints ns) m (encs (ns.take i)) (i : Int) = some (encs ns)
  | 0, m, i, hd, hm => by
    obtain ⟨m, rfl⟩ : ∃ k, m = k + 1 := ⟨m - 1, by omega⟩
    have hlen : (ints ns).length = ns.length := by simp [ints]
    rw [pack_Put.l0.eq_2, if_neg (by omega), List.take_of_length_le (by omega)]
  | d + 1, m, i, hd, hm => by
    obtain ⟨m, rfl⟩ : ∃ k, m = k + 1 := ⟨m - 1, by omega⟩
    have hlen : (ints ns).length = ns.length := by simp [ints]
    have hi : i < ns.length := by omega
    have hx : (ints ns).getD (i : Int).toNat 0 = ((ns[i] : Nat) : Int) := by simp [ints, List.getD, hi]
    have hn := hU _ (List.getElem_mem hi)
    have hle := encs_len (ns.take i)
    rw [List.length_take] at hle
    rw [pack_Put.l0.eq_2, if_pos (by omega)]
    simp only [lt]
    rw [if_pos (by omega)]
    obtain ⟨h', g1, g2, g3, g4⟩ := put_1 K (ints ns) i (fun x7295 => pack_Put.l2 K (ints ns) (i : Int) (fun x7455 => if (x7455.length + [bN .u8 (IntKind.u8.wrap ((ints ns).getD (i : Int).toNat 0)) 128].length) * 1 ≤ 140737488355328 then pack_Put.l0 K (ints ns) m (x7455 ++ [bN .u8 (IntKind.u8.wrap ((ints ns).getD (i : Int).toNat 0)) 128]) (IntKind.i64.wrap ((i : Int) + 1)) else none) K (encs (ns.take i)) x7295) ns[i] hx hn 10 K 0 (by omega) (by omega) (.inl rfl)
    refine Eq.trans g4 ?_
    rw [put_2 K (ints ns) i _ ns[i] hx hn h' K _ g1 (by omega) (by omega), hx, hiL_hi h' _ hn g2 g3]
    have e4 : IntKind.u8.wrap ((ns[i] : Nat) : Int) = ((ns[i] % 256 : Nat) : Int) := by rw [wu8]; omega
    have e5 : ns[i] % 256 % 128 = ns[i] % 128 := by omega
    have e6 := hi_len (ns[i] / 128)
    rw [e4, b_not _ (by omega), e5, if_pos (by simp; omega), w64_id (by omega) (by omega), show ((i : Int) + 1) = ((i + 1 : Nat) : Int) by omega]
    have e7 : encs (ns.take i) ++ Pack.hi (ns[i] / 128) ++ [((ns[i] % 128 : Nat) : Int)] = encs (ns.take (i + 1)) := by
      rw [List.take_add_one, encs_app]
      simp [hi, encs, enc]
    rw [e7]
    exact put_0 K ns hU hl hK d m (i + 1) (by omega) (by omega)

theorem put_f (K : Nat) (ns : List Nat) (hU : U64 ns) (hl : ns.length ≤ 10000) (hK : 12 ≤ K) (hK2 : ns.length < K) : pack_Put.f K (ints ns) = some (encs ns) := put_0 K ns hU hl hK ns.length K 0 (by omega) hK2
end Go.Proofs.YtiilloijkbabbaaDoor.Pack
