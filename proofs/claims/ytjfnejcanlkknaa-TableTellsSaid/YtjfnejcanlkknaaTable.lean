import Derived.Test.YtjfnejcanlkknaaG2
import Derived.Test.YtjfnejcanlkknaaFwLaw
/- Tables of rounds. Conditions: in the lemmas. -/
set_option linter.unusedVariables false
set_option linter.unusedSimpArgs false
namespace Go.Proofs.Ytjfnejcanlkknaa.Pure
open Go Go.Fw Go.RowKit Go.Proofs.Ytjfnejcanlkknaa.G

theorem tb_known : confidantlaw18_known.f 1000 = some true := by kernel_rfl
/-- enough fuel, its number hidden -/
theorem fuel : ∃ K, 1000 ≤ K ∧ confidantlaw18_known.f K = some true := ⟨1000, Nat.le_refl _, tb_known⟩

/-- whose a round is -/
def rd (t : List Int) (r : Nat) : Int := t.getD (r % t.length) 0
def hit (t : List Int) (c : Int) (r : Nat) : Int := if rd t r = c then 1 else 0
/-- how many of the first rounds are whose -/
def G (t : List Int) (c : Int) : Nat → Int
  | 0 => 0
  | r + 1 => G t c r + hit t c r
theorem hit_in (t : List Int) (c : Int) (r : Nat) : 0 ≤ hit t c r ∧ hit t c r ≤ 1 := by unfold hit; split <;> omega
theorem G_in (t : List Int) (c : Int) : ∀ r, 0 ≤ G t c r ∧ G t c r ≤ r
  | 0 => by simp [G]
  | r + 1 => by have := G_in t c r; have := hit_in t c r; simp only [G]; omega
theorem hit_per (t : List Int) (c : Int) (r : Nat) : hit t c (r + t.length) = hit t c r := by unfold hit rd; rw [Nat.add_mod_right]
theorem G_per (t : List Int) (c : Int) : ∀ r, G t c (r + t.length) = G t c r + G t c t.length
  | 0 => by simp [G]
  | r + 1 => by
    have h := G_per t c r
    rw [show r + 1 + t.length = (r + t.length) + 1 from by omega]
    simp only [G]
    rw [h, hit_per]
    omega
theorem G_mul (t : List Int) (c : Int) (r : Nat) : ∀ q : Nat, G t c (r + q * t.length) = G t c r + q * G t c t.length
  | 0 => by simp
  | q + 1 => by
    rw [Nat.add_mul, Nat.one_mul, ← Nat.add_assoc, G_per, G_mul t c r q]
    have : ((q + 1 : Nat) : Int) * G t c t.length = (q : Int) * G t c t.length + G t c t.length := by
      rw [Int.natCast_add, Int.add_mul]; simp
    omega
theorem G_div (t : List Int) (c : Int) (r : Nat) : ((r / t.length : Nat) : Int) * G t c t.length + G t c (r % t.length) = G t c r := by
  have h := G_mul t c (r % t.length) (r / t.length)
  have e : r % t.length + r / t.length * t.length = r := by rw [Nat.mul_comm]; exact Nat.mod_add_div r t.length
  rw [e] at h
  omega
theorem G_win (t : List Int) (c : Int) (j : Nat) : ∀ d, (∀ i, i < d → rd t (j + i) ≠ c) → G t c (j + d) = G t c j
  | 0, _ => rfl
  | d + 1, h => by
    have h1 := G_win t c j d fun i hi => h i (by omega)
    show G t c (j + d) + hit t c (j + d) = _
    have : hit t c (j + d) = 0 := by unfold hit; rw [if_neg (h d (by omega))]
    omega

theorem mx_nat (r : Nat) : mx (r : Int) 0 = (r : Int) := by unfold mx; rw [if_neg (by omega)]
theorem tmod_nat (a b : Nat) : Int.tmod (a : Int) (b : Int) = ((a % b : Nat) : Int) := by
  rw [Int.tmod_eq_emod_of_nonneg (by omega)]; rfl

theorem at_f (K : Nat) {t : List Int} (hL : 0 < t.length) (r : Nat) : table_At.f K t (r : Int) = some (rd t r) := by
  unfold table_At.f
  have := Nat.mod_lt r hL
  rw [if_neg (by omega), mx_nat, tmod_nat, if_pos (by omega), if_pos (by omega)]
  rfl
theorem at_neg (K : Nat) {t : List Int} (hL : 0 < t.length) {r : Int} (h : r ≤ 0) : table_At.f K t r = some (t.getD 0 0) := by
  unfold table_At.f
  have e : mx r 0 = ((0 : Nat) : Int) := by unfold mx; split <;> omega
  rw [if_neg (by omega), e, tmod_nat, Nat.zero_mod, if_pos (by omega), if_pos (by omega)]
  rfl

/-- the first round that is whose, of so many from one on -/
def nx (t : List Int) (c : Int) : Nat → Nat → Int
  | 0, _ => -1
  | d + 1, j => if rd t j = c then (j : Int) else nx t c d (j + 1)

theorem nx_spec (t : List Int) (c : Int) : ∀ d j, (nx t c d j = -1 ∧ ∀ i, i < d → rd t (j + i) ≠ c) ∨ ∃ i, i < d ∧ nx t c d j = ((j + i : Nat) : Int) ∧ rd t (j + i) = c ∧ ∀ i', i' < i → rd t (j + i') ≠ c
  | 0, j => .inl ⟨rfl, fun i hi => by omega⟩
  | d + 1, j => by
    by_cases h : rd t j = c
    · refine .inr ⟨0, by omega, ?_, h, fun i' hi => by omega⟩
      simp only [nx]; rw [if_pos h]; rfl
    · simp only [nx]
      rw [if_neg h]
      rcases nx_spec t c d (j + 1) with ⟨h1, h2⟩ | ⟨i, hi, h1, h2, h3⟩
      · refine .inl ⟨h1, fun i hi => ?_⟩
        cases i with
        | zero => exact h
        | succ i => have := h2 i (by omega); rwa [show j + 1 + i = j + (i + 1) from by omega] at this
      · refine .inr ⟨i + 1, by omega, by rw [h1]; congr 1; omega, by rwa [show j + (i + 1) = j + 1 + i from by omega], fun i' hi' => ?_⟩
        cases i' with
        | zero => exact h
        | succ i' => have := h3 i' (by omega); rwa [show j + 1 + i' = j + (i' + 1) from by omega] at this

theorem next_l (K : Nat) {t : List Int} (hL : 0 < t.length) (hL2 : t.length ≤ 1000) (c : Int) (r : Nat) (hr : r < 1000000000000) : ∀ (d n i : Nat), i + d = t.length → d < n → table_Next.l0 K t (r : Int) c n (i : Int) = some (nx t c d (r + i))
  | 0, n, i, hd, hn => by
    obtain ⟨n, rfl⟩ : ∃ k, n = k + 1 := ⟨n - 1, by omega⟩
    rw [table_Next.l0.eq_2, if_neg (by omega)]
    rfl
  | d + 1, n, i, hd, hn => by
    obtain ⟨n, rfl⟩ : ∃ k, n = k + 1 := ⟨n - 1, by omega⟩
    have hm := Nat.mod_lt r hL
    have hm2 := Nat.mod_lt (r % t.length + i) hL
    rw [table_Next.l0.eq_2, if_pos (by omega), if_neg (by omega), mx_nat, tmod_nat]
    have e1 : IntKind.i64.wrap (((r % t.length : Nat) : Int) + (i : Int)) = ((r % t.length + i : Nat) : Int) := by rw [w64_id (by omega) (by omega)]; omega
    have e2 : (r % t.length + i) % t.length = (r + i) % t.length := by rw [Nat.mod_add_mod]
    have e3 : IntKind.i64.wrap ((r : Int) + (i : Int)) = ((r + i : Nat) : Int) := by rw [w64_id (by omega) (by omega)]; omega
    have e4 : IntKind.i64.wrap ((i : Int) + 1) = ((i + 1 : Nat) : Int) := by rw [w64_id (by omega) (by omega)]; omega
    rw [e1, tmod_nat, if_pos (by omega), if_pos (by omega), e2, e3, e4]
    have ih := next_l K hL hL2 c r hr d n (i + 1) (by omega) (by omega)
    simp only [nx, Int.toNat_natCast]
    show (if rd t (r + i) = c then _ else _) = _
    by_cases h : rd t (r + i) = c
    · rw [if_pos h, if_pos h]
    · rw [if_neg h, if_neg h, ih]
      rfl

theorem next_f (K : Nat) {t : List Int} (hL : 0 < t.length) (hL2 : t.length ≤ 100) (hK : 1000 ≤ K) (c : Int) (r : Nat) (hr : r < 1000000000000) : table_Next.f K t c (r : Int) = some (nx t c t.length r) := by
  unfold table_Next.f
  exact next_l K hL (by omega) c r hr t.length K 0 (by omega) (by omega)

theorem ahead_l (K : Nat) {t : List Int} (hL : 0 < t.length) (hL2 : t.length ≤ 100) (c : Int) (r : Nat) (j : Int → Int → Option Int) : ∀ (d n i : Nat), i + d = t.length → d < n →
    table_ahead.l0 K t c (r : Int) j n (G t c i) (G t c (min i (r % t.length))) (i : Int) = j (G t c t.length) (G t c (r % t.length))
  | 0, n, i, hd, hn => by
    obtain ⟨n, rfl⟩ : ∃ k, n = k + 1 := ⟨n - 1, by omega⟩
    have hm := Nat.mod_lt r hL
    rw [table_ahead.l0.eq_2, if_neg (by omega)]
    rw [show min i (r % t.length) = r % t.length from by omega, show i = t.length from by omega]
  | d + 1, n, i, hd, hn => by
    obtain ⟨n, rfl⟩ : ∃ k, n = k + 1 := ⟨n - 1, by omega⟩
    have hm := Nat.mod_lt r hL
    have ih := ahead_l K hL hL2 c r j d n (i + 1) (by omega) (by omega)
    rw [table_ahead.l0.eq_2, if_pos (by omega)]
    simp only [lt]
    rw [if_pos (by omega), tmod_nat]
    have e4 : IntKind.i64.wrap ((i : Int) + 1) = ((i + 1 : Nat) : Int) := by rw [w64_id (by omega) (by omega)]; omega
    have e5 : t.getD (i : Int).toNat 0 = rd t i := by unfold rd; rw [Nat.mod_eq_of_lt (by omega)]; rfl
    rw [e4, e5]
    have g1 := G_in t c i
    have g2 := G_in t c (min i (r % t.length))
    have s1 : G t c (i + 1) = G t c i + hit t c i := rfl
    by_cases h : rd t i = c
    · have hh : hit t c i = 1 := by unfold hit; rw [if_pos h]
      rw [if_pos h, if_neg (by omega)]
      by_cases h2 : (i : Int) < ((r % t.length : Nat) : Int)
      · rw [if_pos h2, w64_id (x := G t c i + 1) (by omega) (by omega), w64_id (x := G t c (min i (r % t.length)) + 1) (by omega) (by omega)]
        rw [show min (i + 1) (r % t.length) = i + 1 from by omega, s1, hh] at ih
        rw [show min i (r % t.length) = i from by omega]
        exact ih
      · rw [if_neg h2, w64_id (x := G t c i + 1) (by omega) (by omega)]
        rw [show min (i + 1) (r % t.length) = r % t.length from by omega, s1, hh] at ih
        rw [show min i (r % t.length) = r % t.length from by omega]
        exact ih
    · have hh : hit t c i = 0 := by unfold hit; rw [if_neg h]
      rw [if_neg h]
      have e6 : G t c (min (i + 1) (r % t.length)) = G t c (min i (r % t.length)) := by
        by_cases h2 : i < r % t.length
        · rw [show min (i + 1) (r % t.length) = i + 1 from by omega, show min i (r % t.length) = i from by omega, s1, hh]; omega
        · rw [show min (i + 1) (r % t.length) = r % t.length from by omega, show min i (r % t.length) = r % t.length from by omega]
      rw [e6, s1, hh, Int.add_zero] at ih
      exact ih

theorem ahead_f (K : Nat) {t : List Int} (hL : 0 < t.length) (hL2 : t.length ≤ 100) (hK : 1000 ≤ K) (c : Int) (r : Nat) (hr : r < 1000000000000) : table_ahead.f K t c (r : Int) = some (G t c r) := by
  unfold table_ahead.f
  simp only [lt]
  have h := ahead_l K hL hL2 c r (fun x728 x729 => if (t.length : Int) = 0 then none else some (IntKind.i64.wrap ((IntKind.i64.wrap ((IntKind.i64.wrap (Int.tdiv (r : Int) (t.length : Int))) * x728)) + x729))) t.length K 0 (by omega) (by omega)
  simp only [Nat.zero_min] at h
  refine Eq.trans h ?_
  rw [if_neg (by omega)]
  have e1 : Int.tdiv (r : Int) (t.length : Int) = ((r / t.length : Nat) : Int) := by rw [Int.tdiv_eq_ediv_of_nonneg (by omega)]; rfl
  have hd := G_div t c r
  have g1 := G_in t c r
  have g2 := G_in t c (r % t.length)
  have g3 := G_in t c t.length
  have hle : r / t.length ≤ r := Nat.div_le_self _ _
  rw [e1]
  generalize r / t.length = q at hd hle ⊢
  have hp : 0 ≤ (q : Int) * G t c t.length := Int.mul_nonneg (by omega) g3.1
  rw [w64_id (x := (q : Int)) (by omega) (by omega)]
  generalize (q : Int) * G t c t.length = X at hd hp ⊢
  rw [w64_id (x := X) (by omega) (by omega), w64_id (by omega) (by omega), hd]

theorem slots_f (K : Nat) {t : List Int} (hL : 0 < t.length) (hL2 : t.length ≤ 100) (hK : 1000 ≤ K) (c : Int) (a b : Nat) (ha : a < 1000000000000) (hb : b < 1000000000000) : table_Slots.f K t c (a : Int) (b : Int) = some (if b ≤ a then 0 else G t c b - G t c a) := by
  unfold table_Slots.f
  simp only [lt]
  rw [if_neg (by omega), mx_nat, mx_nat, ahead_f K hL hL2 hK c b hb, ahead_f K hL hL2 hK c a ha]
  have g1 := G_in t c a
  have g2 := G_in t c b
  by_cases h : b ≤ a
  · rw [decide_eq_true (by omega), if_pos h]; rfl
  · rw [decide_eq_false (by omega), if_neg h]
    simp only [b1]
    rw [w64_id (by omega) (by omega)]
    rfl

/-! ### the tables that are made -/
def mk (m : Int) (l : List Int) : List Int := l.map (· % m)
theorem mk_len (m : Int) (l : List Int) : (mk m l).length = l.length := by simp [mk]
theorem mk_step {m : Int} {l : List Int} (i : Nat) (h : i < l.length) : mk m (l.take i) ++ [l.getD i 0 % m] = mk m (l.take (i + 1)) := by
  unfold mk
  rw [List.take_add_one]
  have : l[i]? = some (l.getD i 0) := by simp [List.getD, h]
  rw [this]
  simp
theorem mk_mem {m : Int} (hm : 0 < m) {l : List Int} {x : Int} (h : x ∈ mk m l) : 0 ≤ x ∧ x < m := by
  unfold mk at h
  obtain ⟨y, _, rfl⟩ := List.mem_map.1 h
  exact ⟨Int.emod_nonneg _ (by omega), Int.emod_lt_of_pos _ hm⟩
theorem rd_mem {t : List Int} (hL : 0 < t.length) (r : Nat) : rd t r ∈ t := by
  unfold rd
  have := Nat.mod_lt r hL
  simp [List.getD, this]
theorem u8_at {l : List Int} (hl : ∀ x ∈ l, (Lit.int .u8 x).wf = true) (i : Nat) : 0 ≤ l.getD i 0 ∧ l.getD i 0 ≤ 255 := by
  unfold List.getD
  cases hn : l[i]? with
  | none => simp
  | some x => exact is_u8 (hl x (List.mem_of_getElem? hn))
theorem u8_mod {l : List Int} (hl : ∀ x ∈ l, (Lit.int .u8 x).wf = true) (i : Nat) (m : Int) (hm : 0 < m ∧ m ≤ 100) : IntKind.i64.wrap (Int.tmod (l.getD i 0) m) = l.getD i 0 % m := by
  have h := u8_at hl i
  rw [Int.tmod_eq_emod_of_nonneg h.1]
  have r1 := Int.emod_nonneg (l.getD i 0) (show m ≠ 0 by omega)
  have r2 := Int.emod_lt_of_pos (l.getD i 0) hm.1
  exact w64_id (by omega) (by omega)
end Go.Proofs.Ytjfnejcanlkknaa.Pure
