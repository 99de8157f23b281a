import Derived.Test.YtipaaapbapijhaaG0
import Derived.Test.YtipaaapbapijhaaG3
import Derived.Test.YtipaaapbapijhaaRightB
/- Reading records: the program and the document come to the same. Conditions: in the lemmas. -/
set_option linter.unusedVariables false
set_option linter.unusedSimpArgs false
namespace Go.Proofs.Ytipaaapbapijhaa.ReadBack
open Go Go.Fw Go.RowKit Go.Proofs.Ytipaaapbapijhaa.G Go.Proofs.Ytipaaapbapijhaa.Reads Go.Proofs.Ytipaaapbapijhaa.RightB

theorem wf64 {x : Int} (h : -9223372036854775808 ≤ x) (h' : x ≤ 9223372036854775807) : (Lit.int .i64 x).wf = true := by
  simp [Lit.wf, IntKind.min, IntKind.max, IntKind.signed, IntKind.bits]; omega
theorem wf32 {x : Int} (h : -2147483648 ≤ x) (h' : x ≤ 2147483647) : (Lit.int .i32 x).wf = true := by
  simp [Lit.wf, IntKind.min, IntKind.max, IntKind.signed, IntKind.bits]; omega
theorem ww32 (x : Int) : (Lit.int .i32 (IntKind.i32.wrap x)).wf = true := by rw [w32]; exact wf32 (by omega) (by omega)

abbrev mI : Int := 9223372036854775807
abbrev mU : Int := 4294967295
abbrev mS : Int := 2147483647

/-- one record read: what is left, the error, the record -/
def recd (l : List Int) (e : Int) : List Int × Int × S69 :=
  let a1 := lookN l e mI
  let a2 := lookN a1.1 a1.2.1 mI
  let a3 := lookN a2.1 a2.2.1 mI
  let a4 := lookN a3.1 a3.2.1 mU
  let a5 := lookN a4.1 a4.2.1 mI
  let a6 := lookN a5.1 a5.2.1 mS
  (a6.1, a6.2.1, ⟨IntKind.i64.wrap a1.2.2, IntKind.i64.wrap a2.2.2, IntKind.i64.wrap a3.2.2, IntKind.i32.wrap (IntKind.u32.wrap a4.2.2), IntKind.i64.wrap a5.2.2, IntKind.i32.wrap a6.2.2⟩)

theorem recd_ok (l : List Int) (e : Int) (hB : IsB l) : (recd l e).1.length ≤ l.length ∧ IsB (recd l e).1 := by
  unfold recd
  obtain ⟨h1, b1, _⟩ := look_ok l e mI hB
  obtain ⟨h2, b2, _⟩ := look_ok _ (lookN l e mI).2.1 mI b1
  obtain ⟨h3, b3, _⟩ := look_ok _ (lookN (lookN l e mI).1 (lookN l e mI).2.1 mI).2.1 mI b2
  simp only
  generalize lookN (lookN (lookN l e mI).1 (lookN l e mI).2.1 mI).1 (lookN (lookN l e mI).1 (lookN l e mI).2.1 mI).2.1 mI = a3 at *
  obtain ⟨h4, b4, _⟩ := look_ok a3.1 a3.2.1 mU b3
  generalize lookN a3.1 a3.2.1 mU = a4 at *
  obtain ⟨h5, b5, _⟩ := look_ok a4.1 a4.2.1 mI b4
  generalize lookN a4.1 a4.2.1 mI = a5 at *
  obtain ⟨h6, b6, _⟩ := look_ok a5.1 a5.2.1 mS b5
  exact ⟨by omega, b6⟩

/-- a record's numbers -/
def unum (x : Int) : Nat := (IntKind.u64.wrap x).toNat
def nums (r : S69) : List Nat := [unum r.f0, unum r.f1, unum r.f2, unum (IntKind.u32.wrap r.f3), unum r.f4, unum r.f5]

theorem back32 (n : Nat) (h : (n : Int) ≤ 4294967295) : unum (IntKind.u32.wrap (IntKind.i32.wrap (IntKind.u32.wrap (n : Int)))) = n := by
  have e : IntKind.u32.wrap (IntKind.i32.wrap (IntKind.u32.wrap (n : Int))) = (n : Int) := by rw [wu32 (IntKind.i32.wrap _), w32, wu32]; omega
  unfold unum
  rw [e, wu64_id (by omega) (by omega)]
  omega
/-- a look that goes well -/
theorem look_good (l : List Int) (e most : Int) (hB : IsB l) (h : (lookN l e most).2.1 = 0) : e = 0 ∧ ∃ n : Nat, (lookN l e most).2.2 = (n : Int) ∧ l = enc n ++ (lookN l e most).1 ∧ (n : Int) ≤ most := by
  have := look_back l e most (lookN l e most).1 (lookN l e most).2.2 hB (by rw [← h])
  obtain ⟨h1, n, h2, h3, h4, h5⟩ := this
  exact ⟨h1, n, h2, h4, by omega⟩

theorem recd_good (l : List Int) (e : Int) (hB : IsB l) (h : (recd l e).2.1 = 0) : e = 0 ∧ l = encs (nums (recd l e).2.2) ++ (recd l e).1 ∧ okR (recd l e).2.2 := by
  unfold recd at h ⊢
  simp only at h ⊢
  obtain ⟨h1, b1, _⟩ := look_ok l e mI hB
  have g1 := look_good l e mI hB
  generalize lookN l e mI = a1 at *
  obtain ⟨h2, b2, _⟩ := look_ok a1.1 a1.2.1 mI b1
  have g2 := look_good a1.1 a1.2.1 mI b1
  generalize lookN a1.1 a1.2.1 mI = a2 at *
  obtain ⟨h3, b3, _⟩ := look_ok a2.1 a2.2.1 mI b2
  have g3 := look_good a2.1 a2.2.1 mI b2
  generalize lookN a2.1 a2.2.1 mI = a3 at *
  obtain ⟨h4, b4, _⟩ := look_ok a3.1 a3.2.1 mU b3
  have g4 := look_good a3.1 a3.2.1 mU b3
  generalize lookN a3.1 a3.2.1 mU = a4 at *
  obtain ⟨h5, b5, _⟩ := look_ok a4.1 a4.2.1 mI b4
  have g5 := look_good a4.1 a4.2.1 mI b4
  generalize lookN a4.1 a4.2.1 mI = a5 at *
  have g6 := look_good a5.1 a5.2.1 mS b5
  generalize lookN a5.1 a5.2.1 mS = a6 at *
  obtain ⟨z5, n6, v6, l6, m6⟩ := g6 h
  obtain ⟨z4, n5, v5, l5, m5⟩ := g5 z5
  obtain ⟨z3, n4, v4, l4, m4⟩ := g4 z4
  obtain ⟨z2, n3, v3, l3, m3⟩ := g3 z3
  obtain ⟨z1, n2, v2, l2, m2⟩ := g2 z2
  obtain ⟨z0, n1, v1, l1, m1⟩ := g1 z1
  have mI' : mI = 9223372036854775807 := rfl
  have mU' : mU = 4294967295 := rfl
  have mS' : mS = 2147483647 := rfl
  have w1 : IntKind.i64.wrap a1.2.2 = (n1 : Int) := by rw [v1, w64_id (by omega) (by omega)]
  have w2 : IntKind.i64.wrap a2.2.2 = (n2 : Int) := by rw [v2, w64_id (by omega) (by omega)]
  have w3 : IntKind.i64.wrap a3.2.2 = (n3 : Int) := by rw [v3, w64_id (by omega) (by omega)]
  have w5 : IntKind.i64.wrap a5.2.2 = (n5 : Int) := by rw [v5, w64_id (by omega) (by omega)]
  have w6 : IntKind.i32.wrap a6.2.2 = (n6 : Int) := by rw [v6, w32_id (by omega) (by omega)]
  have u : ∀ n : Nat, (n : Int) ≤ mI → unum (n : Int) = n := fun n hn => by unfold unum; rw [wu64_id (by omega) (by omega)]; omega
  have u4 : unum (IntKind.u32.wrap (IntKind.i32.wrap (IntKind.u32.wrap a4.2.2))) = n4 := by rw [v4]; exact back32 n4 (by omega)
  refine ⟨z0, ?_, ?_⟩
  · rw [w1, w2, w3, w5, w6]
    unfold nums
    simp only [u4, u n1 m1, u n2 m2, u n3 m3, u n5 m5, u n6 (by omega)]
    rw [l1, l2, l3, l4, l5, l6]
    simp only [encs, List.append_assoc, List.append_nil, List.nil_append]
  · rw [w1, w2, w3, w5, w6]
    exact ⟨wf64 (x := (n1 : Int)) (by omega) (by omega), wf64 (x := (n2 : Int)) (by omega) (by omega), wf64 (x := (n3 : Int)) (by omega) (by omega), ww32 _, wf64 (x := (n5 : Int)) (by omega) (by omega), wf32 (x := (n6 : Int)) (by omega) (by omega), trivial⟩

theorem recd_less (l : List Int) (hB : IsB l) : (recd l 0).2.1 = 0 → (recd l 0).1.length < l.length := by
  intro h
  obtain ⟨_, h2, _⟩ := recd_good l 0 hB h
  have : l.length = (encs (nums (recd l 0).2.2)).length + (recd l 0).1.length := by
    conv => lhs; rw [h2]
    rw [List.length_append]
  have hp := enc_pos (unum (recd l 0).2.2.f0)
  unfold nums encs at this
  rw [List.length_append] at this
  omega

theorem six_f (K : Nat) (l : List Int) (e : Int) (hB : IsB l) (hl : l.length ≤ 2000) (hK : 2000 < K) {γ : Type} (k : List Int → Int → S69 → Option γ) :
    (b3 (audit_Read_1.f K l e) fun d2 m8 b9 => b3 (audit_Read_1.f K d2 m8) fun d8 m9 c0 => b3 (audit_Read_1.f K d8 m9) fun e1 j5 c1 => b3 (pack_Reader_Num.f K e1 j5 4294967295) fun e8 j6 c4 => b3 (audit_Read_1.f K e8 j6) fun g4 j7 c6 => b3 (pack_Reader_Num.f K g4 j7 2147483647) fun i2 i3 c9 => k i2 i3 ⟨b9, c0, c1, IntKind.i32.wrap (IntKind.u32.wrap c4), c6, IntKind.i32.wrap c9⟩) = k (recd l e).1 (recd l e).2.1 (recd l e).2.2 := by
  unfold recd audit_Read_1.f
  obtain ⟨h1, b1_, _⟩ := look_ok l e mI hB
  rw [num_look K l e _ (by omega) hB (by omega)]
  simp only [b3]
  generalize lookN l e mI = a1 at *
  obtain ⟨h2, b2_, _⟩ := look_ok a1.1 a1.2.1 mI b1_
  rw [num_look K a1.1 _ _ (by omega) b1_ (by omega)]
  simp only
  generalize lookN a1.1 a1.2.1 mI = a2 at *
  obtain ⟨h3, b3_, _⟩ := look_ok a2.1 a2.2.1 mI b2_
  rw [num_look K a2.1 _ _ (by omega) b2_ (by omega)]
  simp only
  generalize lookN a2.1 a2.2.1 mI = a3 at *
  obtain ⟨h4, b4_, _⟩ := look_ok a3.1 a3.2.1 mU b3_
  rw [num_look K a3.1 _ _ (by omega) b3_ (by omega)]
  simp only
  generalize lookN a3.1 a3.2.1 mU = a4 at *
  obtain ⟨h5, b5_, _⟩ := look_ok a4.1 a4.2.1 mI b4_
  rw [num_look K a4.1 _ _ (by omega) b4_ (by omega)]
  simp only
  generalize lookN a4.1 a4.2.1 mI = a5 at *
  rw [num_look K a5.1 _ _ (by omega) b5_ (by omega)]
theorem rsix_f (K : Nat) (l : List Int) (e : Int) (hB : IsB l) (hl : l.length ≤ 2000) (hK : 2000 < K) {γ : Type} (k : List Int → Int → S69 → Option γ) :
    (b3 (confidantref1_Reader_Num.f K l e 9223372036854775807) fun c7 g6 b5 => b3 (confidantref1_Reader_Num.f K c7 g6 9223372036854775807) fun d2 g7 b6 => b3 (confidantref1_Reader_Num.f K d2 g7 9223372036854775807) fun d6 g8 b7 => b3 (confidantref1_Reader_Word.f K d6 g8) fun e2 g9 b9 => b3 (confidantref1_Reader_Num.f K e2 g9 9223372036854775807) fun f2 i0 c2 => b3 (confidantref1_Reader_Num.f K f2 i0 2147483647) fun f7 f8 c3 => k f7 f8 ⟨IntKind.i64.wrap b5, IntKind.i64.wrap b6, IntKind.i64.wrap b7, b9, IntKind.i64.wrap c2, IntKind.i32.wrap c3⟩) = k (recd l e).1 (recd l e).2.1 (recd l e).2.2 := by
  unfold recd confidantref1_Reader_Word.f
  obtain ⟨h1, b1_, _⟩ := look_ok l e mI hB
  rw [rnum_look K l e _ (by omega) hB (by omega)]
  simp only [b3]
  generalize lookN l e mI = a1 at *
  obtain ⟨h2, b2_, _⟩ := look_ok a1.1 a1.2.1 mI b1_
  rw [rnum_look K a1.1 _ _ (by omega) b1_ (by omega)]
  simp only
  generalize lookN a1.1 a1.2.1 mI = a2 at *
  obtain ⟨h3, b3_, _⟩ := look_ok a2.1 a2.2.1 mI b2_
  rw [rnum_look K a2.1 _ _ (by omega) b2_ (by omega)]
  simp only
  generalize lookN a2.1 a2.2.1 mI = a3 at *
  obtain ⟨h4, b4_, _⟩ := look_ok a3.1 a3.2.1 mU b3_
  rw [rnum_look K a3.1 _ _ (by omega) b3_ (by omega)]
  simp only
  generalize lookN a3.1 a3.2.1 mU = a4 at *
  obtain ⟨h5, b5_, _⟩ := look_ok a4.1 a4.2.1 mI b4_
  rw [rnum_look K a4.1 _ _ (by omega) b4_ (by omega)]
  simp only
  generalize lookN a4.1 a4.2.1 mI = a5 at *
  rw [rnum_look K a5.1 _ _ (by omega) b5_ (by omega)]

/-- records read, as long as there are some and nothing is wrong -/
def rds : Nat → Nat → List Int → Int → List S69 → List Int × Int × List S69
  | 0, _, l, e, out => (l, e, out)
  | f + 1, n, l, e, out => if 0 < n ∧ e = 0 then rds f (n - 1) (recd l e).1 (recd l e).2.1 (out ++ [(recd l e).2.2]) else (l, e, out)

theorem prog_l (K : Nat) (hK : 2000 < K) (j : List Int → Int → List S69 → Option (List S69 × Int)) : ∀ (f m n : Nat) (l : List Int) (e : Int) (out : List S69), IsB l → l.length ≤ 2000 → (e = 0 → l.length + 1 < f) → 0 < f → f ≤ m → n < 18446744073709551616 → out.length + f ≤ 9000 →
    audit_Read.l0 K j m l e out (n : Int) = j (rds f n l e out).1 (rds f n l e out).2.1 (rds f n l e out).2.2
  | 0, m, n, l, e, out, hB, hl, he, hf, hm, hn, ho => by omega
  | f + 1, m, n, l, e, out, hB, hl, he, hf, hm, hn, ho => by
    obtain ⟨m, rfl⟩ : ∃ k, m = k + 1 := ⟨m - 1, by omega⟩
    obtain ⟨r1, r2⟩ := recd_ok l e hB
    rw [audit_Read.l0.eq_2]
    unfold pack_Reader_Err.f
    simp only [lt, List.length_singleton]
    by_cases h : 0 < n ∧ e = 0
    · obtain ⟨h1, rfl⟩ := h
      have hless := recd_less l hB
      rw [if_pos (by omega)]
      simp only [b3, decide_true, if_true]
      refine Eq.trans (six_f K l 0 hB hl (by omega) (fun i2 i3 r => if (out.length + 1) * 48 ≤ 140737488355328 then audit_Read.l0 K j m i2 i3 (out ++ [r]) (IntKind.u64.wrap ((n : Int) - 1)) else none)) ?_
      have hw : IntKind.u64.wrap ((n : Int) - 1) = ((n - 1 : Nat) : Int) := by rw [wu64_id (by omega) (by omega)]; omega
      rw [if_pos (by omega), hw, rds, if_pos ⟨h1, rfl⟩]
      exact prog_l K hK j f m (n - 1) _ _ _ r2 (by omega) (fun g => by have := hless g; have := he rfl; omega) (by have := he rfl; omega) (by omega) (by omega) (by simp; omega)
    · rw [rds, if_neg h]
      by_cases h1 : (n : Int) > 0
      · have h2 : ¬ e = 0 := fun g => h ⟨by omega, g⟩
        rw [if_pos h1]
        simp only [b3]
        rw [if_neg (by simpa using h2)]
      · rw [if_neg h1]
        first | rfl | (rw [if_neg (by decide)]) | simp

theorem rprog_l (K : Nat) (hK : 2000 < K) (j : List Int → Int → List S69 → Option (List S69 × Int)) (N : Nat) (hN : N < 18446744073709551615) : ∀ (f m n i : Nat) (l : List Int) (e : Int) (out : List S69), i + n = N → IsB l → l.length ≤ 2000 → (e = 0 → l.length + 1 < f) → 0 < f → f ≤ m → out.length + f ≤ 9000 →
    confidantref21_AuditRead.l0 K j (N : Int) m l e out (i : Int) = j (rds f n l e out).1 (rds f n l e out).2.1 (rds f n l e out).2.2
  | 0, m, n, i, l, e, out, hi, hB, hl, he, hf, hm, ho => by omega
  | f + 1, m, n, i, l, e, out, hi, hB, hl, he, hf, hm, ho => by
    obtain ⟨m, rfl⟩ : ∃ k, m = k + 1 := ⟨m - 1, by omega⟩
    obtain ⟨r1, r2⟩ := recd_ok l e hB
    rw [confidantref21_AuditRead.l0.eq_2]
    simp only [lt, List.length_singleton]
    by_cases h : 0 < n ∧ e = 0
    · obtain ⟨h1, rfl⟩ := h
      have hless := recd_less l hB
      rw [if_pos (by omega)]
      simp only [decide_true, if_true]
      refine Eq.trans (rsix_f K l 0 hB hl (by omega) (fun i2 i3 r => if (out.length + 1) * 48 ≤ 140737488355328 then confidantref21_AuditRead.l0 K j (N : Int) m i2 i3 (out ++ [r]) (IntKind.u64.wrap ((i : Int) + 1)) else none)) ?_
      have hw : IntKind.u64.wrap ((i : Int) + 1) = ((i + 1 : Nat) : Int) := by rw [wu64_id (by omega) (by omega)]; omega
      rw [if_pos (by omega), hw, rds, if_pos ⟨h1, rfl⟩]
      exact rprog_l K hK j N hN f m (n - 1) (i + 1) _ _ _ (by omega) r2 (by omega) (fun g => by have := hless g; have := he rfl; omega) (by have := he rfl; omega) (by omega) (by simp; omega)
    · rw [rds, if_neg h]
      by_cases h1 : (i : Int) < (N : Int)
      · have h2 : ¬ e = 0 := fun g => h ⟨by omega, g⟩
        rw [if_pos h1, if_neg (by simpa using h2)]
      · rw [if_neg h1]
        first | rfl | (rw [if_neg (by decide)]) | simp

/-- the bytes of records -/
def flat : List S69 → List Int
  | [] => []
  | r :: l => encs (nums r) ++ flat l
theorem flat_app : ∀ (a b : List S69), flat (a ++ b) = flat a ++ flat b
  | [], b => rfl
  | r :: a, b => by simp [flat, flat_app a b, List.append_assoc]
/-- what went well stands there, all of it -/
theorem rds_good : ∀ (f n : Nat) (l : List Int) (e : Int) (out : List S69), IsB l → (e = 0 → l.length + 1 < f) → (rds f n l e out).2.1 = 0 → (∀ r ∈ out, okR r) →
    e = 0 ∧ ∃ more : List S69, (rds f n l e out).2.2 = out ++ more ∧ more.length = n ∧ l = flat more ++ (rds f n l e out).1 ∧ (∀ r ∈ out ++ more, okR r) ∧ IsB (rds f n l e out).1
  | 0, n, l, e, out, hB, he, h, ho => by
    simp only [rds] at h
    subst h
    exact absurd (he rfl) (by omega)
  | f + 1, n, l, e, out, hB, he, h, ho => by
    obtain ⟨r1, r2⟩ := recd_ok l e hB
    rw [rds] at h ⊢
    by_cases hc : 0 < n ∧ e = 0
    · rw [if_pos hc] at h ⊢
      obtain ⟨h1, rfl⟩ := hc
      have hless := recd_less l hB
      have hgood := recd_good l 0 hB
      have hmem : (recd l 0).2.1 = 0 → ∀ r ∈ out ++ [(recd l 0).2.2], okR r := fun g r hr => by
        rcases List.mem_append.1 hr with hr | hr
        · exact ho r hr
        · rw [List.mem_singleton.1 hr]; exact (hgood g).2.2
      by_cases hz : (recd l 0).2.1 = 0
      · obtain ⟨_, more, g1, g2, g3, g4, g5⟩ := rds_good f (n - 1) _ _ (out ++ [(recd l 0).2.2]) r2 (fun g => by have := hless g; have := he rfl; omega) h (hmem hz)
        refine ⟨rfl, (recd l 0).2.2 :: more, by rw [g1]; simp, by simp [g2]; omega, ?_, by simpa using g4, g5⟩
        rw [flat, List.append_assoc, ← g3]
        exact (hgood hz).2.1
      · cases f with
        | zero => simp only [rds] at h; exact absurd h hz
        | succ f =>
          rw [rds, if_neg (fun g => hz g.2)] at h
          exact absurd h hz
    · rw [if_neg hc] at h ⊢
      simp only at h
      subst h
      exact ⟨rfl, [], by simp, by simp; omega, by simp [flat], by simpa using ho, hB⟩
end Go.Proofs.Ytipaaapbapijhaa.ReadBack
