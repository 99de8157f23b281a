import Derived.Test.YtocdpimpkifdmaaDoorTrace2
import Derived.Test.YtocdpimpkifdmaaDoorPack3
/- Events read: the program and the document. Conditions: in the lemmas. -/
set_option linter.unusedVariables false
set_option linter.unusedSimpArgs false
namespace Go.Proofs.YtocdpimpkifdmaaDoor.Trace
open Go Go.Fw Go.RowKit Go.Proofs.YtocdpimpkifdmaaDoor.G Go.Proofs.YtocdpimpkifdmaaDoor.Pack

abbrev mS : Int := 2147483647
abbrev mU : Int := 4294967295
/-- one event read, within bounds: what is left, the error, the event -/
def recd (c1 c2 c3 c4 : Int) (l : List Int) (e : Int) : List Int × Int × S28 :=
  let a1 := lookN l e c1
  let a2 := lookN a1.1 a1.2.1 c2
  let a3 := lookN a2.1 a2.2.1 c3
  let a4 := lookN a3.1 a3.2.1 c4
  let a5 := lookN a4.1 a4.2.1 mS
  let a6 := lookN a5.1 a5.2.1 mU
  let a7 := lookN a6.1 a6.2.1 mU
  (a7.1, a7.2.1, ⟨IntKind.i64.wrap a1.2.2, IntKind.i64.wrap a2.2.2, IntKind.i64.wrap a3.2.2, IntKind.i64.wrap a4.2.2, IntKind.i32.wrap a5.2.2, IntKind.i32.wrap (IntKind.u32.wrap a6.2.2), IntKind.i32.wrap (IntKind.u32.wrap a7.2.2)⟩)
theorem recd_sm (c1 c2 c3 c4 : Int) (l : List Int) (e : Int) : Sm (recd c1 c2 c3 c4 l e).2.2 := by
  have h : ∀ x : Int, i32r (IntKind.i32.wrap x) := fun x => by unfold i32r; rw [w32]; omega
  exact ⟨h _, h _, h _⟩
theorem recd_ok (c1 c2 c3 c4 : Int) (l : List Int) (e : Int) (hB : IsB l) : (recd c1 c2 c3 c4 l e).1.length ≤ l.length ∧ IsB (recd c1 c2 c3 c4 l e).1 := by
  unfold recd
  simp only
  obtain ⟨h1, b1_, _⟩ := look_ok l e c1 hB
  generalize lookN l e c1 = a1 at *
  obtain ⟨h2, b2_, _⟩ := look_ok a1.1 a1.2.1 c2 b1_
  generalize lookN a1.1 a1.2.1 c2 = a2 at *
  obtain ⟨h3, b3_, _⟩ := look_ok a2.1 a2.2.1 c3 b2_
  generalize lookN a2.1 a2.2.1 c3 = a3 at *
  obtain ⟨h4, b4_, _⟩ := look_ok a3.1 a3.2.1 c4 b3_
  generalize lookN a3.1 a3.2.1 c4 = a4 at *
  obtain ⟨h5, b5_, _⟩ := look_ok a4.1 a4.2.1 mS b4_
  generalize lookN a4.1 a4.2.1 mS = a5 at *
  obtain ⟨h6, b6_, _⟩ := look_ok a5.1 a5.2.1 mU b5_
  generalize lookN a5.1 a5.2.1 mU = a6 at *
  obtain ⟨h7, b7_, _⟩ := look_ok a6.1 a6.2.1 mU b6_
  exact ⟨by omega, b7_⟩
theorem look_good (l : List Int) (e most : Int) (hB : IsB l) (h : (lookN l e most).2.1 = 0) : e = 0 ∧ ∃ n : Nat, (lookN l e most).2.2 = (n : Int) ∧ l = enc n ++ (lookN l e most).1 ∧ (n : Int) ≤ most := by
  have := look_back l e most (lookN l e most).1 (lookN l e most).2.2 hB (by rw [← h])
  obtain ⟨h1, n, h2, h3, h4, h5⟩ := this
  exact ⟨h1, n, h2, h4, by omega⟩
theorem back_u (n : Nat) (h : (n : Int) ≤ 4294967295) : u32n (IntKind.i32.wrap (IntKind.u32.wrap (n : Int))) = n := by
  unfold u32n
  rw [w32, wu32]
  omega
/-- what went well was an event's bytes -/
theorem recd_good (c1 c2 c3 c4 : Int) (hc : c1 ≤ mS ∧ c2 ≤ mS ∧ c3 ≤ mS ∧ c4 ≤ mS) (l : List Int) (e : Int) (hB : IsB l) (h : (recd c1 c2 c3 c4 l e).2.1 = 0) : e = 0 ∧ l = encs (ns (recd c1 c2 c3 c4 l e).2.2) ++ (recd c1 c2 c3 c4 l e).1 := by
  unfold recd at h ⊢
  simp only at h ⊢
  obtain ⟨h1, b1, _⟩ := look_ok l e c1 hB
  have g1 := look_good l e c1 hB
  generalize lookN l e c1 = a1 at *
  obtain ⟨h2, b2, _⟩ := look_ok a1.1 a1.2.1 c2 b1
  have g2 := look_good a1.1 a1.2.1 c2 b1
  generalize lookN a1.1 a1.2.1 c2 = a2 at *
  obtain ⟨h3, b3, _⟩ := look_ok a2.1 a2.2.1 c3 b2
  have g3 := look_good a2.1 a2.2.1 c3 b2
  generalize lookN a2.1 a2.2.1 c3 = a3 at *
  obtain ⟨h4, b4, _⟩ := look_ok a3.1 a3.2.1 c4 b3
  have g4 := look_good a3.1 a3.2.1 c4 b3
  generalize lookN a3.1 a3.2.1 c4 = a4 at *
  obtain ⟨h5, b5, _⟩ := look_ok a4.1 a4.2.1 mS b4
  have g5 := look_good a4.1 a4.2.1 mS b4
  generalize lookN a4.1 a4.2.1 mS = a5 at *
  obtain ⟨h6, b6, _⟩ := look_ok a5.1 a5.2.1 mU b5
  have g6 := look_good a5.1 a5.2.1 mU b5
  generalize lookN a5.1 a5.2.1 mU = a6 at *
  have g7 := look_good a6.1 a6.2.1 mU b6
  generalize lookN a6.1 a6.2.1 mU = a7 at *
  obtain ⟨z6, n7, v7, l7, m7⟩ := g7 h
  obtain ⟨z5, n6, v6, l6, m6⟩ := g6 z6
  obtain ⟨z4, n5, v5, l5, m5⟩ := g5 z5
  obtain ⟨z3, n4, v4, l4, m4⟩ := g4 z4
  obtain ⟨z2, n3, v3, l3, m3⟩ := g3 z3
  obtain ⟨z1, n2, v2, l2, m2⟩ := g2 z2
  obtain ⟨z0, n1, v1, l1, m1⟩ := g1 z1
  have mU' : mU = 4294967295 := rfl
  have mS' : mS = 2147483647 := rfl
  have w1 : IntKind.i64.wrap a1.2.2 = (n1 : Int) := by rw [v1, w64_id (by omega) (by omega)]
  have w2 : IntKind.i64.wrap a2.2.2 = (n2 : Int) := by rw [v2, w64_id (by omega) (by omega)]
  have w3 : IntKind.i64.wrap a3.2.2 = (n3 : Int) := by rw [v3, w64_id (by omega) (by omega)]
  have w4 : IntKind.i64.wrap a4.2.2 = (n4 : Int) := by rw [v4, w64_id (by omega) (by omega)]
  have w5 : IntKind.i32.wrap a5.2.2 = (n5 : Int) := by rw [v5, w32_id (by omega) (by omega)]
  refine ⟨z0, ?_⟩
  rw [w1, w2, w3, w4, w5, v6, v7]
  unfold ns
  simp only [Int.toNat_natCast, back_u n6 (by omega), back_u n7 (by omega)]
  rw [l1, l2, l3, l4, l5, l6, l7]
  simp only [encs, List.append_assoc, List.append_nil, List.nil_append]
/-- an event's bytes are read back -/
theorem recd_enc (c1 c2 c3 c4 : Int) (x : S28) (hx : Rt x) (sx : Sm x) (hc : x.f0 ≤ c1 ∧ x.f1 ≤ c2 ∧ x.f2 ≤ c3 ∧ x.f3 ≤ c4) (rest : List Int) : recd c1 c2 c3 c4 (encs (ns x) ++ rest) 0 = (rest, 0, x) := by
  have hu := ns_u x hx sx
  obtain ⟨h0, h1, h2, h3, h4⟩ := hx
  obtain ⟨s4, s5, s6⟩ := sx
  obtain ⟨k1, k2, k3, k4⟩ := hc
  unfold i32r at s4 s5 s6
  have e : encs (ns x) ++ rest = enc x.f0.toNat ++ (enc x.f1.toNat ++ (enc x.f2.toNat ++ (enc x.f3.toNat ++ (enc x.f4.toNat ++ (enc (u32n x.f5) ++ (enc (u32n x.f6) ++ rest)))))) := by
    unfold ns
    simp only [encs, List.append_assoc, List.append_nil, List.nil_append]
  have one : ∀ (n : Nat) (m : Int) (r : List Int), n < 18446744073709551616 → (n : Int) ≤ m → lookN (enc n ++ r) 0 m = (r, 0, (n : Int)) := fun n m r hn hm => by
    unfold lookN
    rw [if_pos rfl, rd_enc m n r hn, if_neg (by omega)]
  have u5 : u32n x.f5 < 4294967296 := by unfold u32n; omega
  have u6 : u32n x.f6 < 4294967296 := by unfold u32n; omega
  rw [e]
  unfold recd
  rw [one _ c1 _ (by omega) (by omega)]
  simp only
  rw [one _ c2 _ (by omega) (by omega)]
  simp only
  rw [one _ c3 _ (by omega) (by omega)]
  simp only
  rw [one _ c4 _ (by omega) (by omega)]
  simp only
  rw [one _ mS _ (by omega) (by show _ ≤ (2147483647 : Int); omega)]
  simp only
  rw [one _ mU _ (by omega) (by show _ ≤ (4294967295 : Int); omega)]
  simp only
  rw [one _ mU _ (by omega) (by show _ ≤ (4294967295 : Int); omega)]
  simp only
  have b : ∀ y : Int, -2147483648 ≤ y ∧ y ≤ 2147483647 → IntKind.i32.wrap (IntKind.u32.wrap (u32n y : Int)) = y := fun y hy => by unfold u32n; rw [w32, wu32]; omega
  rw [b x.f5 s5, b x.f6 s6, Int.toNat_of_nonneg h0.1, Int.toNat_of_nonneg h1.1, Int.toNat_of_nonneg (by omega), Int.toNat_of_nonneg h3.1, Int.toNat_of_nonneg h4, w64_id (x := x.f0) (by omega) (by omega), w64_id (x := x.f1) (by omega) (by omega), w64_id (x := x.f2) (by omega) (by omega), w64_id (x := x.f3) (by omega) (by omega), w32_id (x := x.f4) (by omega) (by omega)]
theorem w3264 (x : Int) : IntKind.i32.wrap (IntKind.i64.wrap x) = IntKind.i32.wrap x := by rw [w32, w32, w64]; omega
theorem seven_f (K : Nat) (l : List Int) (e : Int) (hB : IsB l) (hl : l.length ≤ 2000) (hK : 2000 < K) {γ : Type} (k : List Int → Int → S28 → Option γ) :
    (b3 (trace_Read_1.f K l e) fun d6 m8 b0 => b3 (trace_Read_1.f K d6 m8) fun e1 m9 b4 => b3 (trace_Read_1.f K e1 m9) fun e8 n0 b5 => b3 (trace_Read_1.f K e8 n0) fun g0 n1 b6 => b3 (trace_Read_1.f K g0 n1) fun g1 j6 b7 => b3 (trace_Read_2.f K g1 j6) fun j7 n2 c1 => b3 (trace_Read_2.f K j7 n2) fun g2 g3 c2 => k g2 g3 ⟨b0, b4, b5, b6, IntKind.i32.wrap b7, c1, c2⟩) = k (recd mS mS mS mS l e).1 (recd mS mS mS mS l e).2.1 (recd mS mS mS mS l e).2.2 := by
  unfold recd trace_Read_1.f trace_Read_2.f
  obtain ⟨h1, b1_, _⟩ := look_ok l e mS hB
  rw [num_look K l _ _ (by omega) hB (by omega)]
  simp only [b3]
  generalize lookN l e mS = a1 at *
  obtain ⟨h2, b2_, _⟩ := look_ok a1.1 a1.2.1 mS b1_
  rw [num_look K a1.1 _ _ (by omega) b1_ (by omega)]
  simp only
  generalize lookN a1.1 a1.2.1 mS = a2 at *
  obtain ⟨h3, b3_, _⟩ := look_ok a2.1 a2.2.1 mS b2_
  rw [num_look K a2.1 _ _ (by omega) b2_ (by omega)]
  simp only
  generalize lookN a2.1 a2.2.1 mS = a3 at *
  obtain ⟨h4, b4_, _⟩ := look_ok a3.1 a3.2.1 mS b3_
  rw [num_look K a3.1 _ _ (by omega) b3_ (by omega)]
  simp only
  generalize lookN a3.1 a3.2.1 mS = a4 at *
  obtain ⟨h5, b5_, _⟩ := look_ok a4.1 a4.2.1 mS b4_
  rw [num_look K a4.1 _ _ (by omega) b4_ (by omega)]
  simp only
  generalize lookN a4.1 a4.2.1 mS = a5 at *
  obtain ⟨h6, b6_, _⟩ := look_ok a5.1 a5.2.1 mU b5_
  rw [num_look K a5.1 _ _ (by omega) b5_ (by omega)]
  simp only
  generalize lookN a5.1 a5.2.1 mU = a6 at *
  obtain ⟨h7, b7_, _⟩ := look_ok a6.1 a6.2.1 mU b6_
  rw [num_look K a6.1 _ _ (by omega) b6_ (by omega)]
  simp only
  rw [w3264]
theorem rseven_f (K : Nat) (l : List Int) (e : Int) (hB : IsB l) (hl : l.length ≤ 2000) (hK : 2000 < K) {γ : Type} (k : List Int → Int → S28 → Option γ) :
    (b3 (confidantref1_Reader_Num.f K l e 65536) fun d2 i7 a8 => b3 (confidantref1_Reader_Num.f K d2 i7 16) fun d4 i8 a9 => b3 (confidantref1_Reader_Num.f K d4 i8 11) fun d8 i9 b0 => b3 (confidantref1_Reader_Num.f K d8 i9 8) fun e2 j0 b2 => b3 (confidantref1_Reader_Num.f K e2 j0 2147483647) fun e7 j1 b5 => b3 (confidantref1_Reader_Word.f K e7 j1) fun f9 j2 b9 => b3 (confidantref1_Reader_Word.f K f9 j2) fun e8 g0 c0 => k e8 g0 ⟨IntKind.i64.wrap a8, IntKind.i64.wrap a9, IntKind.i64.wrap b0, IntKind.i64.wrap b2, IntKind.i32.wrap b5, b9, c0⟩) = k (recd 65536 16 11 8 l e).1 (recd 65536 16 11 8 l e).2.1 (recd 65536 16 11 8 l e).2.2 := by
  unfold recd confidantref1_Reader_Word.f
  obtain ⟨h1, b1_, _⟩ := look_ok l e 65536 hB
  rw [rnum_look K l _ _ (by omega) hB (by omega)]
  simp only [b3]
  generalize lookN l e 65536 = a1 at *
  obtain ⟨h2, b2_, _⟩ := look_ok a1.1 a1.2.1 16 b1_
  rw [rnum_look K a1.1 _ _ (by omega) b1_ (by omega)]
  simp only
  generalize lookN a1.1 a1.2.1 16 = a2 at *
  obtain ⟨h3, b3_, _⟩ := look_ok a2.1 a2.2.1 11 b2_
  rw [rnum_look K a2.1 _ _ (by omega) b2_ (by omega)]
  simp only
  generalize lookN a2.1 a2.2.1 11 = a3 at *
  obtain ⟨h4, b4_, _⟩ := look_ok a3.1 a3.2.1 8 b3_
  rw [rnum_look K a3.1 _ _ (by omega) b3_ (by omega)]
  simp only
  generalize lookN a3.1 a3.2.1 8 = a4 at *
  obtain ⟨h5, b5_, _⟩ := look_ok a4.1 a4.2.1 mS b4_
  rw [rnum_look K a4.1 _ _ (by omega) b4_ (by omega)]
  simp only
  generalize lookN a4.1 a4.2.1 mS = a5 at *
  obtain ⟨h6, b6_, _⟩ := look_ok a5.1 a5.2.1 mU b5_
  rw [rnum_look K a5.1 _ _ (by omega) b5_ (by omega)]
  simp only
  generalize lookN a5.1 a5.2.1 mU = a6 at *
  obtain ⟨h7, b7_, _⟩ := look_ok a6.1 a6.2.1 mU b6_
  rw [rnum_look K a6.1 _ _ (by omega) b6_ (by omega)]
end Go.Proofs.YtocdpimpkifdmaaDoor.Trace
