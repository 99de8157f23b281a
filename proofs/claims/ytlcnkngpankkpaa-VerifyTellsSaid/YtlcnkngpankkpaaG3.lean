import Derived.Test.YtlcnkngpankkpaaProg
import Derived.Test.YtlcnkngpankkpaaFwShort
import Derived.Test.YtlcnkngpankkpaaFwOpen
import Derived.Test.YtlcnkngpankkpaaG0
import Derived.Test.YtlcnkngpankkpaaG1
import Derived.Test.YtlcnkngpankkpaaG2
namespace Go.Proofs.Ytlcnkngpankkpaa.G
open Go Go.Fw Go.RowKit Go.Proofs
set_option linter.unusedVariables false
set_option linter.unusedSimpArgs false

/-! ### confidant/confidantlaw8.VerifyTells: function 3 -/
def confidantlaw8_VerifyTells.l1 (K : Nat) (a4 : List (List (List S32))) (a22 : Int) (a23 : Int) (f3 : (List (List (List S32))) → (List (List S32)) → Option Bool) (c9 : List (List S32)) : Nat → Int → Option Bool
 | 0, _ => none
 | n + 1, a9 => if a9 < (a4.length : Int) then (if 0 ≤ a9 then (b3 (verify_Image.f K (a4.getD a9.toNat []) (IntKind.i64.wrap (Int.tmod a22 8)) (IntKind.i64.wrap (Int.tmod a23 6))) fun (e9 : Int) (b9 : Int) (c3 : Int) => (b3 (confidantref5_Image.f K (a4.getD a9.toNat []) (IntKind.i64.wrap (Int.tmod a22 8)) (IntKind.i64.wrap (Int.tmod a23 6))) fun (g0 : Int) (c0 : Int) (c7 : Int) => (lt (fun (g8 : Bool) => (if g8 = true then (some false) else (confidantlaw8_VerifyTells.l1 K a4 a22 a23 f3 c9 n (IntKind.i64.wrap (a9 + 1))))) fun i5 => (if e9 = g0 then (if b9 = c0 then (i5 (!(decide (c3 = c7)))) else (i5 true)) else (i5 true))))) else none) else (f3 a4 c9)
def confidantlaw8_VerifyTells.l0 (K : Nat) (a0 : List (List S32)) (a21 : Int) (a22 : Int) (a23 : Int) (f2 : (List (List S32)) → (List S32) → (List S32) → Option Bool) (c4 : List S32) (c1 : List S32) : Nat → Int → Option Bool
 | 0, _ => none
 | n + 1, a6 => if a6 < (a0.length : Int) then (if 0 ≤ a6 then (b2 (verify_Func.f K (a0.getD a6.toNat []) (IntKind.i64.wrap (Int.tmod a21 8)) (IntKind.i64.wrap (Int.tmod a22 8)) (IntKind.i64.wrap (Int.tmod a23 6))) fun (e8 : Int) (b7 : Int) => (b2 (confidantref5_Func.f K (a0.getD a6.toNat []) (IntKind.i64.wrap (Int.tmod a21 8)) (IntKind.i64.wrap (Int.tmod a22 8)) (IntKind.i64.wrap (Int.tmod a23 6))) fun (f7 : Int) (b8 : Int) => (lt (fun (g5 : Bool) => (if g5 = true then (some false) else (confidantlaw8_VerifyTells.l0 K a0 a21 a22 a23 f2 c4 c1 n (IntKind.i64.wrap (a6 + 1))))) fun i4 => (if e8 = f7 then (if b7 = b8 then (b1 (verify_Depths.f K (a0.getD a6.toNat [])) fun (f8 : List Int) => (b1 (confidantref5_Depths.f K (a0.getD a6.toNat [])) fun (i7 : List Int) => (b1 (confidanthelp_Ints.f K f8 i7) fun (f9 : Bool) => (i4 (!(f9)))))) else (i4 true)) else (i4 true))))) else none) else (f2 a0 c4 c1)
def confidantlaw8_VerifyTells.f (K : Nat) (l14 : List (List S32)) (l17 : List S51) (a20 : Int) (a21 : Int) (a22 : Int) (a23 : Int) (l24 : List Int) : Option Bool := b1 (confidantlaw8_known.f K) fun (i6 : Bool) => (if i6 = true then (lt (fun (g4 : Bool) => (if g4 = true then (some true) else (b1 (confidantseat_Code.f K l24 4 (IntKind.i64.wrap ((IntKind.i64.wrap (Int.tmod a21 3)) + 1)) (IntKind.i64.wrap (Int.tmod a23 3)) false) fun (a1 : List (List S32)) => (b1 (confidantlaw8_code.f K l17 a20) fun (a5 : List S32) => (lt (fun (d3 : List (List S32)) (d4 : List S32) (d5 : List S32) => (lt (fun (g6 : List (List (List S32))) (g7 : List (List S32)) => (b3 (verify_Image.f K a1 4 (IntKind.i64.wrap (Int.tmod a23 3))) fun (t0 : Int) (t1 : Int) (g1 : Int) => (b3 (confidantref5_Image.f K a1 4 (IntKind.i64.wrap (Int.tmod a23 3))) fun (t2 : Int) (t3 : Int) (i8 : Int) => (some (decide (g1 = i8)))))) fun f3 => (if (([] : List (List S32)).length + a1.length) * 24 ≤ 140737488355328 then (lt (([] : List (List S32)) ++ a1) fun f6 => (lt ([a5] : List (List S32)) fun c9 => (if (f6.length + c9.length) * 24 ≤ 140737488355328 then (lt (f6 ++ c9) fun d2 => (lt ([l14, a1, d2] : List (List (List S32))) fun a4 => (confidantlaw8_VerifyTells.l1 K a4 a22 a23 f3 c9 K 0))) else none))) else none))) fun f2 => (if (([] : List S32).length + a5.length) * 16 ≤ 140737488355328 then (lt (([] : List S32) ++ a5) fun f4 => (lt ([(⟨26, 0⟩ : S32)] : List S32) fun c1 => (if (f4.length + c1.length) * 16 ≤ 140737488355328 then (lt (f4 ++ c1) fun c2 => (lt ([(⟨1, 0⟩ : S32), (⟨1, 0⟩ : S32), (⟨1, 0⟩ : S32)] : List S32) fun g2 => (if (g2.length + a5.length) * 16 ≤ 140737488355328 then (lt (g2 ++ a5) fun f5 => (lt ([(⟨25, 0⟩ : S32)] : List S32) fun c4 => (if (f5.length + c4.length) * 16 ≤ 140737488355328 then (lt (f5 ++ c4) fun c8 => (lt ([a5, c2, c8] : List (List S32)) fun a0 => (confidantlaw8_VerifyTells.l0 K a0 a21 a22 a23 f2 c4 c1 K 0))) else none))) else none))) else none))) else none)))))) fun i3 => (b1 (confidanthelp_SmallImage.f K l14) fun (g3 : Bool) => (if g3 = true then (if (l17.length : Int) > 30 then (i3 true) else (i3 (decide ((l24.length : Int) > 60)))) else (i3 true)))) else (some false))
set_option maxRecDepth 100000 in
theorem confidantlaw8_VerifyTells.calls {K : Nat} {l14 : List (List S32)} {l17 : List S51} {a20 : Int} {a21 : Int} {a22 : Int} {a23 : Int} {l24 : List Int} {A15 : Option Addr} {C16 : Nat} {A18 : Option Addr} {C19 : Nat} {A25 : Option Addr} {C26 : Nat} {f0 : Bool} {B w : World} {os : List Ass} {rs : List Ro} (H : confidantlaw8_VerifyTells.f K l14 l17 a20 a21 a22 a23 l24 = some f0) (hS : St B w (os) (Ro.sl (Kd.slice kS32) A15 C16 l14 :: Ro.sl kS51 A18 C19 l17 :: Ro.sl (Kd.int .u8) A25 C26 l24 :: rs)) :
  Calls Try.prog 3 [sv A15 C16 l14, sv A18 C19 l17, ig a20, ig a21, ig a22, ig a23, sv A25 C26 l24].toArray w (fun en w' => ∃ v, en = .returned v ∧ v = .bool (f0) ∧ St B w' (os) (Ro.sl (Kd.slice kS32) A15 C16 l14 :: Ro.sl kS51 A18 C19 l17 :: Ro.sl (Kd.int .u8) A25 C26 l24 :: rs)) := by
 unfold confidantlaw8_VerifyTells.f at H
 refine calls_of_EW (args := [sv A15 C16 l14, sv A18 C19 l17, ig a20, ig a21, ig a22, ig a23, sv A25 C26 l24]) (c := Cd3) 194 Try.func3 (by kernel_rfl) (by kernel_rfl) (by kernel_rfl) ?_
 refine EW.sq (by kernel_rfl) ?_
 refine EW.rg (by kernel_rfl) ?_
 refine EL.quick 1 [0, 1, 2, 3, 4, 5, 6] [(0, sv A15 C16 l14), (1, sv A18 C19 l17), (2, ig a20), (3, ig a21), (4, ig a22), (5, ig a23), (6, sv A25 C26 l24)] (by kernel_rfl) ?_
 refine EL.done (by kernel_rfl) ?_
 refine EQ.code ?_
 refine EW.sq (by kernel_rfl) ?_
 refine EW.sq (by kernel_rfl) ?_
 refine EW.rg (by kernel_rfl) ?_
 obtain ⟨i6, o6, H⟩ := b1_out H
 have hq := confidantlaw8_known.calls o6 hS
 refine EL.of (EO.callD 12 [] _ 40 (by kernel_rfl) (by kernel_rfl) (by kernel_rfl) hq ?_)
 rintro v w ⟨rfl, hS⟩
 refine EL.quick 1 [0, 1, 2, 3, 4, 5, 6, 41] [(0, sv A15 C16 l14), (1, sv A18 C19 l17), (2, ig a20), (3, ig a21), (4, ig a22), (5, ig a23), (6, sv A25 C26 l24), (41, .bool (!(i6)))] (by kernel_rfl) ?_
 refine EL.done (by kernel_rfl) ?_
 refine EQ.code ?_
 refine EW.cdQ (b := !(i6)) (i6 = true) (false) (by kernel_rfl) (by kernel_rfl) ⟨fun h => (by rw [h] <;> rfl), fun h => (by rw [Bool.eq_false_iff.2 h] <;> rfl)⟩ (fun m7 => ?_) (fun m7 => ?_)
 ·rw [if_pos m7] at H
  refine EW.skip (by kernel_rfl) ?_
  refine EQ.code ?_
  refine EW.sq (by kernel_rfl) ?_
  obtain ⟨i3, p9, H⟩ := lt_out H
  refine EW.ct (fun a w => ∃ g4 : Bool, Sat 194 [(0, sv A15 C16 l14), (1, sv A18 C19 l17), (2, ig a20), (3, ig a21), (4, ig a22), (5, ig a23), (6, sv A25 C26 l24), (54, .bool (g4))] a ∧ St B w (os) (Ro.sl (Kd.slice kS32) A15 C16 l14 :: Ro.sl kS51 A18 C19 l17 :: Ro.sl (Kd.int .u8) A25 C26 l24 :: rs) ∧ i3 g4 = some f0) (by kernel_rfl) ?_ (fun a w hI => ?_)
  ·refine EW.rg (by kernel_rfl) ?_
   refine EL.quick 1 [0, 1, 2, 3, 4, 5, 6, 42] [(0, sv A15 C16 l14), (1, sv A18 C19 l17), (2, ig a20), (3, ig a21), (4, ig a22), (5, ig a23), (6, sv A25 C26 l24), (42, sv A15 C16 l14)] (by kernel_rfl) ?_
   have hS : St B _ (os) (Ro.sl (Kd.slice kS32) A15 C16 l14 :: Ro.sl kS51 A18 C19 l17 :: Ro.sl (Kd.int .u8) A25 C26 l24 :: rs) := hS.re [] [] rfl (sub_cons 0 rfl (sub_tail (sub_self)))
   obtain ⟨g3, o7, H⟩ := b1_out H
   have hq := confidanthelp_SmallImage.calls o7 hS
   refine EL.of (EO.callD 13 [sv A15 C16 l14] _ 43 (by kernel_rfl) (by kernel_rfl) (by kernel_rfl) hq ?_)
   rintro v w ⟨rfl, hS⟩
   refine EL.quick 2 [0, 1, 2, 3, 4, 5, 6, 45] [(0, sv A15 C16 l14), (1, sv A18 C19 l17), (2, ig a20), (3, ig a21), (4, ig a22), (5, ig a23), (6, sv A25 C26 l24), (45, .bool (!(g3)))] (by kernel_rfl) ?_
   by_cases j9 : g3 = true
   ·rw [if_pos j9] at H
    refine EL.keep [0, 1, 2, 3, 4, 5, 6, 45] [(0, sv A15 C16 l14), (1, sv A18 C19 l17), (2, ig a20), (3, ig a21), (4, ig a22), (5, ig a23), (6, sv A25 C26 l24), (45, .bool (!(g3)))] (by kernel_rfl) ?_
    refine EL.as' [(0, sv A15 C16 l14), (1, sv A18 C19 l17), (2, ig a20), (3, ig a21), (4, ig a22), (5, ig a23), (6, sv A25 C26 l24), (45, .bool (false))] (by simp only [sv, j9, Bool.not_true, Bool.not_false]) ?_
    refine EL.quick 5 [0, 1, 2, 3, 4, 5, 6, 50] [(0, sv A15 C16 l14), (1, sv A18 C19 l17), (2, ig a20), (3, ig a21), (4, ig a22), (5, ig a23), (6, sv A25 C26 l24), (50, .bool (decide ((l17.length : Int) > 30)))] (by kernel_rfl) ?_
    by_cases m0 : (l17.length : Int) > 30
    ·rw [if_pos m0] at H
     refine EL.keep [0, 1, 2, 3, 4, 5, 6, 50] [(0, sv A15 C16 l14), (1, sv A18 C19 l17), (2, ig a20), (3, ig a21), (4, ig a22), (5, ig a23), (6, sv A25 C26 l24), (50, .bool (decide ((l17.length : Int) > 30)))] (by kernel_rfl) ?_
     refine EL.as' [(0, sv A15 C16 l14), (1, sv A18 C19 l17), (2, ig a20), (3, ig a21), (4, ig a22), (5, ig a23), (6, sv A25 C26 l24), (50, .bool (true))] (by simp only [sv, dec_t m0, Bool.not_true, Bool.not_false]) ?_
     refine EL.quick 4 [0, 1, 2, 3, 4, 5, 6, 54] [(0, sv A15 C16 l14), (1, sv A18 C19 l17), (2, ig a20), (3, ig a21), (4, ig a22), (5, ig a23), (6, sv A25 C26 l24), (54, .bool (true))] (by kernel_rfl) ?_
     refine EL.done (by kernel_rfl) ?_
     refine EQ.to ?_
     refine EQ.keep [0, 1, 2, 3, 4, 5, 6, 54] [(0, sv A15 C16 l14), (1, sv A18 C19 l17), (2, ig a20), (3, ig a21), (4, ig a22), (5, ig a23), (6, sv A25 C26 l24), (54, .bool (true))] (by kernel_rfl) ?_
     exact fun a ha => ⟨true, ha, (hS.re [] [] rfl (sub_cons 0 rfl (sub_cons 1 rfl (sub_cons 2 rfl (sub_tail (sub_tail (sub_tail (sub_self)))))))), H⟩
    rw [if_neg m0] at H
    refine EL.keep [0, 1, 2, 3, 4, 5, 6, 50] [(0, sv A15 C16 l14), (1, sv A18 C19 l17), (2, ig a20), (3, ig a21), (4, ig a22), (5, ig a23), (6, sv A25 C26 l24), (50, .bool (decide ((l17.length : Int) > 30)))] (by kernel_rfl) ?_
    refine EL.as' [(0, sv A15 C16 l14), (1, sv A18 C19 l17), (2, ig a20), (3, ig a21), (4, ig a22), (5, ig a23), (6, sv A25 C26 l24), (50, .bool (false))] (by simp only [sv, dec_f m0, Bool.not_true, Bool.not_false]) ?_
    refine EL.quick 4 [0, 1, 2, 3, 4, 5, 6, 54] [(0, sv A15 C16 l14), (1, sv A18 C19 l17), (2, ig a20), (3, ig a21), (4, ig a22), (5, ig a23), (6, sv A25 C26 l24), (54, .bool (decide ((l24.length : Int) > 60)))] (by kernel_rfl) ?_
    refine EL.done (by kernel_rfl) ?_
    refine EQ.to ?_
    refine EQ.keep [0, 1, 2, 3, 4, 5, 6, 54] [(0, sv A15 C16 l14), (1, sv A18 C19 l17), (2, ig a20), (3, ig a21), (4, ig a22), (5, ig a23), (6, sv A25 C26 l24), (54, .bool (decide ((l24.length : Int) > 60)))] (by kernel_rfl) ?_
    exact fun a ha => ⟨decide ((l24.length : Int) > 60), ha, (hS.re [] [] rfl (sub_cons 0 rfl (sub_cons 1 rfl (sub_cons 2 rfl (sub_tail (sub_tail (sub_tail (sub_self)))))))), H⟩
   rw [if_neg j9] at H
   refine EL.keep [0, 1, 2, 3, 4, 5, 6, 45] [(0, sv A15 C16 l14), (1, sv A18 C19 l17), (2, ig a20), (3, ig a21), (4, ig a22), (5, ig a23), (6, sv A25 C26 l24), (45, .bool (!(g3)))] (by kernel_rfl) ?_
   refine EL.as' [(0, sv A15 C16 l14), (1, sv A18 C19 l17), (2, ig a20), (3, ig a21), (4, ig a22), (5, ig a23), (6, sv A25 C26 l24), (45, .bool (true))] (by simp only [sv, (Bool.eq_false_iff.2 j9), Bool.not_true, Bool.not_false]) ?_
   refine EL.quick 9 [0, 1, 2, 3, 4, 5, 6, 54] [(0, sv A15 C16 l14), (1, sv A18 C19 l17), (2, ig a20), (3, ig a21), (4, ig a22), (5, ig a23), (6, sv A25 C26 l24), (54, .bool (true))] (by kernel_rfl) ?_
   refine EL.done (by kernel_rfl) ?_
   refine EQ.to ?_
   refine EQ.keep [0, 1, 2, 3, 4, 5, 6, 54] [(0, sv A15 C16 l14), (1, sv A18 C19 l17), (2, ig a20), (3, ig a21), (4, ig a22), (5, ig a23), (6, sv A25 C26 l24), (54, .bool (true))] (by kernel_rfl) ?_
   exact fun a ha => ⟨true, ha, (hS.re [] [] rfl (sub_cons 0 rfl (sub_cons 1 rfl (sub_cons 2 rfl (sub_tail (sub_tail (sub_tail (sub_self)))))))), H⟩
  obtain ⟨g4, ha, hS, H⟩ := hI
  rw [p9] at H
  (try dsimp only at H)
  refine EW.at ?_ a ha
  clear ha a
  refine EW.cdP' (g4) (by kernel_rfl) (by kernel_rfl) (fun m8 => ?_) (fun m8 => ?_)
  ·rw [if_pos m8] at H
   refine EW.sq (by kernel_rfl) ?_
   refine EW.rg (by kernel_rfl) ?_
   refine EL.quick 1 [14] [(14, .bool (true))] (by kernel_rfl) ?_
   refine EL.done (by kernel_rfl) ?_
   refine EQ.code ?_
   refine EW.ret (by kernel_rfl) ?_
   refine EQ.ret ?_
   obtain rfl := Option.some.inj H
   exact EQ.leave (.bool (true)) (by kernel_rfl) ⟨_, rfl, rfl, (hS.re [] [] rfl (sub_self))⟩
  rw [if_neg m8] at H
  refine EW.skip (by kernel_rfl) ?_
  refine EQ.code ?_
  refine EW.sq (by kernel_rfl) ?_
  refine EW.rg (by kernel_rfl) ?_
  refine EL.quick 8 [0, 1, 2, 3, 4, 5, 55, 59, 62] [(0, sv A15 C16 l14), (1, sv A18 C19 l17), (2, ig a20), (3, ig a21), (4, ig a22), (5, ig a23), (55, sv A25 C26 l24), (59, ia (IntKind.i64.wrap ((IntKind.i64.wrap (Int.tmod a21 3)) + 1))), (62, ia (IntKind.i64.wrap (Int.tmod a23 3)))] (by kernel_rfl) ?_
  have hS : St B _ (os) (Ro.sl (Kd.int .u8) A25 C26 l24 :: Ro.sl (Kd.slice kS32) A15 C16 l14 :: Ro.sl kS51 A18 C19 l17 :: rs) := hS.re [] [] rfl (sub_cons 2 rfl (sub_cons 0 rfl (sub_cons 1 rfl (sub_tail (sub_tail (sub_tail (sub_self)))))))
  obtain ⟨a1, o8, H⟩ := b1_out H
  have hq := confidantseat_Code.calls o8 hS
  refine EL.of (EO.callD 14 [sv A25 C26 l24, ia 4, ia (IntKind.i64.wrap ((IntKind.i64.wrap (Int.tmod a21 3)) + 1)), ia (IntKind.i64.wrap (Int.tmod a23 3)), .bool (false)] _ 63 (by kernel_rfl) (by kernel_rfl) (by kernel_rfl) hq ?_)
  rintro v w ⟨a2, a3, rfl, hS⟩
  refine EL.quick 1 [0, 1, 2, 3, 4, 5, 15] [(0, sv A15 C16 l14), (1, sv A18 C19 l17), (2, ig a20), (3, ig a21), (4, ig a22), (5, ig a23), (15, sv a2 a3 a1)] (by kernel_rfl) ?_
  refine EL.done (by kernel_rfl) ?_
  refine EQ.code ?_
  refine EW.sq (by kernel_rfl) ?_
  refine EW.rg (by kernel_rfl) ?_
  refine EL.quick 2 [0, 3, 4, 5, 15, 64, 65] [(0, sv A15 C16 l14), (3, ig a21), (4, ig a22), (5, ig a23), (15, sv a2 a3 a1), (64, sv A18 C19 l17), (65, ig a20)] (by kernel_rfl) ?_
  have hS : St B _ (Ass.own 29 (Kd.slice kS32) a2 a3 a1 :: os) (Ro.sl kS51 A18 C19 l17 :: Ro.sl (Kd.int .u8) A25 C26 l24 :: Ro.sl (Kd.slice kS32) A15 C16 l14 :: rs) := hS.re [] [] rfl (sub_cons 2 rfl (sub_cons 0 rfl (sub_cons 1 rfl (sub_tail (sub_tail (sub_tail (sub_self)))))))
  obtain ⟨a5, o9, H⟩ := b1_out H
  have hq := confidantlaw8_code.calls o9 hS
  refine EL.of (EO.callD 15 [sv A18 C19 l17, ig a20] _ 66 (by kernel_rfl) (by kernel_rfl) (by kernel_rfl) hq ?_)
  rintro v w ⟨a7, a8, rfl, hS⟩
  refine EL.quick 1 [0, 3, 4, 5, 15, 16] [(0, sv A15 C16 l14), (3, ig a21), (4, ig a22), (5, ig a23), (15, sv a2 a3 a1), (16, sv a7 a8 a5)] (by kernel_rfl) ?_
  refine EL.done (by kernel_rfl) ?_
  refine EQ.code ?_
  refine EW.sq (by kernel_rfl) ?_
  refine EW.rg (by kernel_rfl) ?_
  refine EL.quick 12 [0, 5, 15, 16, 17, 18, 19] [(0, sv A15 C16 l14), (5, ig a23), (15, sv a2 a3 a1), (16, sv a7 a8 a5), (17, ia (IntKind.i64.wrap (Int.tmod a21 8))), (18, ia (IntKind.i64.wrap (Int.tmod a22 8))), (19, ia (IntKind.i64.wrap (Int.tmod a23 6)))] (by kernel_rfl) ?_
  refine EL.done (by kernel_rfl) ?_
  refine EQ.code ?_
  obtain ⟨f2, q0, H⟩ := lt_out H
  refine EW.ct (fun a w => ∃ d3 : List (List S32), ∃ d4 : List S32, ∃ d5 : List S32, ∃ d7 : Option Addr, ∃ e1 : Nat, ∃ d8 : Option Addr, ∃ e2 : Nat, ∃ d9 : Option Addr, ∃ e3 : Nat, Sat 194 [(0, sv A15 C16 l14), (5, ig a23), (15, sv a2 a3 a1), (16, sv a7 a8 a5), (18, ia (IntKind.i64.wrap (Int.tmod a22 8))), (19, ia (IntKind.i64.wrap (Int.tmod a23 6)))] a ∧ St B w (Ass.own 29 (Kd.slice kS32) d7 e1 d3 :: Ass.own 32 kS32 d8 e2 d4 :: Ass.own 32 kS32 d9 e3 d5 :: Ass.own 29 (Kd.slice kS32) a2 a3 a1 :: os) (Ro.sl kS32 a7 a8 a5 :: Ro.sl kS51 A18 C19 l17 :: Ro.sl (Kd.int .u8) A25 C26 l24 :: Ro.sl (Kd.slice kS32) A15 C16 l14 :: rs) ∧ f2 d3 d4 d5 = some f0) (by kernel_rfl) ?_ (fun a w hI => ?_)
  ·refine EW.sq (by kernel_rfl) ?_
   refine EW.rg (by kernel_rfl) ?_
   refine EL.quick 2 [0, 5, 15, 16, 17, 18, 19, 76, 77] [(0, sv A15 C16 l14), (5, ig a23), (15, sv a2 a3 a1), (16, sv a7 a8 a5), (17, ia (IntKind.i64.wrap (Int.tmod a21 8))), (18, ia (IntKind.i64.wrap (Int.tmod a22 8))), (19, ia (IntKind.i64.wrap (Int.tmod a23 6))), (76, sv a7 a8 a5), (77, sv a7 a8 a5)] (by kernel_rfl) ?_
   have hS := St.nilO hS 32 kS32
   obtain ⟨o0, H⟩ := ite_in H
   obtain ⟨f4, q4, H⟩ := lt_out H
   refine EL.of (EO.append hS 29 29 32 16 0 kS32 none 0 ([] : List S32) rfl a7 a8 a5 (Rd.own 1 32 rfl) f4 q4 (fun i9 j4 => Ass.own 32 kS32 i9 j4 f4 :: Ass.own 32 kS32 a7 a8 a5 :: Ass.own 29 (Kd.slice kS32) a2 a3 a1 :: os) 78 (by kernel_rfl) (by kernel_rfl) (by kernel_rfl) (by kernel_rfl) o0 (fun _ _ => rfl) ?_)
   intro i9 j4 w hS
   refine EL.quick 1 [0, 5, 15, 16, 17, 18, 19, 76, 78, 79] [(0, sv A15 C16 l14), (5, ig a23), (15, sv a2 a3 a1), (16, sv a7 a8 a5), (17, ia (IntKind.i64.wrap (Int.tmod a21 8))), (18, ia (IntKind.i64.wrap (Int.tmod a22 8))), (19, ia (IntKind.i64.wrap (Int.tmod a23 6))), (76, sv a7 a8 a5), (78, sv i9 j4 f4), (79, ag [ia 26, ib 0])] (by kernel_rfl) ?_
   obtain ⟨c1, n4, H⟩ := lt_out H
   refine EL.of (EO.lit hS kS32 32 29 1 #[(0, ag [ia 26, ib 0])] [ia 26, ib 0] c1 80 (by kernel_rfl) (by kernel_rfl) (by kernel_rfl) (fun _ => (by kernel_rfl)) (by rw [n4]; rfl) (by kernel_rfl) (fun w G hr => (by rw [n4]; exact ⟨[ia 26, ib 0], [], rfl, ⟨[ia 26], [ib 0], rfl, rfl, ⟨[ib 0], [], rfl, rfl, rfl⟩⟩, rfl⟩)) ?_)
   intro d6 w hS
   obtain ⟨o1, H⟩ := ite_in H
   obtain ⟨c2, q5, H⟩ := lt_out H
   refine EL.of (EO.append hS 29 29 32 16 1 kS32 i9 j4 f4 rfl (some ⟨d6, 0, none⟩) 1 c1 (Rd.own 0 32 rfl) c2 q5 (fun c5 c6 => Ass.own 32 kS32 (some ⟨d6, 0, none⟩) 1 c1 :: Ass.own 32 kS32 c5 c6 c2 :: Ass.own 32 kS32 a7 a8 a5 :: Ass.own 29 (Kd.slice kS32) a2 a3 a1 :: os) 81 (by kernel_rfl) (by kernel_rfl) (by kernel_rfl) (by kernel_rfl) o1 (fun _ _ => rfl) ?_)
   intro c5 c6 w hS
   refine EL.quick 3 [0, 5, 15, 16, 17, 18, 19, 76, 81, 82, 83, 84] [(0, sv A15 C16 l14), (5, ig a23), (15, sv a2 a3 a1), (16, sv a7 a8 a5), (17, ia (IntKind.i64.wrap (Int.tmod a21 8))), (18, ia (IntKind.i64.wrap (Int.tmod a22 8))), (19, ia (IntKind.i64.wrap (Int.tmod a23 6))), (76, sv a7 a8 a5), (81, sv c5 c6 c2), (82, ag [ia 1, ib 0]), (83, ag [ia 1, ib 0]), (84, ag [ia 1, ib 0])] (by kernel_rfl) ?_
   obtain ⟨g2, n5, H⟩ := lt_out H
   refine EL.of (EO.lit hS kS32 32 29 3 #[(0, ag [ia 1, ib 0]), (1, ag [ia 1, ib 0]), (2, ag [ia 1, ib 0])] [ia 1, ib 0, ia 1, ib 0, ia 1, ib 0] g2 85 (by kernel_rfl) (by kernel_rfl) (by kernel_rfl) (fun _ => (by kernel_rfl)) (by rw [n5]; rfl) (by kernel_rfl) (fun w G hr => (by rw [n5]; exact ⟨[ia 1, ib 0], [ia 1, ib 0, ia 1, ib 0], rfl, ⟨[ia 1], [ib 0], rfl, rfl, ⟨[ib 0], [], rfl, rfl, rfl⟩⟩, ⟨[ia 1, ib 0], [ia 1, ib 0], rfl, ⟨[ia 1], [ib 0], rfl, rfl, ⟨[ib 0], [], rfl, rfl, rfl⟩⟩, ⟨[ia 1, ib 0], [], rfl, ⟨[ia 1], [ib 0], rfl, rfl, ⟨[ib 0], [], rfl, rfl, rfl⟩⟩, rfl⟩⟩⟩)) ?_)
   intro n1 w hS
   refine EL.quick 1 [0, 5, 15, 16, 17, 18, 19, 76, 81, 85, 86] [(0, sv A15 C16 l14), (5, ig a23), (15, sv a2 a3 a1), (16, sv a7 a8 a5), (17, ia (IntKind.i64.wrap (Int.tmod a21 8))), (18, ia (IntKind.i64.wrap (Int.tmod a22 8))), (19, ia (IntKind.i64.wrap (Int.tmod a23 6))), (76, sv a7 a8 a5), (81, sv c5 c6 c2), (85, sv (some ⟨n1, 0, none⟩) 3 g2), (86, sv a7 a8 a5)] (by kernel_rfl) ?_
   obtain ⟨o2, H⟩ := ite_in H
   obtain ⟨f5, q6, H⟩ := lt_out H
   refine EL.of (EO.append hS 29 29 32 16 0 kS32 (some ⟨n1, 0, none⟩) 3 g2 rfl a7 a8 a5 (Rd.own 3 32 rfl) f5 q6 (fun j0 j5 => Ass.own 32 kS32 j0 j5 f5 :: Ass.own 32 kS32 (some ⟨d6, 0, none⟩) 1 c1 :: Ass.own 32 kS32 c5 c6 c2 :: Ass.own 32 kS32 a7 a8 a5 :: Ass.own 29 (Kd.slice kS32) a2 a3 a1 :: os) 87 (by kernel_rfl) (by kernel_rfl) (by kernel_rfl) (by kernel_rfl) o2 (fun _ _ => rfl) ?_)
   intro j0 j5 w hS
   refine EL.quick 1 [0, 5, 15, 16, 17, 18, 19, 76, 81, 87, 88] [(0, sv A15 C16 l14), (5, ig a23), (15, sv a2 a3 a1), (16, sv a7 a8 a5), (17, ia (IntKind.i64.wrap (Int.tmod a21 8))), (18, ia (IntKind.i64.wrap (Int.tmod a22 8))), (19, ia (IntKind.i64.wrap (Int.tmod a23 6))), (76, sv a7 a8 a5), (81, sv c5 c6 c2), (87, sv j0 j5 f5), (88, ag [ia 25, ib 0])] (by kernel_rfl) ?_
   obtain ⟨c4, n6, H⟩ := lt_out H
   refine EL.of (EO.lit hS kS32 32 29 1 #[(0, ag [ia 25, ib 0])] [ia 25, ib 0] c4 89 (by kernel_rfl) (by kernel_rfl) (by kernel_rfl) (fun _ => (by kernel_rfl)) (by rw [n6]; rfl) (by kernel_rfl) (fun w G hr => (by rw [n6]; exact ⟨[ia 25, ib 0], [], rfl, ⟨[ia 25], [ib 0], rfl, rfl, ⟨[ib 0], [], rfl, rfl, rfl⟩⟩, rfl⟩)) ?_)
   intro e7 w hS
   obtain ⟨o3, H⟩ := ite_in H
   obtain ⟨c8, q7, H⟩ := lt_out H
   refine EL.of (EO.append hS 29 29 32 16 1 kS32 j0 j5 f5 rfl (some ⟨e7, 0, none⟩) 1 c4 (Rd.own 0 32 rfl) c8 q7 (fun d0 d1 => Ass.own 32 kS32 (some ⟨e7, 0, none⟩) 1 c4 :: Ass.own 32 kS32 d0 d1 c8 :: Ass.own 32 kS32 (some ⟨d6, 0, none⟩) 1 c1 :: Ass.own 32 kS32 c5 c6 c2 :: Ass.own 32 kS32 a7 a8 a5 :: Ass.own 29 (Kd.slice kS32) a2 a3 a1 :: os) 90 (by kernel_rfl) (by kernel_rfl) (by kernel_rfl) (by kernel_rfl) o3 (fun _ _ => rfl) ?_)
   intro d0 d1 w hS
   have hS := St.fr hS 4 rfl
   have hS := St.fr hS 3 rfl
   have hS := St.fr hS 1 rfl
   obtain ⟨a0, n7, H⟩ := lt_out H
   refine EL.of (EO.lit hS (Kd.slice kS32) 29 22 3 #[(0, sv a7 a8 a5), (1, sv c5 c6 c2), (2, sv d0 d1 c8)] [sv a7 a8 a5, sv c5 c6 c2, sv d0 d1 c8] a0 91 (by kernel_rfl) (by kernel_rfl) (by kernel_rfl) (fun _ => (by kernel_rfl)) (by rw [n7]; rfl) (by kernel_rfl) (fun w G hr => (by rw [n7]; exact ⟨[sv a7 a8 a5], [sv c5 c6 c2, sv d0 d1 c8], rfl, (hr _ (List.mem_of_getElem? (i := 2) rfl)), ⟨[sv c5 c6 c2], [sv d0 d1 c8], rfl, (hr _ (List.mem_of_getElem? (i := 1) rfl)), ⟨[sv d0 d1 c8], [], rfl, (hr _ (List.mem_of_getElem? (i := 0) rfl)), rfl⟩⟩⟩)) ?_)
   intro b0 w hS
   refine EL.quick 2 [0, 5, 15, 16, 17, 18, 19, 91, 92, 93] [(0, sv A15 C16 l14), (5, ig a23), (15, sv a2 a3 a1), (16, sv a7 a8 a5), (17, ia (IntKind.i64.wrap (Int.tmod a21 8))), (18, ia (IntKind.i64.wrap (Int.tmod a22 8))), (19, ia (IntKind.i64.wrap (Int.tmod a23 6))), (91, sv (some ⟨b0, 0, none⟩) 3 a0), (92, ia (a0.length : Int)), (93, ia 0)] (by kernel_rfl) ?_
   refine EL.done (by kernel_rfl) ?_
   refine EQ.code ?_
   refine EW.bl 0 (by kernel_rfl) ?_
   refine EW.lp (fun n a w => ∃ a6 : Int, Sat 194 [(0, sv A15 C16 l14), (5, ig a23), (15, sv a2 a3 a1), (16, sv a7 a8 a5), (17, ia (IntKind.i64.wrap (Int.tmod a21 8))), (18, ia (IntKind.i64.wrap (Int.tmod a22 8))), (19, ia (IntKind.i64.wrap (Int.tmod a23 6))), (91, sv (some ⟨b0, 0, none⟩) 3 a0), (92, ia (a0.length : Int)), (93, ia a6)] a ∧ St B w (Ass.own 29 (Kd.slice kS32) (some ⟨b0, 0, none⟩) 3 a0 :: Ass.own 32 kS32 (some ⟨e7, 0, none⟩) 1 c4 :: Ass.own 32 kS32 (some ⟨d6, 0, none⟩) 1 c1 :: Ass.own 29 (Kd.slice kS32) a2 a3 a1 :: os) (Ro.sl kS32 d0 d1 c8 :: Ro.sl kS32 c5 c6 c2 :: Ro.sl kS32 a7 a8 a5 :: Ro.sl kS51 A18 C19 l17 :: Ro.sl (Kd.int .u8) A25 C26 l24 :: Ro.sl (Kd.slice kS32) A15 C16 l14 :: rs) ∧ confidantlaw8_VerifyTells.l0 K a0 a21 a22 a23 f2 c4 c1 n a6 = some f0) K (by kernel_rfl) ?_ (fun n a w hI => ?_)
   ·refine EQ.keep [0, 5, 15, 16, 17, 18, 19, 91, 92, 93] [(0, sv A15 C16 l14), (5, ig a23), (15, sv a2 a3 a1), (16, sv a7 a8 a5), (17, ia (IntKind.i64.wrap (Int.tmod a21 8))), (18, ia (IntKind.i64.wrap (Int.tmod a22 8))), (19, ia (IntKind.i64.wrap (Int.tmod a23 6))), (91, sv (some ⟨b0, 0, none⟩) 3 a0), (92, ia (a0.length : Int)), (93, ia 0)] (by kernel_rfl) ?_
    exact fun a ha => ⟨0, ha, (hS.re [3, 3, 3, 3] [] rfl (sub_cons 0 rfl (sub_cons 1 rfl (sub_cons 2 rfl (sub_cons 3 rfl (sub_cons 4 rfl (sub_cons 5 rfl (sub_tail (sub_tail (sub_tail (sub_tail (sub_tail (sub_tail (sub_self)))))))))))))), H⟩
   obtain ⟨a6, ha, hS, H⟩ := hI
   obtain _ | n := n
   ·simp [confidantlaw8_VerifyTells.l0] at H
   rw [confidantlaw8_VerifyTells.l0.eq_2] at H
   refine EW.at ?_ a ha
   clear ha a
   refine EW.sq (by kernel_rfl) ?_
   refine EW.rg (by kernel_rfl) ?_
   refine EL.quick 1 [0, 5, 15, 16, 17, 18, 19, 91, 92, 93, 94] [(0, sv A15 C16 l14), (5, ig a23), (15, sv a2 a3 a1), (16, sv a7 a8 a5), (17, ia (IntKind.i64.wrap (Int.tmod a21 8))), (18, ia (IntKind.i64.wrap (Int.tmod a22 8))), (19, ia (IntKind.i64.wrap (Int.tmod a23 6))), (91, sv (some ⟨b0, 0, none⟩) 3 a0), (92, ia (a0.length : Int)), (93, ia a6), (94, .bool (decide (a6 < (a0.length : Int))))] (by kernel_rfl) ?_
   refine EL.done (by kernel_rfl) ?_
   refine EQ.code ?_
   refine EW.sq (by kernel_rfl) ?_
   refine EW.cdP (a6 < (a0.length : Int)) (by kernel_rfl) (by kernel_rfl) (fun i1 => ?_) (fun i1 => ?_)
   ·rw [if_pos i1] at H
    refine EW.skip (by kernel_rfl) ?_
    refine EQ.code ?_
    refine EW.sq (by kernel_rfl) ?_
    refine EW.bl 1 (by kernel_rfl) ?_
    refine EW.sq (by kernel_rfl) ?_
    refine EW.rg (by kernel_rfl) ?_
    obtain ⟨n2, H⟩ := ite_in H
    refine EL.of (EO.Y (YO.idx 22 1 ⟨b0, 0, none⟩ a0.length 3 .i64 a6 95 (by kernel_rfl) (by kernel_rfl) (by kernel_rfl) (by kernel_rfl) n2 i1) ?_)
    refine EL.of (EO.loadSl hS kS32 ⟨b0, 0, none⟩ 3 a0 (Rd.own 0 29 rfl) a6 n2 i1 29 96 (by kernel_rfl) (by kernel_rfl) (by kernel_rfl) (by kernel_rfl) ?_)
    intro b5 b6 hS
    refine EL.quick 1 [0, 5, 15, 16, 17, 18, 19, 21, 91, 92, 93] [(0, sv A15 C16 l14), (5, ig a23), (15, sv a2 a3 a1), (16, sv a7 a8 a5), (17, ia (IntKind.i64.wrap (Int.tmod a21 8))), (18, ia (IntKind.i64.wrap (Int.tmod a22 8))), (19, ia (IntKind.i64.wrap (Int.tmod a23 6))), (21, sv b5 b6 (a0.getD a6.toNat [])), (91, sv (some ⟨b0, 0, none⟩) 3 a0), (92, ia (a0.length : Int)), (93, ia a6)] (by kernel_rfl) ?_
    refine EL.done (by kernel_rfl) ?_
    refine EQ.code ?_
    refine EW.sq (by kernel_rfl) ?_
    refine EW.rg (by kernel_rfl) ?_
    refine EL.quick 4 [0, 5, 15, 16, 17, 18, 19, 21, 91, 92, 93, 98, 99, 100, 101] [(0, sv A15 C16 l14), (5, ig a23), (15, sv a2 a3 a1), (16, sv a7 a8 a5), (17, ia (IntKind.i64.wrap (Int.tmod a21 8))), (18, ia (IntKind.i64.wrap (Int.tmod a22 8))), (19, ia (IntKind.i64.wrap (Int.tmod a23 6))), (21, sv b5 b6 (a0.getD a6.toNat [])), (91, sv (some ⟨b0, 0, none⟩) 3 a0), (92, ia (a0.length : Int)), (93, ia a6), (98, sv b5 b6 (a0.getD a6.toNat [])), (99, ia (IntKind.i64.wrap (Int.tmod a21 8))), (100, ia (IntKind.i64.wrap (Int.tmod a22 8))), (101, ia (IntKind.i64.wrap (Int.tmod a23 6)))] (by kernel_rfl) ?_
    have hS : St B _ (Ass.own 29 (Kd.slice kS32) (some ⟨b0, 0, none⟩) 3 a0 :: Ass.own 32 kS32 (some ⟨e7, 0, none⟩) 1 c4 :: Ass.own 32 kS32 (some ⟨d6, 0, none⟩) 1 c1 :: Ass.own 29 (Kd.slice kS32) a2 a3 a1 :: os) (Ro.sl kS32 b5 b6 (a0.getD a6.toNat []) :: Ro.sl kS32 d0 d1 c8 :: Ro.sl kS32 c5 c6 c2 :: Ro.sl kS32 a7 a8 a5 :: Ro.sl kS51 A18 C19 l17 :: Ro.sl (Kd.int .u8) A25 C26 l24 :: Ro.sl (Kd.slice kS32) A15 C16 l14 :: rs) := hS.re [] [] rfl (sub_cons 0 rfl (sub_tail (sub_self)))
    obtain ⟨e8, b7, p0, H⟩ := b2_out H
    have hq := verify_Func.calls p0 hS
    refine EL.of (EO.callD 16 [sv b5 b6 (a0.getD a6.toNat []), ia (IntKind.i64.wrap (Int.tmod a21 8)), ia (IntKind.i64.wrap (Int.tmod a22 8)), ia (IntKind.i64.wrap (Int.tmod a23 6))] _ 102 (by kernel_rfl) (by kernel_rfl) (by kernel_rfl) hq ?_)
    rintro v w ⟨rfl, hS⟩
    refine EL.quick 5 [0, 5, 15, 16, 17, 18, 19, 21, 22, 23, 91, 92, 93] [(0, sv A15 C16 l14), (5, ig a23), (15, sv a2 a3 a1), (16, sv a7 a8 a5), (17, ia (IntKind.i64.wrap (Int.tmod a21 8))), (18, ia (IntKind.i64.wrap (Int.tmod a22 8))), (19, ia (IntKind.i64.wrap (Int.tmod a23 6))), (21, sv b5 b6 (a0.getD a6.toNat [])), (22, ia e8), (23, ia b7), (91, sv (some ⟨b0, 0, none⟩) 3 a0), (92, ia (a0.length : Int)), (93, ia a6)] (by kernel_rfl) ?_
    refine EL.done (by kernel_rfl) ?_
    refine EQ.code ?_
    refine EW.sq (by kernel_rfl) ?_
    refine EW.rg (by kernel_rfl) ?_
    refine EL.quick 4 [0, 5, 15, 16, 17, 18, 19, 21, 22, 23, 91, 92, 93, 106, 107, 108, 109] [(0, sv A15 C16 l14), (5, ig a23), (15, sv a2 a3 a1), (16, sv a7 a8 a5), (17, ia (IntKind.i64.wrap (Int.tmod a21 8))), (18, ia (IntKind.i64.wrap (Int.tmod a22 8))), (19, ia (IntKind.i64.wrap (Int.tmod a23 6))), (21, sv b5 b6 (a0.getD a6.toNat [])), (22, ia e8), (23, ia b7), (91, sv (some ⟨b0, 0, none⟩) 3 a0), (92, ia (a0.length : Int)), (93, ia a6), (106, sv b5 b6 (a0.getD a6.toNat [])), (107, ia (IntKind.i64.wrap (Int.tmod a21 8))), (108, ia (IntKind.i64.wrap (Int.tmod a22 8))), (109, ia (IntKind.i64.wrap (Int.tmod a23 6)))] (by kernel_rfl) ?_
    have hS : St B _ (Ass.own 29 (Kd.slice kS32) (some ⟨b0, 0, none⟩) 3 a0 :: Ass.own 32 kS32 (some ⟨e7, 0, none⟩) 1 c4 :: Ass.own 32 kS32 (some ⟨d6, 0, none⟩) 1 c1 :: Ass.own 29 (Kd.slice kS32) a2 a3 a1 :: os) (Ro.sl kS32 b5 b6 (a0.getD a6.toNat []) :: Ro.sl kS32 d0 d1 c8 :: Ro.sl kS32 c5 c6 c2 :: Ro.sl kS32 a7 a8 a5 :: Ro.sl kS51 A18 C19 l17 :: Ro.sl (Kd.int .u8) A25 C26 l24 :: Ro.sl (Kd.slice kS32) A15 C16 l14 :: rs) := hS.re [] [] rfl (sub_cons 0 rfl (sub_tail (sub_self)))
    obtain ⟨f7, b8, p1, H⟩ := b2_out H
    have hq := confidantref5_Func.calls p1 hS
    refine EL.of (EO.callD 17 [sv b5 b6 (a0.getD a6.toNat []), ia (IntKind.i64.wrap (Int.tmod a21 8)), ia (IntKind.i64.wrap (Int.tmod a22 8)), ia (IntKind.i64.wrap (Int.tmod a23 6))] _ 110 (by kernel_rfl) (by kernel_rfl) (by kernel_rfl) hq ?_)
    rintro v w ⟨rfl, hS⟩
    refine EL.quick 5 [0, 5, 15, 16, 17, 18, 19, 21, 22, 23, 24, 25, 91, 92, 93] [(0, sv A15 C16 l14), (5, ig a23), (15, sv a2 a3 a1), (16, sv a7 a8 a5), (17, ia (IntKind.i64.wrap (Int.tmod a21 8))), (18, ia (IntKind.i64.wrap (Int.tmod a22 8))), (19, ia (IntKind.i64.wrap (Int.tmod a23 6))), (21, sv b5 b6 (a0.getD a6.toNat [])), (22, ia e8), (23, ia b7), (24, ia f7), (25, ia b8), (91, sv (some ⟨b0, 0, none⟩) 3 a0), (92, ia (a0.length : Int)), (93, ia a6)] (by kernel_rfl) ?_
    refine EL.done (by kernel_rfl) ?_
    refine EQ.code ?_
    obtain ⟨i4, q1, H⟩ := lt_out H
    refine EW.ct (fun a w => ∃ g5 : Bool, Sat 194 [(0, sv A15 C16 l14), (5, ig a23), (15, sv a2 a3 a1), (16, sv a7 a8 a5), (17, ia (IntKind.i64.wrap (Int.tmod a21 8))), (18, ia (IntKind.i64.wrap (Int.tmod a22 8))), (19, ia (IntKind.i64.wrap (Int.tmod a23 6))), (91, sv (some ⟨b0, 0, none⟩) 3 a0), (92, ia (a0.length : Int)), (93, ia a6), (128, .bool (g5))] a ∧ St B w (Ass.own 29 (Kd.slice kS32) (some ⟨b0, 0, none⟩) 3 a0 :: Ass.own 32 kS32 (some ⟨e7, 0, none⟩) 1 c4 :: Ass.own 32 kS32 (some ⟨d6, 0, none⟩) 1 c1 :: Ass.own 29 (Kd.slice kS32) a2 a3 a1 :: os) (Ro.sl kS32 b5 b6 (a0.getD a6.toNat []) :: Ro.sl kS32 d0 d1 c8 :: Ro.sl kS32 c5 c6 c2 :: Ro.sl kS32 a7 a8 a5 :: Ro.sl kS51 A18 C19 l17 :: Ro.sl (Kd.int .u8) A25 C26 l24 :: Ro.sl (Kd.slice kS32) A15 C16 l14 :: rs) ∧ i4 g5 = some f0) (by kernel_rfl) ?_ (fun a w hI => ?_)
    ·refine EW.rg (by kernel_rfl) ?_
     refine EL.quick 4 [0, 5, 15, 16, 17, 18, 19, 21, 23, 25, 91, 92, 93, 116] [(0, sv A15 C16 l14), (5, ig a23), (15, sv a2 a3 a1), (16, sv a7 a8 a5), (17, ia (IntKind.i64.wrap (Int.tmod a21 8))), (18, ia (IntKind.i64.wrap (Int.tmod a22 8))), (19, ia (IntKind.i64.wrap (Int.tmod a23 6))), (21, sv b5 b6 (a0.getD a6.toNat [])), (23, ia b7), (25, ia b8), (91, sv (some ⟨b0, 0, none⟩) 3 a0), (92, ia (a0.length : Int)), (93, ia a6), (116, .bool (!(decide (e8 = f7))))] (by kernel_rfl) ?_
     by_cases m1 : e8 = f7
     ·rw [if_pos m1] at H
      refine EL.keep [0, 5, 15, 16, 17, 18, 19, 21, 23, 25, 91, 92, 93, 116] [(0, sv A15 C16 l14), (5, ig a23), (15, sv a2 a3 a1), (16, sv a7 a8 a5), (17, ia (IntKind.i64.wrap (Int.tmod a21 8))), (18, ia (IntKind.i64.wrap (Int.tmod a22 8))), (19, ia (IntKind.i64.wrap (Int.tmod a23 6))), (21, sv b5 b6 (a0.getD a6.toNat [])), (23, ia b7), (25, ia b8), (91, sv (some ⟨b0, 0, none⟩) 3 a0), (92, ia (a0.length : Int)), (93, ia a6), (116, .bool (!(decide (e8 = f7))))] (by kernel_rfl) ?_
      refine EL.as' [(0, sv A15 C16 l14), (5, ig a23), (15, sv a2 a3 a1), (16, sv a7 a8 a5), (17, ia (IntKind.i64.wrap (Int.tmod a21 8))), (18, ia (IntKind.i64.wrap (Int.tmod a22 8))), (19, ia (IntKind.i64.wrap (Int.tmod a23 6))), (21, sv b5 b6 (a0.getD a6.toNat [])), (23, ia b7), (25, ia b8), (91, sv (some ⟨b0, 0, none⟩) 3 a0), (92, ia (a0.length : Int)), (93, ia a6), (116, .bool (false))] (by simp only [sv, dec_t m1, Bool.not_true, Bool.not_false]) ?_
      refine EL.quick 5 [0, 5, 15, 16, 17, 18, 19, 21, 91, 92, 93, 117, 118, 119, 121] [(0, sv A15 C16 l14), (5, ig a23), (15, sv a2 a3 a1), (16, sv a7 a8 a5), (17, ia (IntKind.i64.wrap (Int.tmod a21 8))), (18, ia (IntKind.i64.wrap (Int.tmod a22 8))), (19, ia (IntKind.i64.wrap (Int.tmod a23 6))), (21, sv b5 b6 (a0.getD a6.toNat [])), (91, sv (some ⟨b0, 0, none⟩) 3 a0), (92, ia (a0.length : Int)), (93, ia a6), (117, ia b7), (118, ia b8), (119, .bool (!(decide (b7 = b8)))), (121, .bool (!(decide (b7 = b8))))] (by kernel_rfl) ?_
      by_cases m2 : b7 = b8
      ·rw [if_pos m2] at H
       refine EL.keep [0, 5, 15, 16, 17, 18, 19, 21, 91, 92, 93, 117, 118, 119, 121] [(0, sv A15 C16 l14), (5, ig a23), (15, sv a2 a3 a1), (16, sv a7 a8 a5), (17, ia (IntKind.i64.wrap (Int.tmod a21 8))), (18, ia (IntKind.i64.wrap (Int.tmod a22 8))), (19, ia (IntKind.i64.wrap (Int.tmod a23 6))), (21, sv b5 b6 (a0.getD a6.toNat [])), (91, sv (some ⟨b0, 0, none⟩) 3 a0), (92, ia (a0.length : Int)), (93, ia a6), (117, ia b7), (118, ia b8), (119, .bool (!(decide (b7 = b8)))), (121, .bool (!(decide (b7 = b8))))] (by kernel_rfl) ?_
       refine EL.as' [(0, sv A15 C16 l14), (5, ig a23), (15, sv a2 a3 a1), (16, sv a7 a8 a5), (17, ia (IntKind.i64.wrap (Int.tmod a21 8))), (18, ia (IntKind.i64.wrap (Int.tmod a22 8))), (19, ia (IntKind.i64.wrap (Int.tmod a23 6))), (21, sv b5 b6 (a0.getD a6.toNat [])), (91, sv (some ⟨b0, 0, none⟩) 3 a0), (92, ia (a0.length : Int)), (93, ia a6), (117, ia b7), (118, ia b8), (119, .bool (false)), (121, .bool (false))] (by simp only [sv, dec_t m2, Bool.not_true, Bool.not_false]) ?_
       refine EL.quick 1 [0, 5, 15, 16, 17, 18, 19, 21, 91, 92, 93, 117, 118, 119, 121, 122] [(0, sv A15 C16 l14), (5, ig a23), (15, sv a2 a3 a1), (16, sv a7 a8 a5), (17, ia (IntKind.i64.wrap (Int.tmod a21 8))), (18, ia (IntKind.i64.wrap (Int.tmod a22 8))), (19, ia (IntKind.i64.wrap (Int.tmod a23 6))), (21, sv b5 b6 (a0.getD a6.toNat [])), (91, sv (some ⟨b0, 0, none⟩) 3 a0), (92, ia (a0.length : Int)), (93, ia a6), (117, ia b7), (118, ia b8), (119, .bool (false)), (121, .bool (false)), (122, sv b5 b6 (a0.getD a6.toNat []))] (by kernel_rfl) ?_
       have hS : St B _ (Ass.own 29 (Kd.slice kS32) (some ⟨b0, 0, none⟩) 3 a0 :: Ass.own 32 kS32 (some ⟨e7, 0, none⟩) 1 c4 :: Ass.own 32 kS32 (some ⟨d6, 0, none⟩) 1 c1 :: Ass.own 29 (Kd.slice kS32) a2 a3 a1 :: os) (Ro.sl kS32 b5 b6 (a0.getD a6.toNat []) :: Ro.sl kS32 d0 d1 c8 :: Ro.sl kS32 c5 c6 c2 :: Ro.sl kS32 a7 a8 a5 :: Ro.sl kS51 A18 C19 l17 :: Ro.sl (Kd.int .u8) A25 C26 l24 :: Ro.sl (Kd.slice kS32) A15 C16 l14 :: rs) := hS.re [] [] rfl (sub_cons 0 rfl (sub_tail (sub_self)))
       obtain ⟨f8, p2, H⟩ := b1_out H
       have hq := verify_Depths.calls p2 hS
       refine EL.of (EO.callD 19 [sv b5 b6 (a0.getD a6.toNat [])] _ 123 (by kernel_rfl) (by kernel_rfl) (by kernel_rfl) hq ?_)
       rintro v w ⟨g9, i0, rfl, hS⟩
       refine EL.quick 1 [0, 5, 15, 16, 17, 18, 19, 91, 92, 93, 117, 118, 119, 121, 122, 123, 124] [(0, sv A15 C16 l14), (5, ig a23), (15, sv a2 a3 a1), (16, sv a7 a8 a5), (17, ia (IntKind.i64.wrap (Int.tmod a21 8))), (18, ia (IntKind.i64.wrap (Int.tmod a22 8))), (19, ia (IntKind.i64.wrap (Int.tmod a23 6))), (91, sv (some ⟨b0, 0, none⟩) 3 a0), (92, ia (a0.length : Int)), (93, ia a6), (117, ia b7), (118, ia b8), (119, .bool (false)), (121, .bool (false)), (122, sv b5 b6 (a0.getD a6.toNat [])), (123, sv g9 i0 f8), (124, sv b5 b6 (a0.getD a6.toNat []))] (by kernel_rfl) ?_
       have hS : St B _ (Ass.own 3 (Kd.int .i64) g9 i0 f8 :: Ass.own 29 (Kd.slice kS32) (some ⟨b0, 0, none⟩) 3 a0 :: Ass.own 32 kS32 (some ⟨e7, 0, none⟩) 1 c4 :: Ass.own 32 kS32 (some ⟨d6, 0, none⟩) 1 c1 :: Ass.own 29 (Kd.slice kS32) a2 a3 a1 :: os) (Ro.sl kS32 b5 b6 (a0.getD a6.toNat []) :: Ro.sl kS32 d0 d1 c8 :: Ro.sl kS32 c5 c6 c2 :: Ro.sl kS32 a7 a8 a5 :: Ro.sl kS51 A18 C19 l17 :: Ro.sl (Kd.int .u8) A25 C26 l24 :: Ro.sl (Kd.slice kS32) A15 C16 l14 :: rs) := hS.re [] [] rfl (sub_cons 0 rfl (sub_tail (sub_self)))
       obtain ⟨i7, p3, H⟩ := b1_out H
       have hq := confidantref5_Depths.calls p3 hS
       refine EL.of (EO.callD 20 [sv b5 b6 (a0.getD a6.toNat [])] _ 125 (by kernel_rfl) (by kernel_rfl) (by kernel_rfl) hq ?_)
       rintro v w ⟨m5, m6, rfl, hS⟩
       have hS := St.fr hS 1 rfl
       have hS := St.fr hS 0 rfl
       have hS : St B _ (Ass.own 29 (Kd.slice kS32) (some ⟨b0, 0, none⟩) 3 a0 :: Ass.own 32 kS32 (some ⟨e7, 0, none⟩) 1 c4 :: Ass.own 32 kS32 (some ⟨d6, 0, none⟩) 1 c1 :: Ass.own 29 (Kd.slice kS32) a2 a3 a1 :: os) (Ro.sl (Kd.int .i64) g9 i0 f8 :: Ro.sl (Kd.int .i64) m5 m6 i7 :: Ro.sl kS32 b5 b6 (a0.getD a6.toNat []) :: Ro.sl kS32 d0 d1 c8 :: Ro.sl kS32 c5 c6 c2 :: Ro.sl kS32 a7 a8 a5 :: Ro.sl kS51 A18 C19 l17 :: Ro.sl (Kd.int .u8) A25 C26 l24 :: Ro.sl (Kd.slice kS32) A15 C16 l14 :: rs) := hS.re [] [] rfl (sub_cons 1 rfl (sub_cons 0 rfl (sub_tail (sub_tail (sub_self)))))
       obtain ⟨f9, p4, H⟩ := b1_out H
       have hq := confidanthelp_Ints.calls p4 hS
       refine EL.of (EO.callD 18 [sv g9 i0 f8, sv m5 m6 i7] _ 126 (by kernel_rfl) (by kernel_rfl) (by kernel_rfl) hq ?_)
       rintro v w ⟨rfl, hS⟩
       refine EL.quick 2 [0, 5, 15, 16, 17, 18, 19, 91, 92, 93, 117, 118, 119, 122, 123, 124, 125, 126, 127, 128] [(0, sv A15 C16 l14), (5, ig a23), (15, sv a2 a3 a1), (16, sv a7 a8 a5), (17, ia (IntKind.i64.wrap (Int.tmod a21 8))), (18, ia (IntKind.i64.wrap (Int.tmod a22 8))), (19, ia (IntKind.i64.wrap (Int.tmod a23 6))), (91, sv (some ⟨b0, 0, none⟩) 3 a0), (92, ia (a0.length : Int)), (93, ia a6), (117, ia b7), (118, ia b8), (119, .bool (false)), (122, sv b5 b6 (a0.getD a6.toNat [])), (123, sv g9 i0 f8), (124, sv b5 b6 (a0.getD a6.toNat [])), (125, sv m5 m6 i7), (126, .bool (f9)), (127, .bool (!(f9))), (128, .bool (!(f9)))] (by kernel_rfl) ?_
       refine EL.done (by kernel_rfl) ?_
       refine EQ.to ?_
       refine EQ.keep [0, 5, 15, 16, 17, 18, 19, 91, 92, 93, 128] [(0, sv A15 C16 l14), (5, ig a23), (15, sv a2 a3 a1), (16, sv a7 a8 a5), (17, ia (IntKind.i64.wrap (Int.tmod a21 8))), (18, ia (IntKind.i64.wrap (Int.tmod a22 8))), (19, ia (IntKind.i64.wrap (Int.tmod a23 6))), (91, sv (some ⟨b0, 0, none⟩) 3 a0), (92, ia (a0.length : Int)), (93, ia a6), (128, .bool (!(f9)))] (by kernel_rfl) ?_
       exact fun a ha => ⟨!(f9), ha, (hS.re [3, 3, 3, 3] [] rfl (sub_cons 2 rfl (sub_cons 3 rfl (sub_cons 4 rfl (sub_cons 5 rfl (sub_cons 6 rfl (sub_cons 7 rfl (sub_cons 8 rfl (sub_tail (sub_tail (sub_tail (sub_tail (sub_tail (sub_tail (sub_tail (sub_tail (sub_tail (sub_self)))))))))))))))))), H⟩
      rw [if_neg m2] at H
      refine EL.keep [0, 5, 15, 16, 17, 18, 19, 21, 91, 92, 93, 117, 118, 119, 121] [(0, sv A15 C16 l14), (5, ig a23), (15, sv a2 a3 a1), (16, sv a7 a8 a5), (17, ia (IntKind.i64.wrap (Int.tmod a21 8))), (18, ia (IntKind.i64.wrap (Int.tmod a22 8))), (19, ia (IntKind.i64.wrap (Int.tmod a23 6))), (21, sv b5 b6 (a0.getD a6.toNat [])), (91, sv (some ⟨b0, 0, none⟩) 3 a0), (92, ia (a0.length : Int)), (93, ia a6), (117, ia b7), (118, ia b8), (119, .bool (!(decide (b7 = b8)))), (121, .bool (!(decide (b7 = b8))))] (by kernel_rfl) ?_
      refine EL.as' [(0, sv A15 C16 l14), (5, ig a23), (15, sv a2 a3 a1), (16, sv a7 a8 a5), (17, ia (IntKind.i64.wrap (Int.tmod a21 8))), (18, ia (IntKind.i64.wrap (Int.tmod a22 8))), (19, ia (IntKind.i64.wrap (Int.tmod a23 6))), (21, sv b5 b6 (a0.getD a6.toNat [])), (91, sv (some ⟨b0, 0, none⟩) 3 a0), (92, ia (a0.length : Int)), (93, ia a6), (117, ia b7), (118, ia b8), (119, .bool (true)), (121, .bool (true))] (by simp only [sv, dec_f m2, Bool.not_true, Bool.not_false]) ?_
      refine EL.quick 7 [0, 5, 15, 16, 17, 18, 19, 91, 92, 93, 117, 118, 119, 128] [(0, sv A15 C16 l14), (5, ig a23), (15, sv a2 a3 a1), (16, sv a7 a8 a5), (17, ia (IntKind.i64.wrap (Int.tmod a21 8))), (18, ia (IntKind.i64.wrap (Int.tmod a22 8))), (19, ia (IntKind.i64.wrap (Int.tmod a23 6))), (91, sv (some ⟨b0, 0, none⟩) 3 a0), (92, ia (a0.length : Int)), (93, ia a6), (117, ia b7), (118, ia b8), (119, .bool (true)), (128, .bool (true))] (by kernel_rfl) ?_
      refine EL.done (by kernel_rfl) ?_
      refine EQ.to ?_
      refine EQ.keep [0, 5, 15, 16, 17, 18, 19, 91, 92, 93, 128] [(0, sv A15 C16 l14), (5, ig a23), (15, sv a2 a3 a1), (16, sv a7 a8 a5), (17, ia (IntKind.i64.wrap (Int.tmod a21 8))), (18, ia (IntKind.i64.wrap (Int.tmod a22 8))), (19, ia (IntKind.i64.wrap (Int.tmod a23 6))), (91, sv (some ⟨b0, 0, none⟩) 3 a0), (92, ia (a0.length : Int)), (93, ia a6), (128, .bool (true))] (by kernel_rfl) ?_
      exact fun a ha => ⟨true, ha, (hS.re [3, 3, 3, 3] [] rfl (sub_cons 0 rfl (sub_cons 1 rfl (sub_cons 2 rfl (sub_cons 3 rfl (sub_cons 4 rfl (sub_cons 5 rfl (sub_cons 6 rfl (sub_tail (sub_tail (sub_tail (sub_tail (sub_tail (sub_tail (sub_tail (sub_self)))))))))))))))), H⟩
     rw [if_neg m1] at H
     refine EL.keep [0, 5, 15, 16, 17, 18, 19, 21, 23, 25, 91, 92, 93, 116] [(0, sv A15 C16 l14), (5, ig a23), (15, sv a2 a3 a1), (16, sv a7 a8 a5), (17, ia (IntKind.i64.wrap (Int.tmod a21 8))), (18, ia (IntKind.i64.wrap (Int.tmod a22 8))), (19, ia (IntKind.i64.wrap (Int.tmod a23 6))), (21, sv b5 b6 (a0.getD a6.toNat [])), (23, ia b7), (25, ia b8), (91, sv (some ⟨b0, 0, none⟩) 3 a0), (92, ia (a0.length : Int)), (93, ia a6), (116, .bool (!(decide (e8 = f7))))] (by kernel_rfl) ?_
     refine EL.as' [(0, sv A15 C16 l14), (5, ig a23), (15, sv a2 a3 a1), (16, sv a7 a8 a5), (17, ia (IntKind.i64.wrap (Int.tmod a21 8))), (18, ia (IntKind.i64.wrap (Int.tmod a22 8))), (19, ia (IntKind.i64.wrap (Int.tmod a23 6))), (21, sv b5 b6 (a0.getD a6.toNat [])), (23, ia b7), (25, ia b8), (91, sv (some ⟨b0, 0, none⟩) 3 a0), (92, ia (a0.length : Int)), (93, ia a6), (116, .bool (true))] (by simp only [sv, dec_f m1, Bool.not_true, Bool.not_false]) ?_
     refine EL.quick 12 [0, 5, 15, 16, 17, 18, 19, 91, 92, 93, 128] [(0, sv A15 C16 l14), (5, ig a23), (15, sv a2 a3 a1), (16, sv a7 a8 a5), (17, ia (IntKind.i64.wrap (Int.tmod a21 8))), (18, ia (IntKind.i64.wrap (Int.tmod a22 8))), (19, ia (IntKind.i64.wrap (Int.tmod a23 6))), (91, sv (some ⟨b0, 0, none⟩) 3 a0), (92, ia (a0.length : Int)), (93, ia a6), (128, .bool (true))] (by kernel_rfl) ?_
     refine EL.done (by kernel_rfl) ?_
     refine EQ.to ?_
     refine EQ.keep [0, 5, 15, 16, 17, 18, 19, 91, 92, 93, 128] [(0, sv A15 C16 l14), (5, ig a23), (15, sv a2 a3 a1), (16, sv a7 a8 a5), (17, ia (IntKind.i64.wrap (Int.tmod a21 8))), (18, ia (IntKind.i64.wrap (Int.tmod a22 8))), (19, ia (IntKind.i64.wrap (Int.tmod a23 6))), (91, sv (some ⟨b0, 0, none⟩) 3 a0), (92, ia (a0.length : Int)), (93, ia a6), (128, .bool (true))] (by kernel_rfl) ?_
     exact fun a ha => ⟨true, ha, (hS.re [3, 3, 3, 3] [] rfl (sub_cons 0 rfl (sub_cons 1 rfl (sub_cons 2 rfl (sub_cons 3 rfl (sub_cons 4 rfl (sub_cons 5 rfl (sub_cons 6 rfl (sub_tail (sub_tail (sub_tail (sub_tail (sub_tail (sub_tail (sub_tail (sub_self)))))))))))))))), H⟩
    obtain ⟨g5, ha, hS, H⟩ := hI
    rw [q1] at H
    (try dsimp only at H)
    refine EW.at ?_ a ha
    clear ha a
    refine EW.cdP' (g5) (by kernel_rfl) (by kernel_rfl) (fun m9 => ?_) (fun m9 => ?_)
    ·rw [if_pos m9] at H
     refine EW.sq (by kernel_rfl) ?_
     refine EW.rg (by kernel_rfl) ?_
     refine EL.quick 1 [14] [(14, .bool (false))] (by kernel_rfl) ?_
     refine EL.done (by kernel_rfl) ?_
     refine EQ.code ?_
     refine EW.ret (by kernel_rfl) ?_
     refine EQ.ret ?_
     refine EQ.ret ?_
     refine EQ.ret ?_
     refine EQ.ret ?_
     refine EQ.ret ?_
     obtain rfl := Option.some.inj H
     exact EQ.leave (.bool (false)) (by kernel_rfl) ⟨_, rfl, rfl, (hS.re [] [0, 0, 0, 0] rfl (sub_cons 6 rfl (sub_cons 4 rfl (sub_cons 5 rfl (sub_tail (sub_tail (sub_tail (sub_tail (sub_tail (sub_tail (sub_tail (sub_self))))))))))))⟩
    rw [if_neg m9] at H
    refine EW.skip (by kernel_rfl) ?_
    refine EQ.pop ?_
    refine EQ.code ?_
    refine EW.rg (by kernel_rfl) ?_
    refine EL.quick 2 [0, 5, 15, 16, 17, 18, 19, 91, 92, 93] [(0, sv A15 C16 l14), (5, ig a23), (15, sv a2 a3 a1), (16, sv a7 a8 a5), (17, ia (IntKind.i64.wrap (Int.tmod a21 8))), (18, ia (IntKind.i64.wrap (Int.tmod a22 8))), (19, ia (IntKind.i64.wrap (Int.tmod a23 6))), (91, sv (some ⟨b0, 0, none⟩) 3 a0), (92, ia (a0.length : Int)), (93, ia (IntKind.i64.wrap (a6 + 1)))] (by kernel_rfl) ?_
    refine EL.done (by kernel_rfl) ?_
    refine EQ.to ?_
    refine EQ.keep [0, 5, 15, 16, 17, 18, 19, 91, 92, 93] [(0, sv A15 C16 l14), (5, ig a23), (15, sv a2 a3 a1), (16, sv a7 a8 a5), (17, ia (IntKind.i64.wrap (Int.tmod a21 8))), (18, ia (IntKind.i64.wrap (Int.tmod a22 8))), (19, ia (IntKind.i64.wrap (Int.tmod a23 6))), (91, sv (some ⟨b0, 0, none⟩) 3 a0), (92, ia (a0.length : Int)), (93, ia (IntKind.i64.wrap (a6 + 1)))] (by kernel_rfl) ?_
    exact fun a ha => ⟨n, Nat.lt_succ_self n, IntKind.i64.wrap (a6 + 1), ha, (hS.re [3, 3, 3, 3] [] rfl (sub_cons 1 rfl (sub_cons 2 rfl (sub_cons 3 rfl (sub_cons 4 rfl (sub_cons 5 rfl (sub_cons 6 rfl (sub_tail (sub_tail (sub_tail (sub_tail (sub_tail (sub_tail (sub_tail (sub_self))))))))))))))), H⟩
   rw [if_neg i1] at H
   refine EW.exit (id := 0) (by kernel_rfl) ?_
   refine EQ.exitCode ?_
   refine EQ.exitTo ?_
   refine EQ.exitHere ?_
   refine EQ.to ?_
   refine EQ.keep [0, 5, 15, 16, 18, 19] [(0, sv A15 C16 l14), (5, ig a23), (15, sv a2 a3 a1), (16, sv a7 a8 a5), (18, ia (IntKind.i64.wrap (Int.tmod a22 8))), (19, ia (IntKind.i64.wrap (Int.tmod a23 6)))] (by kernel_rfl) ?_
   exact fun a ha => ⟨a0, c4, c1, (some ⟨b0, 0, none⟩), 3, (some ⟨e7, 0, none⟩), 1, (some ⟨d6, 0, none⟩), 1, ha, (hS.re [3, 3, 3, 3] [] rfl (sub_cons 2 rfl (sub_cons 3 rfl (sub_cons 4 rfl (sub_cons 5 rfl (sub_tail (sub_tail (sub_tail (sub_tail (sub_tail (sub_tail (sub_self)))))))))))), H⟩
  obtain ⟨d3, d4, d5, d7, e1, d8, e2, d9, e3, ha, hS, H⟩ := hI
  rw [q0] at H
  (try dsimp only at H)
  refine EW.at ?_ a ha
  clear ha a
  obtain ⟨f3, q2, H⟩ := lt_out H
  refine EW.ct (fun a w => ∃ g6 : List (List (List S32)), ∃ g7 : List (List S32), ∃ j1 : Option Addr, ∃ j6 : Nat, ∃ j2 : Option Addr, ∃ j7 : Nat, Sat 194 [(5, ig a23), (15, sv a2 a3 a1)] a ∧ St B w (Ass.own 23 (Kd.slice (Kd.slice kS32)) j1 j6 g6 :: Ass.own 29 (Kd.slice kS32) j2 j7 g7 :: Ass.own 29 (Kd.slice kS32) d7 e1 d3 :: Ass.own 32 kS32 d8 e2 d4 :: Ass.own 32 kS32 d9 e3 d5 :: os) (Ro.sl (Kd.slice kS32) a2 a3 a1 :: Ro.sl kS32 a7 a8 a5 :: Ro.sl kS51 A18 C19 l17 :: Ro.sl (Kd.int .u8) A25 C26 l24 :: Ro.sl (Kd.slice kS32) A15 C16 l14 :: rs) ∧ f3 g6 g7 = some f0) (by kernel_rfl) ?_ (fun a w hI => ?_)
  ·refine EW.sq (by kernel_rfl) ?_
   refine EW.rg (by kernel_rfl) ?_
   refine EL.quick 3 [5, 15, 16, 18, 19, 130, 131, 132] [(5, ig a23), (15, sv a2 a3 a1), (16, sv a7 a8 a5), (18, ia (IntKind.i64.wrap (Int.tmod a22 8))), (19, ia (IntKind.i64.wrap (Int.tmod a23 6))), (130, sv A15 C16 l14), (131, sv a2 a3 a1), (132, sv a2 a3 a1)] (by kernel_rfl) ?_
   have hS := St.nilO hS 29 (Kd.slice kS32)
   obtain ⟨o4, H⟩ := ite_in H
   obtain ⟨f6, q8, H⟩ := lt_out H
   refine EL.of (EO.append hS 23 23 29 24 0 (Kd.slice kS32) none 0 ([] : List (List S32)) rfl a2 a3 a1 (Rd.own 4 29 rfl) f6 q8 (fun j3 j8 => Ass.own 29 (Kd.slice kS32) j3 j8 f6 :: Ass.own 29 (Kd.slice kS32) d7 e1 d3 :: Ass.own 32 kS32 d8 e2 d4 :: Ass.own 32 kS32 d9 e3 d5 :: Ass.own 29 (Kd.slice kS32) a2 a3 a1 :: os) 133 (by kernel_rfl) (by kernel_rfl) (by kernel_rfl) (by kernel_rfl) o4 (fun _ _ => rfl) ?_)
   intro j3 j8 w hS
   refine EL.quick 1 [5, 15, 18, 19, 130, 131, 133, 134] [(5, ig a23), (15, sv a2 a3 a1), (18, ia (IntKind.i64.wrap (Int.tmod a22 8))), (19, ia (IntKind.i64.wrap (Int.tmod a23 6))), (130, sv A15 C16 l14), (131, sv a2 a3 a1), (133, sv j3 j8 f6), (134, sv a7 a8 a5)] (by kernel_rfl) ?_
   obtain ⟨c9, n8, H⟩ := lt_out H
   refine EL.of (EO.lit hS (Kd.slice kS32) 29 23 1 #[(0, sv a7 a8 a5)] [sv a7 a8 a5] c9 135 (by kernel_rfl) (by kernel_rfl) (by kernel_rfl) (fun _ => (by kernel_rfl)) (by rw [n8]; rfl) (by kernel_rfl) (fun w G hr => (by rw [n8]; exact ⟨[sv a7 a8 a5], [], rfl, (hr _ (List.mem_of_getElem? (i := 0) rfl)), rfl⟩)) ?_)
   intro f1 w hS
   obtain ⟨o5, H⟩ := ite_in H
   obtain ⟨d2, q9, H⟩ := lt_out H
   refine EL.of (EO.append hS 23 23 29 24 1 (Kd.slice kS32) j3 j8 f6 rfl (some ⟨f1, 0, none⟩) 1 c9 (Rd.own 0 29 rfl) d2 q9 (fun e0 e4 => Ass.own 29 (Kd.slice kS32) (some ⟨f1, 0, none⟩) 1 c9 :: Ass.own 29 (Kd.slice kS32) e0 e4 d2 :: Ass.own 29 (Kd.slice kS32) d7 e1 d3 :: Ass.own 32 kS32 d8 e2 d4 :: Ass.own 32 kS32 d9 e3 d5 :: Ass.own 29 (Kd.slice kS32) a2 a3 a1 :: os) 136 (by kernel_rfl) (by kernel_rfl) (by kernel_rfl) (by kernel_rfl) o5 (fun _ _ => rfl) ?_)
   intro e0 e4 w hS
   have hS := St.fr hS 5 rfl
   have hS := St.fr hS 1 rfl
   obtain ⟨a4, n9, H⟩ := lt_out H
   refine EL.of (EO.lit hS (Kd.slice (Kd.slice kS32)) 23 41 3 #[(0, sv A15 C16 l14), (1, sv a2 a3 a1), (2, sv e0 e4 d2)] [sv A15 C16 l14, sv a2 a3 a1, sv e0 e4 d2] a4 137 (by kernel_rfl) (by kernel_rfl) (by kernel_rfl) (fun _ => (by kernel_rfl)) (by rw [n9]; rfl) (by kernel_rfl) (fun w G hr => (by rw [n9]; exact ⟨[sv A15 C16 l14], [sv a2 a3 a1, sv e0 e4 d2], rfl, (hr _ (List.mem_of_getElem? (i := 5) rfl)), ⟨[sv a2 a3 a1], [sv e0 e4 d2], rfl, (hr _ (List.mem_of_getElem? (i := 1) rfl)), ⟨[sv e0 e4 d2], [], rfl, (hr _ (List.mem_of_getElem? (i := 0) rfl)), rfl⟩⟩⟩)) ?_)
   intro b4 w hS
   refine EL.quick 2 [5, 15, 18, 19, 137, 138, 139] [(5, ig a23), (15, sv a2 a3 a1), (18, ia (IntKind.i64.wrap (Int.tmod a22 8))), (19, ia (IntKind.i64.wrap (Int.tmod a23 6))), (137, sv (some ⟨b4, 0, none⟩) 3 a4), (138, ia (a4.length : Int)), (139, ia 0)] (by kernel_rfl) ?_
   refine EL.done (by kernel_rfl) ?_
   refine EQ.code ?_
   refine EW.bl 2 (by kernel_rfl) ?_
   refine EW.lp (fun n a w => ∃ a9 : Int, Sat 194 [(5, ig a23), (15, sv a2 a3 a1), (18, ia (IntKind.i64.wrap (Int.tmod a22 8))), (19, ia (IntKind.i64.wrap (Int.tmod a23 6))), (137, sv (some ⟨b4, 0, none⟩) 3 a4), (138, ia (a4.length : Int)), (139, ia a9)] a ∧ St B w (Ass.own 23 (Kd.slice (Kd.slice kS32)) (some ⟨b4, 0, none⟩) 3 a4 :: Ass.own 29 (Kd.slice kS32) (some ⟨f1, 0, none⟩) 1 c9 :: Ass.own 29 (Kd.slice kS32) d7 e1 d3 :: Ass.own 32 kS32 d8 e2 d4 :: Ass.own 32 kS32 d9 e3 d5 :: os) (Ro.sl (Kd.slice kS32) e0 e4 d2 :: Ro.sl (Kd.slice kS32) a2 a3 a1 :: Ro.sl kS32 a7 a8 a5 :: Ro.sl kS51 A18 C19 l17 :: Ro.sl (Kd.int .u8) A25 C26 l24 :: Ro.sl (Kd.slice kS32) A15 C16 l14 :: rs) ∧ confidantlaw8_VerifyTells.l1 K a4 a22 a23 f3 c9 n a9 = some f0) K (by kernel_rfl) ?_ (fun n a w hI => ?_)
   ·refine EQ.keep [5, 15, 18, 19, 137, 138, 139] [(5, ig a23), (15, sv a2 a3 a1), (18, ia (IntKind.i64.wrap (Int.tmod a22 8))), (19, ia (IntKind.i64.wrap (Int.tmod a23 6))), (137, sv (some ⟨b4, 0, none⟩) 3 a4), (138, ia (a4.length : Int)), (139, ia 0)] (by kernel_rfl) ?_
    exact fun a ha => ⟨0, ha, (hS.re [4, 4, 4, 4, 4] [] rfl (sub_cons 0 rfl (sub_cons 1 rfl (sub_cons 2 rfl (sub_cons 3 rfl (sub_cons 4 rfl (sub_cons 5 rfl (sub_tail (sub_tail (sub_tail (sub_tail (sub_tail (sub_tail (sub_self)))))))))))))), H⟩
   obtain ⟨a9, ha, hS, H⟩ := hI
   obtain _ | n := n
   ·simp [confidantlaw8_VerifyTells.l1] at H
   rw [confidantlaw8_VerifyTells.l1.eq_2] at H
   refine EW.at ?_ a ha
   clear ha a
   refine EW.sq (by kernel_rfl) ?_
   refine EW.rg (by kernel_rfl) ?_
   refine EL.quick 1 [5, 15, 18, 19, 137, 138, 139, 140] [(5, ig a23), (15, sv a2 a3 a1), (18, ia (IntKind.i64.wrap (Int.tmod a22 8))), (19, ia (IntKind.i64.wrap (Int.tmod a23 6))), (137, sv (some ⟨b4, 0, none⟩) 3 a4), (138, ia (a4.length : Int)), (139, ia a9), (140, .bool (decide (a9 < (a4.length : Int))))] (by kernel_rfl) ?_
   refine EL.done (by kernel_rfl) ?_
   refine EQ.code ?_
   refine EW.sq (by kernel_rfl) ?_
   refine EW.cdP (a9 < (a4.length : Int)) (by kernel_rfl) (by kernel_rfl) (fun i2 => ?_) (fun i2 => ?_)
   ·rw [if_pos i2] at H
    refine EW.skip (by kernel_rfl) ?_
    refine EQ.code ?_
    refine EW.sq (by kernel_rfl) ?_
    refine EW.bl 3 (by kernel_rfl) ?_
    refine EW.sq (by kernel_rfl) ?_
    refine EW.rg (by kernel_rfl) ?_
    obtain ⟨n3, H⟩ := ite_in H
    refine EL.of (EO.Y (YO.idx 41 1 ⟨b4, 0, none⟩ a4.length 3 .i64 a9 141 (by kernel_rfl) (by kernel_rfl) (by kernel_rfl) (by kernel_rfl) n3 i2) ?_)
    refine EL.of (EO.loadSl hS (Kd.slice kS32) ⟨b4, 0, none⟩ 3 a4 (Rd.own 0 23 rfl) a9 n3 i2 23 142 (by kernel_rfl) (by kernel_rfl) (by kernel_rfl) (by kernel_rfl) ?_)
    intro e5 e6 hS
    refine EL.quick 1 [5, 15, 18, 19, 27, 137, 138, 139] [(5, ig a23), (15, sv a2 a3 a1), (18, ia (IntKind.i64.wrap (Int.tmod a22 8))), (19, ia (IntKind.i64.wrap (Int.tmod a23 6))), (27, sv e5 e6 (a4.getD a9.toNat [])), (137, sv (some ⟨b4, 0, none⟩) 3 a4), (138, ia (a4.length : Int)), (139, ia a9)] (by kernel_rfl) ?_
    refine EL.done (by kernel_rfl) ?_
    refine EQ.code ?_
    refine EW.sq (by kernel_rfl) ?_
    refine EW.rg (by kernel_rfl) ?_
    refine EL.quick 3 [5, 15, 18, 19, 27, 137, 138, 139, 144, 145, 146] [(5, ig a23), (15, sv a2 a3 a1), (18, ia (IntKind.i64.wrap (Int.tmod a22 8))), (19, ia (IntKind.i64.wrap (Int.tmod a23 6))), (27, sv e5 e6 (a4.getD a9.toNat [])), (137, sv (some ⟨b4, 0, none⟩) 3 a4), (138, ia (a4.length : Int)), (139, ia a9), (144, sv e5 e6 (a4.getD a9.toNat [])), (145, ia (IntKind.i64.wrap (Int.tmod a22 8))), (146, ia (IntKind.i64.wrap (Int.tmod a23 6)))] (by kernel_rfl) ?_
    have hS : St B _ (Ass.own 23 (Kd.slice (Kd.slice kS32)) (some ⟨b4, 0, none⟩) 3 a4 :: Ass.own 29 (Kd.slice kS32) (some ⟨f1, 0, none⟩) 1 c9 :: Ass.own 29 (Kd.slice kS32) d7 e1 d3 :: Ass.own 32 kS32 d8 e2 d4 :: Ass.own 32 kS32 d9 e3 d5 :: os) (Ro.sl (Kd.slice kS32) e5 e6 (a4.getD a9.toNat []) :: Ro.sl (Kd.slice kS32) e0 e4 d2 :: Ro.sl (Kd.slice kS32) a2 a3 a1 :: Ro.sl kS32 a7 a8 a5 :: Ro.sl kS51 A18 C19 l17 :: Ro.sl (Kd.int .u8) A25 C26 l24 :: Ro.sl (Kd.slice kS32) A15 C16 l14 :: rs) := hS.re [] [] rfl (sub_cons 0 rfl (sub_tail (sub_self)))
    obtain ⟨e9, b9, c3, p5, H⟩ := b3_out H
    have hq := verify_Image.calls p5 hS
    refine EL.of (EO.callD 21 [sv e5 e6 (a4.getD a9.toNat []), ia (IntKind.i64.wrap (Int.tmod a22 8)), ia (IntKind.i64.wrap (Int.tmod a23 6))] _ 147 (by kernel_rfl) (by kernel_rfl) (by kernel_rfl) hq ?_)
    rintro v w ⟨rfl, hS⟩
    refine EL.quick 7 [5, 15, 18, 19, 27, 28, 29, 30, 137, 138, 139] [(5, ig a23), (15, sv a2 a3 a1), (18, ia (IntKind.i64.wrap (Int.tmod a22 8))), (19, ia (IntKind.i64.wrap (Int.tmod a23 6))), (27, sv e5 e6 (a4.getD a9.toNat [])), (28, ia e9), (29, ia b9), (30, ia c3), (137, sv (some ⟨b4, 0, none⟩) 3 a4), (138, ia (a4.length : Int)), (139, ia a9)] (by kernel_rfl) ?_
    refine EL.done (by kernel_rfl) ?_
    refine EQ.code ?_
    refine EW.sq (by kernel_rfl) ?_
    refine EW.rg (by kernel_rfl) ?_
    refine EL.quick 3 [5, 15, 18, 19, 28, 29, 30, 137, 138, 139, 152, 153, 154] [(5, ig a23), (15, sv a2 a3 a1), (18, ia (IntKind.i64.wrap (Int.tmod a22 8))), (19, ia (IntKind.i64.wrap (Int.tmod a23 6))), (28, ia e9), (29, ia b9), (30, ia c3), (137, sv (some ⟨b4, 0, none⟩) 3 a4), (138, ia (a4.length : Int)), (139, ia a9), (152, sv e5 e6 (a4.getD a9.toNat [])), (153, ia (IntKind.i64.wrap (Int.tmod a22 8))), (154, ia (IntKind.i64.wrap (Int.tmod a23 6)))] (by kernel_rfl) ?_
    have hS : St B _ (Ass.own 23 (Kd.slice (Kd.slice kS32)) (some ⟨b4, 0, none⟩) 3 a4 :: Ass.own 29 (Kd.slice kS32) (some ⟨f1, 0, none⟩) 1 c9 :: Ass.own 29 (Kd.slice kS32) d7 e1 d3 :: Ass.own 32 kS32 d8 e2 d4 :: Ass.own 32 kS32 d9 e3 d5 :: os) (Ro.sl (Kd.slice kS32) e5 e6 (a4.getD a9.toNat []) :: Ro.sl (Kd.slice kS32) e0 e4 d2 :: Ro.sl (Kd.slice kS32) a2 a3 a1 :: Ro.sl kS32 a7 a8 a5 :: Ro.sl kS51 A18 C19 l17 :: Ro.sl (Kd.int .u8) A25 C26 l24 :: Ro.sl (Kd.slice kS32) A15 C16 l14 :: rs) := hS.re [] [] rfl (sub_cons 0 rfl (sub_tail (sub_self)))
    obtain ⟨g0, c0, c7, p6, H⟩ := b3_out H
    have hq := confidantref5_Image.calls p6 hS
    refine EL.of (EO.callD 22 [sv e5 e6 (a4.getD a9.toNat []), ia (IntKind.i64.wrap (Int.tmod a22 8)), ia (IntKind.i64.wrap (Int.tmod a23 6))] _ 155 (by kernel_rfl) (by kernel_rfl) (by kernel_rfl) hq ?_)
    rintro v w ⟨rfl, hS⟩
    refine EL.quick 7 [5, 15, 18, 19, 28, 29, 30, 31, 32, 33, 137, 138, 139] [(5, ig a23), (15, sv a2 a3 a1), (18, ia (IntKind.i64.wrap (Int.tmod a22 8))), (19, ia (IntKind.i64.wrap (Int.tmod a23 6))), (28, ia e9), (29, ia b9), (30, ia c3), (31, ia g0), (32, ia c0), (33, ia c7), (137, sv (some ⟨b4, 0, none⟩) 3 a4), (138, ia (a4.length : Int)), (139, ia a9)] (by kernel_rfl) ?_
    refine EL.done (by kernel_rfl) ?_
    refine EQ.code ?_
    obtain ⟨i5, q3, H⟩ := lt_out H
    refine EW.ct (fun a w => ∃ g8 : Bool, Sat 194 [(5, ig a23), (15, sv a2 a3 a1), (18, ia (IntKind.i64.wrap (Int.tmod a22 8))), (19, ia (IntKind.i64.wrap (Int.tmod a23 6))), (137, sv (some ⟨b4, 0, none⟩) 3 a4), (138, ia (a4.length : Int)), (139, ia a9), (171, .bool (g8))] a ∧ St B w (Ass.own 23 (Kd.slice (Kd.slice kS32)) (some ⟨b4, 0, none⟩) 3 a4 :: Ass.own 29 (Kd.slice kS32) (some ⟨f1, 0, none⟩) 1 c9 :: Ass.own 29 (Kd.slice kS32) d7 e1 d3 :: Ass.own 32 kS32 d8 e2 d4 :: Ass.own 32 kS32 d9 e3 d5 :: os) (Ro.sl (Kd.slice kS32) e5 e6 (a4.getD a9.toNat []) :: Ro.sl (Kd.slice kS32) e0 e4 d2 :: Ro.sl (Kd.slice kS32) a2 a3 a1 :: Ro.sl kS32 a7 a8 a5 :: Ro.sl kS51 A18 C19 l17 :: Ro.sl (Kd.int .u8) A25 C26 l24 :: Ro.sl (Kd.slice kS32) A15 C16 l14 :: rs) ∧ i5 g8 = some f0) (by kernel_rfl) ?_ (fun a w hI => ?_)
    ·refine EW.rg (by kernel_rfl) ?_
     refine EL.quick 4 [5, 15, 18, 19, 29, 30, 32, 33, 137, 138, 139, 162] [(5, ig a23), (15, sv a2 a3 a1), (18, ia (IntKind.i64.wrap (Int.tmod a22 8))), (19, ia (IntKind.i64.wrap (Int.tmod a23 6))), (29, ia b9), (30, ia c3), (32, ia c0), (33, ia c7), (137, sv (some ⟨b4, 0, none⟩) 3 a4), (138, ia (a4.length : Int)), (139, ia a9), (162, .bool (!(decide (e9 = g0))))] (by kernel_rfl) ?_
     by_cases m3 : e9 = g0
     ·rw [if_pos m3] at H
      refine EL.keep [5, 15, 18, 19, 29, 30, 32, 33, 137, 138, 139, 162] [(5, ig a23), (15, sv a2 a3 a1), (18, ia (IntKind.i64.wrap (Int.tmod a22 8))), (19, ia (IntKind.i64.wrap (Int.tmod a23 6))), (29, ia b9), (30, ia c3), (32, ia c0), (33, ia c7), (137, sv (some ⟨b4, 0, none⟩) 3 a4), (138, ia (a4.length : Int)), (139, ia a9), (162, .bool (!(decide (e9 = g0))))] (by kernel_rfl) ?_
      refine EL.as' [(5, ig a23), (15, sv a2 a3 a1), (18, ia (IntKind.i64.wrap (Int.tmod a22 8))), (19, ia (IntKind.i64.wrap (Int.tmod a23 6))), (29, ia b9), (30, ia c3), (32, ia c0), (33, ia c7), (137, sv (some ⟨b4, 0, none⟩) 3 a4), (138, ia (a4.length : Int)), (139, ia a9), (162, .bool (false))] (by simp only [sv, dec_t m3, Bool.not_true, Bool.not_false]) ?_
      refine EL.quick 5 [5, 15, 18, 19, 30, 33, 137, 138, 139, 163, 164, 165, 167] [(5, ig a23), (15, sv a2 a3 a1), (18, ia (IntKind.i64.wrap (Int.tmod a22 8))), (19, ia (IntKind.i64.wrap (Int.tmod a23 6))), (30, ia c3), (33, ia c7), (137, sv (some ⟨b4, 0, none⟩) 3 a4), (138, ia (a4.length : Int)), (139, ia a9), (163, ia b9), (164, ia c0), (165, .bool (!(decide (b9 = c0)))), (167, .bool (!(decide (b9 = c0))))] (by kernel_rfl) ?_
      by_cases m4 : b9 = c0
      ·rw [if_pos m4] at H
       refine EL.keep [5, 15, 18, 19, 30, 33, 137, 138, 139, 163, 164, 165, 167] [(5, ig a23), (15, sv a2 a3 a1), (18, ia (IntKind.i64.wrap (Int.tmod a22 8))), (19, ia (IntKind.i64.wrap (Int.tmod a23 6))), (30, ia c3), (33, ia c7), (137, sv (some ⟨b4, 0, none⟩) 3 a4), (138, ia (a4.length : Int)), (139, ia a9), (163, ia b9), (164, ia c0), (165, .bool (!(decide (b9 = c0)))), (167, .bool (!(decide (b9 = c0))))] (by kernel_rfl) ?_
       refine EL.as' [(5, ig a23), (15, sv a2 a3 a1), (18, ia (IntKind.i64.wrap (Int.tmod a22 8))), (19, ia (IntKind.i64.wrap (Int.tmod a23 6))), (30, ia c3), (33, ia c7), (137, sv (some ⟨b4, 0, none⟩) 3 a4), (138, ia (a4.length : Int)), (139, ia a9), (163, ia b9), (164, ia c0), (165, .bool (false)), (167, .bool (false))] (by simp only [sv, dec_t m4, Bool.not_true, Bool.not_false]) ?_
       refine EL.quick 4 [5, 15, 18, 19, 137, 138, 139, 163, 164, 165, 168, 169, 170, 171] [(5, ig a23), (15, sv a2 a3 a1), (18, ia (IntKind.i64.wrap (Int.tmod a22 8))), (19, ia (IntKind.i64.wrap (Int.tmod a23 6))), (137, sv (some ⟨b4, 0, none⟩) 3 a4), (138, ia (a4.length : Int)), (139, ia a9), (163, ia b9), (164, ia c0), (165, .bool (false)), (168, ia c3), (169, ia c7), (170, .bool (!(decide (c3 = c7)))), (171, .bool (!(decide (c3 = c7))))] (by kernel_rfl) ?_
       refine EL.done (by kernel_rfl) ?_
       refine EQ.to ?_
       refine EQ.keep [5, 15, 18, 19, 137, 138, 139, 171] [(5, ig a23), (15, sv a2 a3 a1), (18, ia (IntKind.i64.wrap (Int.tmod a22 8))), (19, ia (IntKind.i64.wrap (Int.tmod a23 6))), (137, sv (some ⟨b4, 0, none⟩) 3 a4), (138, ia (a4.length : Int)), (139, ia a9), (171, .bool (!(decide (c3 = c7))))] (by kernel_rfl) ?_
       exact fun a ha => ⟨!(decide (c3 = c7)), ha, (hS.re [4, 4, 4, 4, 4] [] rfl (sub_cons 0 rfl (sub_cons 1 rfl (sub_cons 2 rfl (sub_cons 3 rfl (sub_cons 4 rfl (sub_cons 5 rfl (sub_cons 6 rfl (sub_tail (sub_tail (sub_tail (sub_tail (sub_tail (sub_tail (sub_tail (sub_self)))))))))))))))), H⟩
      rw [if_neg m4] at H
      refine EL.keep [5, 15, 18, 19, 30, 33, 137, 138, 139, 163, 164, 165, 167] [(5, ig a23), (15, sv a2 a3 a1), (18, ia (IntKind.i64.wrap (Int.tmod a22 8))), (19, ia (IntKind.i64.wrap (Int.tmod a23 6))), (30, ia c3), (33, ia c7), (137, sv (some ⟨b4, 0, none⟩) 3 a4), (138, ia (a4.length : Int)), (139, ia a9), (163, ia b9), (164, ia c0), (165, .bool (!(decide (b9 = c0)))), (167, .bool (!(decide (b9 = c0))))] (by kernel_rfl) ?_
      refine EL.as' [(5, ig a23), (15, sv a2 a3 a1), (18, ia (IntKind.i64.wrap (Int.tmod a22 8))), (19, ia (IntKind.i64.wrap (Int.tmod a23 6))), (30, ia c3), (33, ia c7), (137, sv (some ⟨b4, 0, none⟩) 3 a4), (138, ia (a4.length : Int)), (139, ia a9), (163, ia b9), (164, ia c0), (165, .bool (true)), (167, .bool (true))] (by simp only [sv, dec_f m4, Bool.not_true, Bool.not_false]) ?_
      refine EL.quick 4 [5, 15, 18, 19, 137, 138, 139, 163, 164, 165, 171] [(5, ig a23), (15, sv a2 a3 a1), (18, ia (IntKind.i64.wrap (Int.tmod a22 8))), (19, ia (IntKind.i64.wrap (Int.tmod a23 6))), (137, sv (some ⟨b4, 0, none⟩) 3 a4), (138, ia (a4.length : Int)), (139, ia a9), (163, ia b9), (164, ia c0), (165, .bool (true)), (171, .bool (true))] (by kernel_rfl) ?_
      refine EL.done (by kernel_rfl) ?_
      refine EQ.to ?_
      refine EQ.keep [5, 15, 18, 19, 137, 138, 139, 171] [(5, ig a23), (15, sv a2 a3 a1), (18, ia (IntKind.i64.wrap (Int.tmod a22 8))), (19, ia (IntKind.i64.wrap (Int.tmod a23 6))), (137, sv (some ⟨b4, 0, none⟩) 3 a4), (138, ia (a4.length : Int)), (139, ia a9), (171, .bool (true))] (by kernel_rfl) ?_
      exact fun a ha => ⟨true, ha, (hS.re [4, 4, 4, 4, 4] [] rfl (sub_cons 0 rfl (sub_cons 1 rfl (sub_cons 2 rfl (sub_cons 3 rfl (sub_cons 4 rfl (sub_cons 5 rfl (sub_cons 6 rfl (sub_tail (sub_tail (sub_tail (sub_tail (sub_tail (sub_tail (sub_tail (sub_self)))))))))))))))), H⟩
     rw [if_neg m3] at H
     refine EL.keep [5, 15, 18, 19, 29, 30, 32, 33, 137, 138, 139, 162] [(5, ig a23), (15, sv a2 a3 a1), (18, ia (IntKind.i64.wrap (Int.tmod a22 8))), (19, ia (IntKind.i64.wrap (Int.tmod a23 6))), (29, ia b9), (30, ia c3), (32, ia c0), (33, ia c7), (137, sv (some ⟨b4, 0, none⟩) 3 a4), (138, ia (a4.length : Int)), (139, ia a9), (162, .bool (!(decide (e9 = g0))))] (by kernel_rfl) ?_
     refine EL.as' [(5, ig a23), (15, sv a2 a3 a1), (18, ia (IntKind.i64.wrap (Int.tmod a22 8))), (19, ia (IntKind.i64.wrap (Int.tmod a23 6))), (29, ia b9), (30, ia c3), (32, ia c0), (33, ia c7), (137, sv (some ⟨b4, 0, none⟩) 3 a4), (138, ia (a4.length : Int)), (139, ia a9), (162, .bool (true))] (by simp only [sv, dec_f m3, Bool.not_true, Bool.not_false]) ?_
     refine EL.quick 9 [5, 15, 18, 19, 137, 138, 139, 171] [(5, ig a23), (15, sv a2 a3 a1), (18, ia (IntKind.i64.wrap (Int.tmod a22 8))), (19, ia (IntKind.i64.wrap (Int.tmod a23 6))), (137, sv (some ⟨b4, 0, none⟩) 3 a4), (138, ia (a4.length : Int)), (139, ia a9), (171, .bool (true))] (by kernel_rfl) ?_
     refine EL.done (by kernel_rfl) ?_
     refine EQ.to ?_
     refine EQ.keep [5, 15, 18, 19, 137, 138, 139, 171] [(5, ig a23), (15, sv a2 a3 a1), (18, ia (IntKind.i64.wrap (Int.tmod a22 8))), (19, ia (IntKind.i64.wrap (Int.tmod a23 6))), (137, sv (some ⟨b4, 0, none⟩) 3 a4), (138, ia (a4.length : Int)), (139, ia a9), (171, .bool (true))] (by kernel_rfl) ?_
     exact fun a ha => ⟨true, ha, (hS.re [4, 4, 4, 4, 4] [] rfl (sub_cons 0 rfl (sub_cons 1 rfl (sub_cons 2 rfl (sub_cons 3 rfl (sub_cons 4 rfl (sub_cons 5 rfl (sub_cons 6 rfl (sub_tail (sub_tail (sub_tail (sub_tail (sub_tail (sub_tail (sub_tail (sub_self)))))))))))))))), H⟩
    obtain ⟨g8, ha, hS, H⟩ := hI
    rw [q3] at H
    (try dsimp only at H)
    refine EW.at ?_ a ha
    clear ha a
    refine EW.cdP' (g8) (by kernel_rfl) (by kernel_rfl) (fun n0 => ?_) (fun n0 => ?_)
    ·rw [if_pos n0] at H
     refine EW.sq (by kernel_rfl) ?_
     refine EW.rg (by kernel_rfl) ?_
     refine EL.quick 1 [14] [(14, .bool (false))] (by kernel_rfl) ?_
     refine EL.done (by kernel_rfl) ?_
     refine EQ.code ?_
     refine EW.ret (by kernel_rfl) ?_
     refine EQ.ret ?_
     refine EQ.ret ?_
     refine EQ.ret ?_
     refine EQ.ret ?_
     refine EQ.ret ?_
     obtain rfl := Option.some.inj H
     exact EQ.leave (.bool (false)) (by kernel_rfl) ⟨_, rfl, rfl, (hS.re [] [0, 0, 0, 0, 0] rfl (sub_cons 6 rfl (sub_cons 4 rfl (sub_cons 5 rfl (sub_tail (sub_tail (sub_tail (sub_tail (sub_tail (sub_tail (sub_tail (sub_self))))))))))))⟩
    rw [if_neg n0] at H
    refine EW.skip (by kernel_rfl) ?_
    refine EQ.pop ?_
    refine EQ.code ?_
    refine EW.rg (by kernel_rfl) ?_
    refine EL.quick 2 [5, 15, 18, 19, 137, 138, 139] [(5, ig a23), (15, sv a2 a3 a1), (18, ia (IntKind.i64.wrap (Int.tmod a22 8))), (19, ia (IntKind.i64.wrap (Int.tmod a23 6))), (137, sv (some ⟨b4, 0, none⟩) 3 a4), (138, ia (a4.length : Int)), (139, ia (IntKind.i64.wrap (a9 + 1)))] (by kernel_rfl) ?_
    refine EL.done (by kernel_rfl) ?_
    refine EQ.to ?_
    refine EQ.keep [5, 15, 18, 19, 137, 138, 139] [(5, ig a23), (15, sv a2 a3 a1), (18, ia (IntKind.i64.wrap (Int.tmod a22 8))), (19, ia (IntKind.i64.wrap (Int.tmod a23 6))), (137, sv (some ⟨b4, 0, none⟩) 3 a4), (138, ia (a4.length : Int)), (139, ia (IntKind.i64.wrap (a9 + 1)))] (by kernel_rfl) ?_
    exact fun a ha => ⟨n, Nat.lt_succ_self n, IntKind.i64.wrap (a9 + 1), ha, (hS.re [4, 4, 4, 4, 4] [] rfl (sub_cons 1 rfl (sub_cons 2 rfl (sub_cons 3 rfl (sub_cons 4 rfl (sub_cons 5 rfl (sub_cons 6 rfl (sub_tail (sub_tail (sub_tail (sub_tail (sub_tail (sub_tail (sub_tail (sub_self))))))))))))))), H⟩
   rw [if_neg i2] at H
   refine EW.exit (id := 2) (by kernel_rfl) ?_
   refine EQ.exitCode ?_
   refine EQ.exitTo ?_
   refine EQ.exitHere ?_
   refine EQ.to ?_
   refine EQ.keep [5, 15] [(5, ig a23), (15, sv a2 a3 a1)] (by kernel_rfl) ?_
   exact fun a ha => ⟨a4, c9, (some ⟨b4, 0, none⟩), 3, (some ⟨f1, 0, none⟩), 1, ha, (hS.re [4, 4, 4, 4, 4] [] rfl (sub_cons 1 rfl (sub_cons 2 rfl (sub_cons 3 rfl (sub_cons 4 rfl (sub_cons 5 rfl (sub_tail (sub_tail (sub_tail (sub_tail (sub_tail (sub_tail (sub_self))))))))))))), H⟩
  obtain ⟨g6, g7, j1, j6, j2, j7, ha, hS, H⟩ := hI
  rw [q2] at H
  (try dsimp only at H)
  refine EW.at ?_ a ha
  clear ha a
  refine EW.sq (by kernel_rfl) ?_
  refine EW.rg (by kernel_rfl) ?_
  refine EL.quick 4 [5, 15, 174, 177] [(5, ig a23), (15, sv a2 a3 a1), (174, sv a2 a3 a1), (177, ia (IntKind.i64.wrap (Int.tmod a23 3)))] (by kernel_rfl) ?_
  have hS : St B _ (Ass.own 23 (Kd.slice (Kd.slice kS32)) j1 j6 g6 :: Ass.own 29 (Kd.slice kS32) j2 j7 g7 :: Ass.own 29 (Kd.slice kS32) d7 e1 d3 :: Ass.own 32 kS32 d8 e2 d4 :: Ass.own 32 kS32 d9 e3 d5 :: os) (Ro.sl (Kd.slice kS32) a2 a3 a1 :: Ro.sl kS32 a7 a8 a5 :: Ro.sl kS51 A18 C19 l17 :: Ro.sl (Kd.int .u8) A25 C26 l24 :: Ro.sl (Kd.slice kS32) A15 C16 l14 :: rs) := hS.re [] [] rfl (sub_cons 0 rfl (sub_tail (sub_self)))
  obtain ⟨t0, t1, g1, p7, H⟩ := b3_out H
  have hq := verify_Image.calls p7 hS
  refine EL.of (EO.callD 21 [sv a2 a3 a1, ia 4, ia (IntKind.i64.wrap (Int.tmod a23 3))] _ 178 (by kernel_rfl) (by kernel_rfl) (by kernel_rfl) hq ?_)
  rintro v w ⟨rfl, hS⟩
  refine EL.quick 7 [5, 15, 36] [(5, ig a23), (15, sv a2 a3 a1), (36, ia g1)] (by kernel_rfl) ?_
  refine EL.done (by kernel_rfl) ?_
  refine EQ.code ?_
  refine EW.sq (by kernel_rfl) ?_
  refine EW.rg (by kernel_rfl) ?_
  refine EL.quick 4 [36, 183, 186] [(36, ia g1), (183, sv a2 a3 a1), (186, ia (IntKind.i64.wrap (Int.tmod a23 3)))] (by kernel_rfl) ?_
  have hS : St B _ (Ass.own 23 (Kd.slice (Kd.slice kS32)) j1 j6 g6 :: Ass.own 29 (Kd.slice kS32) j2 j7 g7 :: Ass.own 29 (Kd.slice kS32) d7 e1 d3 :: Ass.own 32 kS32 d8 e2 d4 :: Ass.own 32 kS32 d9 e3 d5 :: os) (Ro.sl (Kd.slice kS32) a2 a3 a1 :: Ro.sl kS32 a7 a8 a5 :: Ro.sl kS51 A18 C19 l17 :: Ro.sl (Kd.int .u8) A25 C26 l24 :: Ro.sl (Kd.slice kS32) A15 C16 l14 :: rs) := hS.re [] [] rfl (sub_cons 0 rfl (sub_tail (sub_self)))
  obtain ⟨t2, t3, i8, p8, H⟩ := b3_out H
  have hq := confidantref5_Image.calls p8 hS
  refine EL.of (EO.callD 22 [sv a2 a3 a1, ia 4, ia (IntKind.i64.wrap (Int.tmod a23 3))] _ 187 (by kernel_rfl) (by kernel_rfl) (by kernel_rfl) hq ?_)
  rintro v w ⟨rfl, hS⟩
  refine EL.quick 7 [36, 39] [(36, ia g1), (39, ia i8)] (by kernel_rfl) ?_
  refine EL.done (by kernel_rfl) ?_
  refine EQ.code ?_
  refine EW.sq (by kernel_rfl) ?_
  refine EW.rg (by kernel_rfl) ?_
  refine EL.quick 4 [14] [(14, .bool (decide (g1 = i8)))] (by kernel_rfl) ?_
  refine EL.done (by kernel_rfl) ?_
  refine EQ.code ?_
  refine EW.ret (by kernel_rfl) ?_
  obtain rfl := Option.some.inj H
  exact EQ.leave (.bool (decide (g1 = i8))) (by kernel_rfl) ⟨_, rfl, rfl, (hS.re [] [0, 0, 0, 0, 0] rfl (sub_cons 4 rfl (sub_cons 2 rfl (sub_cons 3 rfl (sub_tail (sub_tail (sub_tail (sub_tail (sub_tail (sub_self))))))))))⟩
 rw [if_neg m7] at H
 refine EW.sq (by kernel_rfl) ?_
 refine EW.rg (by kernel_rfl) ?_
 refine EL.quick 1 [14] [(14, .bool (false))] (by kernel_rfl) ?_
 refine EL.done (by kernel_rfl) ?_
 refine EQ.code ?_
 refine EW.ret (by kernel_rfl) ?_
 refine EQ.ret ?_
 obtain rfl := Option.some.inj H
 exact EQ.leave (.bool (false)) (by kernel_rfl) ⟨_, rfl, rfl, (hS.re [] [] rfl (sub_self))⟩

def okS32 (s : S32) : Prop := ((Lit.int .i64 s.f0).wf = true) ∧ ((Lit.int .i32 s.f1).wf = true) ∧ True
theorem oS32 : Opens Try.prog 32 kS32 okS32 := Opens.struct (fun s : S32 => (s.f0, s.f1, ())) (fun a => ⟨a.1, a.2.1⟩) (fun _ => rfl) Try.underlying32 (OpensF.cons (Opens.int Try.underlying3) (OpensF.cons (Opens.int Try.underlying21) OpensF.nil rfl (by kernel_rfl)) rfl (by kernel_rfl)) (by kernel_rfl)
def okS51 (s : S51) : Prop := ((Lit.int .u8 s.f0).wf = true) ∧ ((Lit.int .u8 s.f1).wf = true) ∧ True
theorem oS51 : Opens Try.prog 51 kS51 okS51 := Opens.array (fun s : S51 => (s.f0, s.f1, ())) (fun a => ⟨a.1, a.2.1⟩) (fun _ => rfl) Try.underlying51 (by kernel_rfl) (OpensA.cons (Opens.int Try.underlying5) (OpensA.cons (Opens.int Try.underlying5) OpensA.nil rfl) rfl) (by kernel_rfl)
def confidantlaw8_VerifyTells.Pure : Prop := ∀ (l14 : List (List S32)) (l17 : List S51) (a20 : Int) (a21 : Int) (a22 : Int) (a23 : Int) (l24 : List Int), l14.length * 24 ≤ 140737488351232 → (∀ x ∈ l14, x.length * 16 ≤ 140737488351232 ∧ (∀ y ∈ x, okS32 y)) → l17.length * 2 ≤ 140737488351232 → (∀ x ∈ l17, okS51 x) → (Lit.int .u8 a20).wf = true → (Lit.int .u8 a21).wf = true → (Lit.int .u8 a22).wf = true → (Lit.int .u8 a23).wf = true → l24.length * 1 ≤ 140737488351232 → (∀ x ∈ l24, (Lit.int .u8 x).wf = true) → ∃ K, confidantlaw8_VerifyTells.f K l14 l17 a20 a21 a22 a23 l24 = some true

end Go.Proofs.Ytlcnkngpankkpaa.G
