import Derived.Test.YtiilloijkbabbaaGreatDoorProg
import Derived.Test.YtiilloijkbabbaaGreatDoorFwShort
import Derived.Test.YtiilloijkbabbaaGreatDoorFwOpen
import Derived.Test.YtiilloijkbabbaaGreatDoorFwStr
import Derived.Test.YtiilloijkbabbaaGreatDoorG0
import Derived.Test.YtiilloijkbabbaaGreatDoorG4
namespace Go.Proofs.YtiilloijkbabbaaGreatDoor.G
open Go Go.Fw Go.RowKit Go.Proofs
set_option linter.unusedVariables false
set_option linter.unusedSimpArgs false

/-! ### confidant/confidantref5.ImageParse: function 21 -/
def confidantref5_ImageParse.l0 (K : Nat) (a1 : ByteArray) (c4 : (List (List S59)) → Option (List (List S59) × Int × Int)) : Nat → (List (List S59)) → Int → Int → Int → Option (List (List S59) × Int × Int)
 | 0, _, _, _, _ => none
 | n + 1, a0, a4, a6, a2 => if a2 ≤ (a1.size : Int) then (lt (fun (b9 : List (List S59)) (c2 : Int) (c3 : Int) => (confidantref5_ImageParse.l0 K a1 c4 n b9 c2 c3 (IntKind.i64.wrap (a2 + 1)))) fun e9 => (lt (fun (d8 : Bool) => (if d8 = true then (e9 a0 a4 a6) else (if 0 ≤ a6 then (if a6 ≤ a2 then (b3 (confidantref5_Parse.f K (a1.extract a6.toNat a2.toNat)) fun (b0 : Int) (a9 : Int) (b1 : Bool) => (lt (fun (c0 : List (List S59)) => (e9 c0 (IntKind.i64.wrap (a4 + 1)) (IntKind.i64.wrap (a2 + 1)))) fun e4 => (if ((a1.extract a6.toNat a2.toNat).toList == (⟨#[]⟩ : ByteArray).toList) = true then (e4 a0) else (lt (fun (d9 : Bool) => (if d9 = true then (some (([] : List (List S59)), a4, 22)) else (if ((a1.extract a6.toNat a2.toNat).toList == (⟨#[102, 117, 110, 99]⟩ : ByteArray).toList) = true then (if (a0.length + ([([] : List S59)] : List (List S59)).length) * 24 ≤ 140737488355328 then (lt (a0 ++ ([([] : List S59)] : List (List S59))) fun c5 => (e4 c5)) else none) else (lt (fun (e0 : Bool) => (if e0 = true then (some (([] : List (List S59)), a4, 24)) else (if 0 ≤ (IntKind.i64.wrap ((a0.length : Int) - 1)) then (if (IntKind.i64.wrap ((a0.length : Int) - 1)) < (a0.length : Int) then (if ((a0.getD (IntKind.i64.wrap ((a0.length : Int) - 1)).toNat []).length : Int) = 512 then (some (([] : List (List S59)), a4, 22)) else (lt ([(⟨b0, a9⟩ : S59)] : List S59) fun b4 => (if ((a0.getD (IntKind.i64.wrap ((a0.length : Int) - 1)).toNat []).length + b4.length) * 16 ≤ 140737488355328 then (lt ((a0.getD (IntKind.i64.wrap ((a0.length : Int) - 1)).toNat []) ++ b4) fun d7 => (lt (a0.set (IntKind.i64.wrap ((a0.length : Int) - 1)).toNat d7) fun b2 => (e4 b2))) else none))) else none) else none))) fun f2 => (if b1 = true then (f2 (decide ((a0.length : Int) = 0))) else (f2 true)))))) fun f1 => (if ((a1.extract a6.toNat a2.toNat).toList == (⟨#[102, 117, 110, 99]⟩ : ByteArray).toList) = true then (f1 (decide ((a0.length : Int) = 64))) else (f1 false)))))) else none) else none))) fun f0 => (if a2 < (a1.size : Int) then (if 0 ≤ a2 then (f0 (!(decide ((sAt a1 a2) = 10)))) else none) else (f0 false)))) else (c4 a0)
def confidantref5_ImageParse.f (K : Nat) (a1 : ByteArray) : Option (List (List S59) × Int × Int) := lt (fun (c1 : List (List S59)) => (some (c1, 0, 0))) fun c4 => (confidantref5_ImageParse.l0 K a1 c4 K ([] : List (List S59)) 0 0 0)
set_option maxRecDepth 100000 in
theorem confidantref5_ImageParse.calls {K : Nat} {a1 : ByteArray} {b6 : List (List S59)} {b7 : Int} {b8 : Int} {B w : World} {os : List Ass} {rs : List Ro} (H : confidantref5_ImageParse.f K a1 = some (b6, b7, b8)) (hS : St B w (os) (rs)) :
  Calls Tryz.prog 21 [.string a1].toArray w (fun en w' => ∃ v, en = .returned v ∧ ∃ g0 : Option Addr, ∃ g4 : Nat, v = .tuple #[sv g0 g4 b6, ia b7, ia b8] ∧ St B w' (Ass.deep 56 59 kS59 g0 g4 b6 :: os) (rs)) := by
 unfold confidantref5_ImageParse.f at H
 refine calls_of_EW (args := [.string a1]) (c := Cd21) 91 Tryz.func21 (by kernel_rfl) (by kernel_rfl) (by kernel_rfl) ?_
 refine EW.sq (by kernel_rfl) ?_
 refine EW.rg (by kernel_rfl) ?_
 refine EL.quick 3 [0] [(0, .string a1)] (by kernel_rfl) ?_
 refine EL.done (by kernel_rfl) ?_
 refine EQ.code ?_
 refine EW.sq (by kernel_rfl) ?_
 refine EW.rg (by kernel_rfl) ?_
 refine EL.quick 1 [0, 5] [(0, .string a1), (5, sv none 0 ([] : List (List S59)))] (by kernel_rfl) ?_
 refine EL.done (by kernel_rfl) ?_
 refine EQ.code ?_
 refine EW.sq (by kernel_rfl) ?_
 refine EW.rg (by kernel_rfl) ?_
 refine EL.quick 2 [0, 5, 6, 7] [(0, .string a1), (5, sv none 0 ([] : List (List S59))), (6, ia 0), (7, ia 0)] (by kernel_rfl) ?_
 refine EL.done (by kernel_rfl) ?_
 refine EQ.code ?_
 obtain ⟨c4, i4, H⟩ := lt_out H
 refine EW.ct (fun a w => ∃ c1 : List (List S59), ∃ c6 : Option Addr, ∃ d0 : Nat, Sat 91 [(5, sv c6 d0 c1)] a ∧ St B w (Ass.deep 56 59 kS59 c6 d0 c1 :: os) (rs) ∧ c4 c1 = some (b6, b7, b8)) (by kernel_rfl) ?_ (fun a w hI => ?_)
 ·refine EW.sq (by kernel_rfl) ?_
  refine EW.rg (by kernel_rfl) ?_
  refine EL.quick 1 [0, 5, 6, 7, 8] [(0, .string a1), (5, sv none 0 ([] : List (List S59))), (6, ia 0), (7, ia 0), (8, ia 0)] (by kernel_rfl) ?_
  refine EL.done (by kernel_rfl) ?_
  refine EQ.code ?_
  refine EW.bl 0 (by kernel_rfl) ?_
  have hS := St.nilDeep hS 56 59 kS59
  refine EW.lp (fun n a w => ∃ a0 : List (List S59), ∃ a4 : Int, ∃ a6 : Int, ∃ a2 : Int, ∃ a5 : Option Addr, ∃ a3 : Nat, Sat 91 [(0, .string a1), (5, sv a5 a3 a0), (6, ia a4), (7, ia a6), (8, ia a2)] a ∧ St B w (Ass.deep 56 59 kS59 a5 a3 a0 :: os) (rs) ∧ confidantref5_ImageParse.l0 K a1 c4 n a0 a4 a6 a2 = some (b6, b7, b8)) K (by kernel_rfl) ?_ (fun n a w hI => ?_)
  ·refine EQ.keep [0, 5, 6, 7, 8] [(0, .string a1), (5, sv none 0 ([] : List (List S59))), (6, ia 0), (7, ia 0), (8, ia 0)] (by kernel_rfl) ?_
   exact fun a ha => ⟨([] : List (List S59)), 0, 0, 0, none, 0, ha, (hS.re [0] [] rfl (sub_self)), H⟩
  obtain ⟨a0, a4, a6, a2, a5, a3, ha, hS, H⟩ := hI
  obtain _ | n := n
  ·simp [confidantref5_ImageParse.l0] at H
  rw [confidantref5_ImageParse.l0.eq_2] at H
  refine EW.at ?_ a ha
  clear ha a
  refine EW.sq (by kernel_rfl) ?_
  refine EW.sq (by kernel_rfl) ?_
  refine EW.rg (by kernel_rfl) ?_
  refine EL.quick 4 [0, 5, 6, 7, 8, 16] [(0, .string a1), (5, sv a5 a3 a0), (6, ia a4), (7, ia a6), (8, ia a2), (16, .bool (decide (a2 ≤ (a1.size : Int))))] (by kernel_rfl) ?_
  refine EL.done (by kernel_rfl) ?_
  refine EQ.code ?_
  refine EW.cdP (a2 ≤ (a1.size : Int)) (by kernel_rfl) (by kernel_rfl) (fun f3 => ?_) (fun f3 => ?_)
  ·rw [if_pos f3] at H
   refine EW.skip (by kernel_rfl) ?_
   refine EQ.code ?_
   obtain ⟨e9, i5, H⟩ := lt_out H
   refine EW.ct (fun a w => ∃ b9 : List (List S59), ∃ c2 : Int, ∃ c3 : Int, ∃ c7 : Option Addr, ∃ d1 : Nat, Sat 91 [(0, .string a1), (5, sv c7 d1 b9), (6, ia c2), (7, ia c3), (8, ia a2)] a ∧ St B w (Ass.deep 56 59 kS59 c7 d1 b9 :: os) (rs) ∧ e9 b9 c2 c3 = some (b6, b7, b8)) (by kernel_rfl) ?_ (fun a w hI => ?_)
   ·refine EW.bl 1 (by kernel_rfl) ?_
    refine EW.sq (by kernel_rfl) ?_
    obtain ⟨f0, i6, H⟩ := lt_out H
    refine EW.ct (fun a w => ∃ d8 : Bool, Sat 91 [(0, .string a1), (5, sv a5 a3 a0), (6, ia a4), (7, ia a6), (8, ia a2), (28, .bool (d8))] a ∧ St B w (Ass.deep 56 59 kS59 a5 a3 a0 :: os) (rs) ∧ f0 d8 = some (b6, b7, b8)) (by kernel_rfl) ?_ (fun a w hI => ?_)
    ·refine EW.rg (by kernel_rfl) ?_
     refine EL.quick 5 [0, 5, 6, 7, 8, 23] [(0, .string a1), (5, sv a5 a3 a0), (6, ia a4), (7, ia a6), (8, ia a2), (23, .bool (decide (a2 < (a1.size : Int))))] (by kernel_rfl) ?_
     by_cases e3 : a2 < (a1.size : Int)
     ·rw [if_pos e3] at H
      refine EL.keep [0, 5, 6, 7, 8, 23] [(0, .string a1), (5, sv a5 a3 a0), (6, ia a4), (7, ia a6), (8, ia a2), (23, .bool (decide (a2 < (a1.size : Int))))] (by kernel_rfl) ?_
      refine EL.as' [(0, .string a1), (5, sv a5 a3 a0), (6, ia a4), (7, ia a6), (8, ia a2), (23, .bool (true))] (by simp only [sv, dec_t e3, Bool.not_true, Bool.not_false]) ?_
      refine EL.quick 2 [0, 5, 6, 7, 8, 23, 24, 25] [(0, .string a1), (5, sv a5 a3 a0), (6, ia a4), (7, ia a6), (8, ia a2), (23, .bool (true)), (24, .string a1), (25, ia a2)] (by kernel_rfl) ?_
      obtain ⟨i1, H⟩ := ite_in H
      refine EL.of (EO.Y (YO.strIdx a1 9 .i64 a2 26 (by kernel_rfl) (by kernel_rfl) (by kernel_rfl) (by kernel_rfl) i1 e3) ?_)
      refine EL.quick 2 [0, 5, 6, 7, 8, 24, 25, 26, 27, 28] [(0, .string a1), (5, sv a5 a3 a0), (6, ia a4), (7, ia a6), (8, ia a2), (24, .string a1), (25, ia a2), (26, ig (sAt a1 a2)), (27, .bool (!(decide ((sAt a1 a2) = 10)))), (28, .bool (!(decide ((sAt a1 a2) = 10))))] (by kernel_rfl) ?_
      refine EL.done (by kernel_rfl) ?_
      refine EQ.to ?_
      refine EQ.keep [0, 5, 6, 7, 8, 28] [(0, .string a1), (5, sv a5 a3 a0), (6, ia a4), (7, ia a6), (8, ia a2), (28, .bool (!(decide ((sAt a1 a2) = 10))))] (by kernel_rfl) ?_
      exact fun a ha => ⟨!(decide ((sAt a1 a2) = 10)), ha, (hS.re [0] [] rfl (sub_self)), H⟩
     rw [if_neg e3] at H
     refine EL.keep [0, 5, 6, 7, 8, 23] [(0, .string a1), (5, sv a5 a3 a0), (6, ia a4), (7, ia a6), (8, ia a2), (23, .bool (decide (a2 < (a1.size : Int))))] (by kernel_rfl) ?_
     refine EL.as' [(0, .string a1), (5, sv a5 a3 a0), (6, ia a4), (7, ia a6), (8, ia a2), (23, .bool (false))] (by simp only [sv, dec_f e3, Bool.not_true, Bool.not_false]) ?_
     refine EL.quick 5 [0, 5, 6, 7, 8, 28] [(0, .string a1), (5, sv a5 a3 a0), (6, ia a4), (7, ia a6), (8, ia a2), (28, .bool (false))] (by kernel_rfl) ?_
     refine EL.done (by kernel_rfl) ?_
     refine EQ.to ?_
     refine EQ.keep [0, 5, 6, 7, 8, 28] [(0, .string a1), (5, sv a5 a3 a0), (6, ia a4), (7, ia a6), (8, ia a2), (28, .bool (false))] (by kernel_rfl) ?_
     exact fun a ha => ⟨false, ha, (hS.re [0] [] rfl (sub_self)), H⟩
    obtain ⟨d8, ha, hS, H⟩ := hI
    rw [i6] at H
    (try dsimp only at H)
    refine EW.at ?_ a ha
    clear ha a
    refine EW.cdP' (d8) (by kernel_rfl) (by kernel_rfl) (fun f4 => ?_) (fun f4 => ?_)
    ·rw [if_pos f4] at H
     refine EW.exit (id := 1) (by kernel_rfl) ?_
     refine EQ.exitCode ?_
     refine EQ.exitHere ?_
     refine EQ.to ?_
     refine EQ.keep [0, 5, 6, 7, 8] [(0, .string a1), (5, sv a5 a3 a0), (6, ia a4), (7, ia a6), (8, ia a2)] (by kernel_rfl) ?_
     exact fun a ha => ⟨a0, a4, a6, a5, a3, ha, (hS.re [0] [] rfl (sub_self)), H⟩
    rw [if_neg f4] at H
    refine EW.skip (by kernel_rfl) ?_
    refine EQ.code ?_
    refine EW.sq (by kernel_rfl) ?_
    refine EW.rg (by kernel_rfl) ?_
    refine EL.quick 3 [0, 5, 6, 8, 29, 30, 31] [(0, .string a1), (5, sv a5 a3 a0), (6, ia a4), (8, ia a2), (29, .string a1), (30, ia a6), (31, ia a2)] (by kernel_rfl) ?_
    obtain ⟨j1, H⟩ := ite_in H
    obtain ⟨j2, H⟩ := ite_in H
    refine EL.of (EO.Y (YO.strSlice a1 (some (ia a6)) (some (ia a2)) a6.toNat a2.toNat 9 32 (by kernel_rfl) (by kernel_rfl) (by kernel_rfl) (by kernel_rfl) ((Int.toNat_of_nonneg (by omega)).symm) ((Int.toNat_of_nonneg (by omega)).symm) (by omega) (by omega)) ?_)
    refine EL.quick 1 [0, 5, 6, 8, 9] [(0, .string a1), (5, sv a5 a3 a0), (6, ia a4), (8, ia a2), (9, .string (a1.extract a6.toNat a2.toNat))] (by kernel_rfl) ?_
    refine EL.done (by kernel_rfl) ?_
    refine EQ.code ?_
    refine EW.sq (by kernel_rfl) ?_
    refine EW.rg (by kernel_rfl) ?_
    refine EL.quick 3 [0, 5, 6, 8, 9, 10] [(0, .string a1), (5, sv a5 a3 a0), (6, ia a4), (8, ia a2), (9, .string (a1.extract a6.toNat a2.toNat)), (10, ia (a0.length : Int))] (by kernel_rfl) ?_
    refine EL.done (by kernel_rfl) ?_
    refine EQ.code ?_
    refine EW.sq (by kernel_rfl) ?_
    refine EW.rg (by kernel_rfl) ?_
    refine EL.quick 1 [0, 5, 6, 8, 9, 10, 36] [(0, .string a1), (5, sv a5 a3 a0), (6, ia a4), (8, ia a2), (9, .string (a1.extract a6.toNat a2.toNat)), (10, ia (a0.length : Int)), (36, .string (a1.extract a6.toNat a2.toNat))] (by kernel_rfl) ?_
    obtain ⟨b0, a9, b1, i3, H⟩ := b3_out H
    have hq := confidantref5_Parse.calls i3 hS
    refine EL.of (EO.callD 46 [.string (a1.extract a6.toNat a2.toNat)] _ 37 (by kernel_rfl) (by kernel_rfl) (by kernel_rfl) hq ?_)
    rintro v w ⟨rfl, hS⟩
    refine EL.quick 3 [0, 5, 6, 8, 9, 10, 38, 39] [(0, .string a1), (5, sv a5 a3 a0), (6, ia a4), (8, ia a2), (9, .string (a1.extract a6.toNat a2.toNat)), (10, ia (a0.length : Int)), (38, ag [ia b0, ib a9]), (39, .bool (b1))] (by kernel_rfl) ?_
    refine EL.of (EO.alloc hS 59 (ag [ia 0, ib 0]) [ia 0, ib 0] 11 (by kernel_rfl) (by kernel_rfl) (by kernel_rfl) (by kernel_rfl) (by first | rfl | kernel_rfl) ?_)
    intro a8 w hS
    refine EL.of (EO.storeBox (os' := Ass.box 59 a8 [ia b0, ib a9] :: Ass.deep 56 59 kS59 a5 a3 a0 :: os) hS 0 rfl 59 0 (ag [ia b0, ib a9]) [ia b0, ib a9] (by kernel_rfl) (by kernel_rfl) (by kernel_rfl) (by kernel_rfl) (by kernel_rfl) (by kernel_rfl) rfl rfl ?_)
    intro w hS
    refine EL.quick 1 [0, 5, 6, 8, 9, 10, 11, 12] [(0, .string a1), (5, sv a5 a3 a0), (6, ia a4), (8, ia a2), (9, .string (a1.extract a6.toNat a2.toNat)), (10, ia (a0.length : Int)), (11, pt a8 0), (12, .bool (b1))] (by kernel_rfl) ?_
    refine EL.done (by kernel_rfl) ?_
    refine EQ.code ?_
    obtain ⟨e4, i7, H⟩ := lt_out H
    refine EW.ct (fun a w => ∃ c0 : List (List S59), ∃ c8 : Option Addr, ∃ d2 : Nat, Sat 91 [(0, .string a1), (5, sv c8 d2 c0), (6, ia a4), (8, ia a2)] a ∧ St B w (Ass.box 59 a8 [ia b0, ib a9] :: Ass.deep 56 59 kS59 c8 d2 c0 :: os) (rs) ∧ e4 c0 = some (b6, b7, b8)) (by kernel_rfl) ?_ (fun a w hI => ?_)
    ·refine EW.bl 2 (by kernel_rfl) ?_
     refine EW.sq (by kernel_rfl) ?_
     refine EW.rg (by kernel_rfl) ?_
     refine EL.quick 3 [0, 5, 6, 8, 9, 10, 11, 12, 52] [(0, .string a1), (5, sv a5 a3 a0), (6, ia a4), (8, ia a2), (9, .string (a1.extract a6.toNat a2.toNat)), (10, ia (a0.length : Int)), (11, pt a8 0), (12, .bool (b1)), (52, .bool (((a1.extract a6.toNat a2.toNat).toList == (⟨#[]⟩ : ByteArray).toList)))] (by kernel_rfl) ?_
     refine EL.done (by kernel_rfl) ?_
     refine EQ.code ?_
     refine EW.cdP' (((a1.extract a6.toNat a2.toNat).toList == (⟨#[]⟩ : ByteArray).toList)) (by kernel_rfl) (by kernel_rfl) (fun f5 => ?_) (fun f5 => ?_)
     ·rw [if_pos f5] at H
      refine EW.skip (by kernel_rfl) ?_
      refine EQ.pop ?_
      refine EQ.to ?_
      refine EQ.keep [0, 5, 6, 8] [(0, .string a1), (5, sv a5 a3 a0), (6, ia a4), (8, ia a2)] (by kernel_rfl) ?_
      exact fun a ha => ⟨a0, a5, a3, ha, (hS.re [1, 1] [] rfl (sub_self)), H⟩
     rw [if_neg f5] at H
     obtain ⟨f1, i8, H⟩ := lt_out H
     refine EW.ct (fun a w => ∃ d9 : Bool, Sat 91 [(0, .string a1), (5, sv a5 a3 a0), (6, ia a4), (8, ia a2), (9, .string (a1.extract a6.toNat a2.toNat)), (10, ia (a0.length : Int)), (11, pt a8 0), (12, .bool (b1)), (55, .bool (d9))] a ∧ St B w (Ass.box 59 a8 [ia b0, ib a9] :: Ass.deep 56 59 kS59 a5 a3 a0 :: os) (rs) ∧ f1 d9 = some (b6, b7, b8)) (by kernel_rfl) ?_ (fun a w hI => ?_)
     ·refine EW.rg (by kernel_rfl) ?_
      refine EL.quick 3 [0, 5, 6, 8, 9, 10, 11, 12, 58] [(0, .string a1), (5, sv a5 a3 a0), (6, ia a4), (8, ia a2), (9, .string (a1.extract a6.toNat a2.toNat)), (10, ia (a0.length : Int)), (11, pt a8 0), (12, .bool (b1)), (58, .bool (((a1.extract a6.toNat a2.toNat).toList == (⟨#[102, 117, 110, 99]⟩ : ByteArray).toList)))] (by kernel_rfl) ?_
      by_cases e5 : ((a1.extract a6.toNat a2.toNat).toList == (⟨#[102, 117, 110, 99]⟩ : ByteArray).toList) = true
      ·rw [if_pos e5] at H
       refine EL.keep [0, 5, 6, 8, 9, 10, 11, 12, 58] [(0, .string a1), (5, sv a5 a3 a0), (6, ia a4), (8, ia a2), (9, .string (a1.extract a6.toNat a2.toNat)), (10, ia (a0.length : Int)), (11, pt a8 0), (12, .bool (b1)), (58, .bool (((a1.extract a6.toNat a2.toNat).toList == (⟨#[102, 117, 110, 99]⟩ : ByteArray).toList)))] (by kernel_rfl) ?_
       refine EL.as' [(0, .string a1), (5, sv a5 a3 a0), (6, ia a4), (8, ia a2), (9, .string (a1.extract a6.toNat a2.toNat)), (10, ia (a0.length : Int)), (11, pt a8 0), (12, .bool (b1)), (58, .bool (true))] (by simp only [sv, e5, Bool.not_true, Bool.not_false]) ?_
       refine EL.quick 4 [0, 5, 6, 8, 9, 10, 11, 12, 55, 59, 60] [(0, .string a1), (5, sv a5 a3 a0), (6, ia a4), (8, ia a2), (9, .string (a1.extract a6.toNat a2.toNat)), (10, ia (a0.length : Int)), (11, pt a8 0), (12, .bool (b1)), (55, .bool (decide ((a0.length : Int) = 64))), (59, ia (a0.length : Int)), (60, .bool (decide ((a0.length : Int) = 64)))] (by kernel_rfl) ?_
       refine EL.done (by kernel_rfl) ?_
       refine EQ.to ?_
       refine EQ.keep [0, 5, 6, 8, 9, 10, 11, 12, 55] [(0, .string a1), (5, sv a5 a3 a0), (6, ia a4), (8, ia a2), (9, .string (a1.extract a6.toNat a2.toNat)), (10, ia (a0.length : Int)), (11, pt a8 0), (12, .bool (b1)), (55, .bool (decide ((a0.length : Int) = 64)))] (by kernel_rfl) ?_
       exact fun a ha => ⟨decide ((a0.length : Int) = 64), ha, (hS.re [1, 1] [] rfl (sub_self)), H⟩
      rw [if_neg e5] at H
      refine EL.keep [0, 5, 6, 8, 9, 10, 11, 12, 58] [(0, .string a1), (5, sv a5 a3 a0), (6, ia a4), (8, ia a2), (9, .string (a1.extract a6.toNat a2.toNat)), (10, ia (a0.length : Int)), (11, pt a8 0), (12, .bool (b1)), (58, .bool (((a1.extract a6.toNat a2.toNat).toList == (⟨#[102, 117, 110, 99]⟩ : ByteArray).toList)))] (by kernel_rfl) ?_
      refine EL.as' [(0, .string a1), (5, sv a5 a3 a0), (6, ia a4), (8, ia a2), (9, .string (a1.extract a6.toNat a2.toNat)), (10, ia (a0.length : Int)), (11, pt a8 0), (12, .bool (b1)), (58, .bool (false))] (by simp only [sv, (Bool.eq_false_iff.2 e5), Bool.not_true, Bool.not_false]) ?_
      refine EL.quick 4 [0, 5, 6, 8, 9, 10, 11, 12, 55] [(0, .string a1), (5, sv a5 a3 a0), (6, ia a4), (8, ia a2), (9, .string (a1.extract a6.toNat a2.toNat)), (10, ia (a0.length : Int)), (11, pt a8 0), (12, .bool (b1)), (55, .bool (false))] (by kernel_rfl) ?_
      refine EL.done (by kernel_rfl) ?_
      refine EQ.to ?_
      refine EQ.keep [0, 5, 6, 8, 9, 10, 11, 12, 55] [(0, .string a1), (5, sv a5 a3 a0), (6, ia a4), (8, ia a2), (9, .string (a1.extract a6.toNat a2.toNat)), (10, ia (a0.length : Int)), (11, pt a8 0), (12, .bool (b1)), (55, .bool (false))] (by kernel_rfl) ?_
      exact fun a ha => ⟨false, ha, (hS.re [1, 1] [] rfl (sub_self)), H⟩
     obtain ⟨d9, ha, hS, H⟩ := hI
     rw [i8] at H
     (try dsimp only at H)
     refine EW.at ?_ a ha
     clear ha a
     refine EW.cdP' (d9) (by kernel_rfl) (by kernel_rfl) (fun f6 => ?_) (fun f6 => ?_)
     ·rw [if_pos f6] at H
      refine EW.sq (by kernel_rfl) ?_
      refine EW.rg (by kernel_rfl) ?_
      refine EL.quick 4 [2, 3, 4] [(2, sv none 0 ([] : List (List S59))), (3, ia a4), (4, ia 22)] (by kernel_rfl) ?_
      refine EL.done (by kernel_rfl) ?_
      refine EQ.code ?_
      refine EW.ret (by kernel_rfl) ?_
      refine EQ.ret ?_
      refine EQ.ret ?_
      refine EQ.ret ?_
      refine EQ.ret ?_
      refine EQ.ret ?_
      refine EQ.ret ?_
      refine EQ.ret ?_
      have hS := St.nilDeep hS 56 59 kS59
      simp only [sv, Option.some.injEq, Prod.mk.injEq] at H
      obtain ⟨rfl, rfl, rfl⟩ := H
      exact EQ.leave (.tuple #[sv none 0 ([] : List (List S59)), ia a4, ia 22]) (by kernel_rfl) ⟨_, rfl, none, 0, rfl, (hS.re [0] [1, 1] rfl (sub_self))⟩
     rw [if_neg f6] at H
     refine EW.sq (by kernel_rfl) ?_
     refine EW.rg (by kernel_rfl) ?_
     refine EL.quick 3 [0, 5, 6, 8, 10, 11, 12, 63] [(0, .string a1), (5, sv a5 a3 a0), (6, ia a4), (8, ia a2), (10, ia (a0.length : Int)), (11, pt a8 0), (12, .bool (b1)), (63, .bool (((a1.extract a6.toNat a2.toNat).toList == (⟨#[102, 117, 110, 99]⟩ : ByteArray).toList)))] (by kernel_rfl) ?_
     refine EL.done (by kernel_rfl) ?_
     refine EQ.code ?_
     refine EW.cdP' (((a1.extract a6.toNat a2.toNat).toList == (⟨#[102, 117, 110, 99]⟩ : ByteArray).toList)) (by kernel_rfl) (by kernel_rfl) (fun f7 => ?_) (fun f7 => ?_)
     ·rw [if_pos f7] at H
      refine EW.rg (by kernel_rfl) ?_
      refine EL.quick 1 [0, 6, 8, 66] [(0, .string a1), (6, ia a4), (8, ia a2), (66, sv a5 a3 a0)] (by kernel_rfl) ?_
      refine EL.of (EO.lit (xs := ([(none, ([] : List S59).length, 0)] : List Hdr)) hS Kd.hdr 56 26 1 #[(0, sv none 0 ([] : List S59))] [sv none 0 ([] : List S59)] 67 (by kernel_rfl) (by kernel_rfl) (by kernel_rfl) (fun _ => (by kernel_rfl)) rfl (by kernel_rfl) (fun w G hr => ⟨[sv none 0 ([] : List S59)], [], rfl, rfl, rfl⟩) ?_)
      intro g8 w hS
      have hS := St.nilO hS 59 kS59
      have hS := St.as (os' := Ass.deep 56 59 kS59 (some ⟨g8, 0, none⟩) 1 ([([] : List S59)] : List (List S59)) :: Ass.box 59 a8 [ia b0, ib a9] :: Ass.deep 56 59 kS59 a5 a3 a0 :: os) (St.fold (B := B) (os := _) (rs := _) (et := 56) (et' := 59) (K := kS59) (hs := [(none, ([] : List S59).length, 0)]) (xs := ([([] : List S59)] : List (List S59))) ⟨rfl, trivial⟩ (St.re hS [0, 1] [] rfl sub_self)) rfl
      obtain ⟨i2, H⟩ := ite_in H
      obtain ⟨c5, j0, H⟩ := lt_out H
      refine EL.of (EO.appendDeep hS 26 26 24 2 0 kS59 a5 a3 a0 rfl (some ⟨g8, 0, none⟩) 1 ([([] : List S59)] : List (List S59)) rfl c5 j0 (fun e1 e2 => Ass.deep 56 59 kS59 e1 e2 c5 :: Ass.box 59 a8 [ia b0, ib a9] :: os) 68 (by kernel_rfl) (by kernel_rfl) (by kernel_rfl) (by kernel_rfl) i2 (fun _ _ => rfl) ?_)
      intro e1 e2 w hS
      refine EL.quick 1 [0, 5, 6, 8] [(0, .string a1), (5, sv e1 e2 c5), (6, ia a4), (8, ia a2)] (by kernel_rfl) ?_
      refine EL.done (by kernel_rfl) ?_
      refine EQ.pop ?_
      refine EQ.to ?_
      refine EQ.keep [0, 5, 6, 8] [(0, .string a1), (5, sv e1 e2 c5), (6, ia a4), (8, ia a2)] (by kernel_rfl) ?_
      exact fun a ha => ⟨c5, e1, e2, ha, (hS.re [0, 1] [] rfl (sub_self)), H⟩
     rw [if_neg f7] at H
     obtain ⟨f2, i9, H⟩ := lt_out H
     refine EW.ct (fun a w => ∃ e0 : Bool, Sat 91 [(0, .string a1), (5, sv a5 a3 a0), (6, ia a4), (8, ia a2), (10, ia (a0.length : Int)), (11, pt a8 0), (69, .bool (e0))] a ∧ St B w (Ass.box 59 a8 [ia b0, ib a9] :: Ass.deep 56 59 kS59 a5 a3 a0 :: os) (rs) ∧ f2 e0 = some (b6, b7, b8)) (by kernel_rfl) ?_ (fun a w hI => ?_)
     ·refine EW.rg (by kernel_rfl) ?_
      refine EL.quick 3 [0, 5, 6, 8, 10, 11, 72] [(0, .string a1), (5, sv a5 a3 a0), (6, ia a4), (8, ia a2), (10, ia (a0.length : Int)), (11, pt a8 0), (72, .bool (!(b1)))] (by kernel_rfl) ?_
      by_cases e6 : b1 = true
      ·rw [if_pos e6] at H
       refine EL.keep [0, 5, 6, 8, 10, 11, 72] [(0, .string a1), (5, sv a5 a3 a0), (6, ia a4), (8, ia a2), (10, ia (a0.length : Int)), (11, pt a8 0), (72, .bool (!(b1)))] (by kernel_rfl) ?_
       refine EL.as' [(0, .string a1), (5, sv a5 a3 a0), (6, ia a4), (8, ia a2), (10, ia (a0.length : Int)), (11, pt a8 0), (72, .bool (false))] (by simp only [sv, e6, Bool.not_true, Bool.not_false]) ?_
       refine EL.quick 4 [0, 5, 6, 8, 10, 11, 69, 73, 74] [(0, .string a1), (5, sv a5 a3 a0), (6, ia a4), (8, ia a2), (10, ia (a0.length : Int)), (11, pt a8 0), (69, .bool (decide ((a0.length : Int) = 0))), (73, ia (a0.length : Int)), (74, .bool (decide ((a0.length : Int) = 0)))] (by kernel_rfl) ?_
       refine EL.done (by kernel_rfl) ?_
       refine EQ.to ?_
       refine EQ.keep [0, 5, 6, 8, 10, 11, 69] [(0, .string a1), (5, sv a5 a3 a0), (6, ia a4), (8, ia a2), (10, ia (a0.length : Int)), (11, pt a8 0), (69, .bool (decide ((a0.length : Int) = 0)))] (by kernel_rfl) ?_
       exact fun a ha => ⟨decide ((a0.length : Int) = 0), ha, (hS.re [1, 1] [] rfl (sub_self)), H⟩
      rw [if_neg e6] at H
      refine EL.keep [0, 5, 6, 8, 10, 11, 72] [(0, .string a1), (5, sv a5 a3 a0), (6, ia a4), (8, ia a2), (10, ia (a0.length : Int)), (11, pt a8 0), (72, .bool (!(b1)))] (by kernel_rfl) ?_
      refine EL.as' [(0, .string a1), (5, sv a5 a3 a0), (6, ia a4), (8, ia a2), (10, ia (a0.length : Int)), (11, pt a8 0), (72, .bool (true))] (by simp only [sv, (Bool.eq_false_iff.2 e6), Bool.not_true, Bool.not_false]) ?_
      refine EL.quick 4 [0, 5, 6, 8, 10, 11, 69] [(0, .string a1), (5, sv a5 a3 a0), (6, ia a4), (8, ia a2), (10, ia (a0.length : Int)), (11, pt a8 0), (69, .bool (true))] (by kernel_rfl) ?_
      refine EL.done (by kernel_rfl) ?_
      refine EQ.to ?_
      refine EQ.keep [0, 5, 6, 8, 10, 11, 69] [(0, .string a1), (5, sv a5 a3 a0), (6, ia a4), (8, ia a2), (10, ia (a0.length : Int)), (11, pt a8 0), (69, .bool (true))] (by kernel_rfl) ?_
      exact fun a ha => ⟨true, ha, (hS.re [1, 1] [] rfl (sub_self)), H⟩
     obtain ⟨e0, ha, hS, H⟩ := hI
     rw [i9] at H
     (try dsimp only at H)
     refine EW.at ?_ a ha
     clear ha a
     refine EW.cdP' (e0) (by kernel_rfl) (by kernel_rfl) (fun f8 => ?_) (fun f8 => ?_)
     ·rw [if_pos f8] at H
      refine EW.sq (by kernel_rfl) ?_
      refine EW.rg (by kernel_rfl) ?_
      refine EL.quick 4 [2, 3, 4] [(2, sv none 0 ([] : List (List S59))), (3, ia a4), (4, ia 24)] (by kernel_rfl) ?_
      refine EL.done (by kernel_rfl) ?_
      refine EQ.code ?_
      refine EW.ret (by kernel_rfl) ?_
      refine EQ.ret ?_
      refine EQ.ret ?_
      refine EQ.ret ?_
      refine EQ.ret ?_
      refine EQ.ret ?_
      refine EQ.ret ?_
      refine EQ.ret ?_
      have hS := St.nilDeep hS 56 59 kS59
      simp only [sv, Option.some.injEq, Prod.mk.injEq] at H
      obtain ⟨rfl, rfl, rfl⟩ := H
      exact EQ.leave (.tuple #[sv none 0 ([] : List (List S59)), ia a4, ia 24]) (by kernel_rfl) ⟨_, rfl, none, 0, rfl, (hS.re [0] [1, 1] rfl (sub_self))⟩
     rw [if_neg f8] at H
     refine EW.sq (by kernel_rfl) ?_
     refine EW.rg (by kernel_rfl) ?_
     refine EL.quick 3 [0, 5, 6, 8, 10, 11, 78, 80] [(0, .string a1), (5, sv a5 a3 a0), (6, ia a4), (8, ia a2), (10, ia (a0.length : Int)), (11, pt a8 0), (78, sv a5 a3 a0), (80, ia (IntKind.i64.wrap ((a0.length : Int) - 1)))] (by kernel_rfl) ?_
     obtain ⟨b5, H⟩ := ite_in H
     obtain ⟨d6, H⟩ := ite_in H
     obtain ⟨a7, rfl⟩ := St.deep_some hS 1 rfl b5 d6
     refine EL.of (EO.Y (YO.idx 26 1 a7 a0.length a3 .i64 (IntKind.i64.wrap ((a0.length : Int) - 1)) 81 (by kernel_rfl) (by kernel_rfl) (by kernel_rfl) (by kernel_rfl) b5 d6) ?_)
     refine EL.of (EO.openEl hS 1 a7 rfl (IntKind.i64.wrap ((a0.length : Int) - 1)) b5 d6 (fun c9 d3 => Ass.box 59 a8 [ia b0, ib a9] :: Ass.holed 56 59 kS59 (some a7) a3 a0 (IntKind.i64.wrap ((a0.length : Int) - 1)).toNat (c9, (a0.getD (IntKind.i64.wrap ((a0.length : Int) - 1)).toNat []).length, d3) :: os) 56 82 (by kernel_rfl) (by kernel_rfl) (by kernel_rfl) (by kernel_rfl) (fun _ _ => rfl) ?_)
     intro c9 d3 hS
     refine EL.quick 3 [0, 5, 6, 8, 10, 11, 77] [(0, .string a1), (5, sv (some a7) a3 a0), (6, ia a4), (8, ia a2), (10, ia (a0.length : Int)), (11, pt a8 0), (77, .bool (decide (((a0.getD (IntKind.i64.wrap ((a0.length : Int) - 1)).toNat []).length : Int) = 512)))] (by kernel_rfl) ?_
     refine EL.done (by kernel_rfl) ?_
     refine EQ.code ?_
     refine EW.cdP (((a0.getD (IntKind.i64.wrap ((a0.length : Int) - 1)).toNat []).length : Int) = 512) (by kernel_rfl) (by kernel_rfl) (fun f9 => ?_) (fun f9 => ?_)
     ·rw [if_pos f9] at H
      refine EW.sq (by kernel_rfl) ?_
      refine EW.rg (by kernel_rfl) ?_
      refine EL.quick 4 [2, 3, 4] [(2, sv none 0 ([] : List (List S59))), (3, ia a4), (4, ia 22)] (by kernel_rfl) ?_
      refine EL.done (by kernel_rfl) ?_
      refine EQ.code ?_
      refine EW.ret (by kernel_rfl) ?_
      refine EQ.ret ?_
      refine EQ.ret ?_
      refine EQ.ret ?_
      refine EQ.ret ?_
      refine EQ.ret ?_
      refine EQ.ret ?_
      refine EQ.ret ?_
      have hS := St.as (os' := Ass.box 59 a8 [ia b0, ib a9] :: Ass.deep 56 59 kS59 (some a7) a3 a0 :: os) (St.close hS 0 1 rfl rfl rfl a0 (set_getD _ _)) rfl
      have hS := St.nilDeep hS 56 59 kS59
      simp only [sv, Option.some.injEq, Prod.mk.injEq] at H
      obtain ⟨rfl, rfl, rfl⟩ := H
      exact EQ.leave (.tuple #[sv none 0 ([] : List (List S59)), ia a4, ia 22]) (by kernel_rfl) ⟨_, rfl, none, 0, rfl, (hS.re [0] [1, 1] rfl (sub_self))⟩
     rw [if_neg f9] at H
     obtain ⟨b4, e7, H⟩ := lt_out H
     obtain ⟨g9, H⟩ := ite_in H
     obtain ⟨d7, i0, H⟩ := lt_out H
     obtain ⟨b2, e8, H⟩ := lt_out H
     refine EW.mt (fun a w => ∃ g1 : Option Addr, ∃ g5 : Nat, Sat 91 [(0, .string a1), (5, sv (some a7) a3 b2), (6, ia a4), (8, ia a2)] a ∧ St B w (Ass.own 59 kS59 g1 g5 b4 :: Ass.box 59 a8 [ia b0, ib a9] :: Ass.deep 56 59 kS59 (some a7) a3 b2 :: os) (rs)) (by kernel_rfl) ?_ (fun a w hI => ?_)
     ·have hS := hS.drew
      refine EW.dr (B := B) [Ass.box 59 a8 [ia b0, ib a9]] [] (by kernel_rfl) (by kernel_rfl) ?_
      have hN : Region.noSelect Cd21.r.r.r.l.r.l.l.r.l.l.r.r.r.r.l.l.r.r.r.r.r.r.r.r.r.r.ops = true := (by kernel_rfl)
      have hF : freeAll Cd21.r.r.r.l.r.l.l.r.l.l.r.r.r.r.l.l.r.r.r.r.r.r.r.r.r.r.ops = true := (by kernel_rfl)
      have hC : Core B [Ass.box 59 a8 [ia b0, ib a9]] [] _ := ⟨_, _, hS.re [1] [] rfl sub_self⟩
      refine ED.quick hN hF hC [0, 1, 2, 3, 4, 5] [0, 5, 6, 8, 11, 40, 42, 43, 45] 7 [(0, .string a1), (5, sv (some a7) a3 a0), (6, ia a4), (8, ia a2), (11, pt a8 0), (40, sv (some a7) a3 a0), (42, ia (IntKind.i64.wrap ((a0.length : Int) - 1))), (43, sv (some a7) a3 a0), (45, ia (IntKind.i64.wrap ((a0.length : Int) - 1)))] (bm 13 63) (by kernel_rfl) (by kernel_rfl) ?_
      refine ED.Y hN hF hC 6 6 (bm 13 127) (by kernel_rfl) (by kernel_rfl) rfl (fun _ _ _ hS => YO.idx 26 1 a7 a0.length a3 .i64 (IntKind.i64.wrap ((a0.length : Int) - 1)) 46 (by kernel_rfl) (by kernel_rfl) (by kernel_rfl) (by kernel_rfl) b5 d6) ?_
      refine ED.Y hN hF hC 8 5 (bm 13 383) (by kernel_rfl) (by kernel_rfl) rfl (fun _ _ _ hS => YO.loadBox hS 0 rfl 59 0 2 (ag [ia b0, ib a9]) 48 (by kernel_rfl) (by kernel_rfl) (by kernel_rfl) (by kernel_rfl)) ?_
      refine ED.two 7 9 4 (by kernel_rfl) (by kernel_rfl) ?_ ?_
      ·refine EO.Y (YO.loadHole hS 2 a7 (j := (IntKind.i64.wrap ((a0.length : Int) - 1))) rfl b5 56 47 (by kernel_rfl) (by kernel_rfl) (by kernel_rfl) (by kernel_rfl)) ?_
       have hC := hC.again ⟨_, _, hS.re [1] [] rfl sub_self⟩
       refine ⟨hC, ?_⟩
       refine ED.at' (bm 13 511) (by kernel_rfl) ?_
       refine ED.one 9 3 (bm 13 1023) (by kernel_rfl) (by kernel_rfl) (by kernel_rfl) (EO.lit hS kS59 59 56 1 #[(0, ag [ia b0, ib a9])] [ia b0, ib a9] b4 49 (by kernel_rfl) (by kernel_rfl) (by kernel_rfl) (fun _ => (by kernel_rfl)) (by rw [e7]; rfl) (by kernel_rfl) (fun w G hr => (by rw [e7]; exact ⟨[ia b0, ib a9], [], rfl, ⟨[ia b0], [ib a9], rfl, rfl, ⟨[ib a9], [], rfl, rfl, rfl⟩⟩, rfl⟩)) ?_)
       intro d4 w hS
       have hC := hC.again ⟨_, _, hS.re [2] [] rfl sub_self⟩
       refine ⟨hC, ?_⟩
       refine ED.one 10 2 (bm 13 2047) (by kernel_rfl) (by kernel_rfl) (by kernel_rfl) (EO.append hS 56 56 59 16 1 kS59 c9 d3 (a0.getD (IntKind.i64.wrap ((a0.length : Int) - 1)).toNat []) rfl (some ⟨d4, 0, none⟩) 1 b4 (Rd.own 0 59 rfl) d7 i0 (fun g2 g6 => Ass.own 59 kS59 (some ⟨d4, 0, none⟩) 1 b4 :: Ass.own 59 kS59 g2 g6 d7 :: Ass.box 59 a8 [ia b0, ib a9] :: Ass.holed 56 59 kS59 (some a7) a3 a0 (IntKind.i64.wrap ((a0.length : Int) - 1)).toNat (c9, (a0.getD (IntKind.i64.wrap ((a0.length : Int) - 1)).toNat []).length, d3) :: os) 50 (by kernel_rfl) (by kernel_rfl) (by kernel_rfl) (by kernel_rfl) g9 (fun _ _ => rfl) ?_)
       intro g2 g6 w hS
       have hC := hC.again ⟨_, _, hS.re [2] [] rfl sub_self⟩
       refine ⟨hC, ?_⟩
       refine ED.Y hN hF hC 11 1 (bm 13 4095) (by kernel_rfl) (by kernel_rfl) rfl (fun _ _ _ hS => YO.idx 26 1 a7 a0.length a3 .i64 (IntKind.i64.wrap ((a0.length : Int) - 1)) 51 (by kernel_rfl) (by kernel_rfl) (by kernel_rfl) (by kernel_rfl) b5 d6) ?_
       refine ED.one 12 0 (bm 13 8191) (by kernel_rfl) (by kernel_rfl) (by kernel_rfl) (EO.closeEl hS 1 2 a7 (IntKind.i64.wrap ((a0.length : Int) - 1)) rfl rfl b5 b2 e8 (Ass.own 59 kS59 (some ⟨d4, 0, none⟩) 1 b4 :: Ass.box 59 a8 [ia b0, ib a9] :: Ass.deep 56 59 kS59 (some a7) a3 b2 :: os) 56 (by kernel_rfl) (by kernel_rfl) (by kernel_rfl) (by kernel_rfl) rfl ?_)
       intro w hS
       have hC := hC.again ⟨_, _, hS.re [1] [] rfl sub_self⟩
       refine ⟨hC, ?_⟩
       refine ED.keep [0, 5, 6, 8, 11, 40, 42, 43, 45, 46, 48, 49, 51] [(0, .string a1), (5, sv (some a7) a3 a0), (6, ia a4), (8, ia a2), (11, pt a8 0), (40, sv (some a7) a3 a0), (42, ia (IntKind.i64.wrap ((a0.length : Int) - 1))), (43, sv (some a7) a3 a0), (45, ia (IntKind.i64.wrap ((a0.length : Int) - 1))), (46, .pointer (some ((a7.add ((IntKind.i64.wrap ((a0.length : Int) - 1)).toNat * 1)).add 0))), (48, ag [ia b0, ib a9]), (49, sv (some ⟨d4, 0, none⟩) 1 b4), (51, .pointer (some ((a7.add ((IntKind.i64.wrap ((a0.length : Int) - 1)).toNat * 1)).add 0)))] (by kernel_rfl) ?_
       refine ED.as' [(0, .string a1), (5, sv (some a7) a3 b2), (6, ia a4), (8, ia a2), (11, pt a8 0), (40, sv (some a7) a3 b2), (42, ia (IntKind.i64.wrap ((a0.length : Int) - 1))), (43, sv (some a7) a3 b2), (45, ia (IntKind.i64.wrap ((a0.length : Int) - 1))), (46, .pointer (some ((a7.add ((IntKind.i64.wrap ((a0.length : Int) - 1)).toNat * 1)).add 0))), (48, ag [ia b0, ib a9]), (49, sv (some ⟨d4, 0, none⟩) 1 b4), (51, .pointer (some ((a7.add ((IntKind.i64.wrap ((a0.length : Int) - 1)).toNat * 1)).add 0)))] (by simp only [sv, e8, List.length_set]) ?_
       refine ED.done (by kernel_rfl) ?_
       refine EQ.to ?_
       refine EQ.keep [0, 5, 6, 8] [(0, .string a1), (5, sv (some a7) a3 b2), (6, ia a4), (8, ia a2)] (by kernel_rfl) ?_
       exact fun a ha => ⟨(some ⟨d4, 0, none⟩), 1, ha, (hS.re [2, 2, 2] [] rfl (sub_self))⟩
      ·refine EO.lit hS kS59 59 56 1 #[(0, ag [ia b0, ib a9])] [ia b0, ib a9] b4 49 (by kernel_rfl) (by kernel_rfl) (by kernel_rfl) (fun _ => (by kernel_rfl)) (by rw [e7]; rfl) (by kernel_rfl) (fun w G hr => (by rw [e7]; exact ⟨[ia b0, ib a9], [], rfl, ⟨[ia b0], [ib a9], rfl, rfl, ⟨[ib a9], [], rfl, rfl, rfl⟩⟩, rfl⟩)) ?_
       intro d5 w hS
       have hC := hC.again ⟨_, _, hS.re [2] [] rfl sub_self⟩
       refine ⟨hC, ?_⟩
       refine ED.at' (bm 13 895) (by kernel_rfl) ?_
       refine ED.one 7 3 (bm 13 1023) (by kernel_rfl) (by kernel_rfl) (by kernel_rfl) (EO.Y (YO.loadHole hS 3 a7 (j := (IntKind.i64.wrap ((a0.length : Int) - 1))) rfl b5 56 47 (by kernel_rfl) (by kernel_rfl) (by kernel_rfl) (by kernel_rfl)) ?_)
       have hC := hC.again ⟨_, _, hS.re [2] [] rfl sub_self⟩
       refine ⟨hC, ?_⟩
       refine ED.one 10 2 (bm 13 2047) (by kernel_rfl) (by kernel_rfl) (by kernel_rfl) (EO.append hS 56 56 59 16 1 kS59 c9 d3 (a0.getD (IntKind.i64.wrap ((a0.length : Int) - 1)).toNat []) rfl (some ⟨d5, 0, none⟩) 1 b4 (Rd.own 0 59 rfl) d7 i0 (fun g3 g7 => Ass.own 59 kS59 (some ⟨d5, 0, none⟩) 1 b4 :: Ass.own 59 kS59 g3 g7 d7 :: Ass.box 59 a8 [ia b0, ib a9] :: Ass.holed 56 59 kS59 (some a7) a3 a0 (IntKind.i64.wrap ((a0.length : Int) - 1)).toNat (c9, (a0.getD (IntKind.i64.wrap ((a0.length : Int) - 1)).toNat []).length, d3) :: os) 50 (by kernel_rfl) (by kernel_rfl) (by kernel_rfl) (by kernel_rfl) g9 (fun _ _ => rfl) ?_)
       intro g3 g7 w hS
       have hC := hC.again ⟨_, _, hS.re [2] [] rfl sub_self⟩
       refine ⟨hC, ?_⟩
       refine ED.Y hN hF hC 11 1 (bm 13 4095) (by kernel_rfl) (by kernel_rfl) rfl (fun _ _ _ hS => YO.idx 26 1 a7 a0.length a3 .i64 (IntKind.i64.wrap ((a0.length : Int) - 1)) 51 (by kernel_rfl) (by kernel_rfl) (by kernel_rfl) (by kernel_rfl) b5 d6) ?_
       refine ED.one 12 0 (bm 13 8191) (by kernel_rfl) (by kernel_rfl) (by kernel_rfl) (EO.closeEl hS 1 2 a7 (IntKind.i64.wrap ((a0.length : Int) - 1)) rfl rfl b5 b2 e8 (Ass.own 59 kS59 (some ⟨d5, 0, none⟩) 1 b4 :: Ass.box 59 a8 [ia b0, ib a9] :: Ass.deep 56 59 kS59 (some a7) a3 b2 :: os) 56 (by kernel_rfl) (by kernel_rfl) (by kernel_rfl) (by kernel_rfl) rfl ?_)
       intro w hS
       have hC := hC.again ⟨_, _, hS.re [1] [] rfl sub_self⟩
       refine ⟨hC, ?_⟩
       refine ED.keep [0, 5, 6, 8, 11, 40, 42, 43, 45, 46, 48, 49, 51] [(0, .string a1), (5, sv (some a7) a3 a0), (6, ia a4), (8, ia a2), (11, pt a8 0), (40, sv (some a7) a3 a0), (42, ia (IntKind.i64.wrap ((a0.length : Int) - 1))), (43, sv (some a7) a3 a0), (45, ia (IntKind.i64.wrap ((a0.length : Int) - 1))), (46, .pointer (some ((a7.add ((IntKind.i64.wrap ((a0.length : Int) - 1)).toNat * 1)).add 0))), (48, ag [ia b0, ib a9]), (49, sv (some ⟨d5, 0, none⟩) 1 b4), (51, .pointer (some ((a7.add ((IntKind.i64.wrap ((a0.length : Int) - 1)).toNat * 1)).add 0)))] (by kernel_rfl) ?_
       refine ED.as' [(0, .string a1), (5, sv (some a7) a3 b2), (6, ia a4), (8, ia a2), (11, pt a8 0), (40, sv (some a7) a3 b2), (42, ia (IntKind.i64.wrap ((a0.length : Int) - 1))), (43, sv (some a7) a3 b2), (45, ia (IntKind.i64.wrap ((a0.length : Int) - 1))), (46, .pointer (some ((a7.add ((IntKind.i64.wrap ((a0.length : Int) - 1)).toNat * 1)).add 0))), (48, ag [ia b0, ib a9]), (49, sv (some ⟨d5, 0, none⟩) 1 b4), (51, .pointer (some ((a7.add ((IntKind.i64.wrap ((a0.length : Int) - 1)).toNat * 1)).add 0)))] (by simp only [sv, e8, List.length_set]) ?_
       refine ED.done (by kernel_rfl) ?_
       refine EQ.to ?_
       refine EQ.keep [0, 5, 6, 8] [(0, .string a1), (5, sv (some a7) a3 b2), (6, ia a4), (8, ia a2)] (by kernel_rfl) ?_
       exact fun a ha => ⟨(some ⟨d5, 0, none⟩), 1, ha, (hS.re [2, 2, 2] [] rfl (sub_self))⟩
     ·obtain ⟨g1, g5, ha, hS⟩ := hI
      refine EQ.at ?_ a ha
      clear ha a
      refine EQ.pop ?_
      refine EQ.to ?_
      refine EQ.keep [0, 5, 6, 8] [(0, .string a1), (5, sv (some a7) a3 b2), (6, ia a4), (8, ia a2)] (by kernel_rfl) ?_
      exact fun a ha => ⟨b2, (some a7), a3, ha, (hS.re [2, 2] [2] rfl (sub_self)), H⟩
    obtain ⟨c0, c8, d2, ha, hS, H⟩ := hI
    rw [i7] at H
    (try dsimp only at H)
    refine EW.at ?_ a ha
    clear ha a
    refine EW.rg (by kernel_rfl) ?_
    refine EL.quick 6 [0, 5, 6, 7, 8] [(0, .string a1), (5, sv c8 d2 c0), (6, ia (IntKind.i64.wrap (a4 + 1))), (7, ia (IntKind.i64.wrap (a2 + 1))), (8, ia a2)] (by kernel_rfl) ?_
    refine EL.done (by kernel_rfl) ?_
    refine EQ.pop ?_
    refine EQ.to ?_
    refine EQ.keep [0, 5, 6, 7, 8] [(0, .string a1), (5, sv c8 d2 c0), (6, ia (IntKind.i64.wrap (a4 + 1))), (7, ia (IntKind.i64.wrap (a2 + 1))), (8, ia a2)] (by kernel_rfl) ?_
    exact fun a ha => ⟨c0, IntKind.i64.wrap (a4 + 1), IntKind.i64.wrap (a2 + 1), c8, d2, ha, (hS.re [1] [1] rfl (sub_self)), H⟩
   obtain ⟨b9, c2, c3, c7, d1, ha, hS, H⟩ := hI
   rw [i5] at H
   (try dsimp only at H)
   refine EW.at ?_ a ha
   clear ha a
   refine EW.rg (by kernel_rfl) ?_
   refine EL.quick 3 [0, 5, 6, 7, 8] [(0, .string a1), (5, sv c7 d1 b9), (6, ia c2), (7, ia c3), (8, ia (IntKind.i64.wrap (a2 + 1)))] (by kernel_rfl) ?_
   refine EL.done (by kernel_rfl) ?_
   refine EQ.to ?_
   refine EQ.keep [0, 5, 6, 7, 8] [(0, .string a1), (5, sv c7 d1 b9), (6, ia c2), (7, ia c3), (8, ia (IntKind.i64.wrap (a2 + 1)))] (by kernel_rfl) ?_
   exact fun a ha => ⟨n, Nat.lt_succ_self n, b9, c2, c3, IntKind.i64.wrap (a2 + 1), c7, d1, ha, (hS.re [0] [] rfl (sub_self)), H⟩
  rw [if_neg f3] at H
  refine EW.exit (id := 0) (by kernel_rfl) ?_
  refine EQ.exitCode ?_
  refine EQ.exitTo ?_
  refine EQ.exitHere ?_
  refine EQ.to ?_
  refine EQ.keep [5] [(5, sv a5 a3 a0)] (by kernel_rfl) ?_
  exact fun a ha => ⟨a0, a5, a3, ha, (hS.re [0] [] rfl (sub_self)), H⟩
 obtain ⟨c1, c6, d0, ha, hS, H⟩ := hI
 rw [i4] at H
 (try dsimp only at H)
 refine EW.at ?_ a ha
 clear ha a
 refine EW.sq (by kernel_rfl) ?_
 refine EW.rg (by kernel_rfl) ?_
 refine EL.quick 4 [2, 3, 4] [(2, sv c6 d0 c1), (3, ia 0), (4, ia 0)] (by kernel_rfl) ?_
 refine EL.done (by kernel_rfl) ?_
 refine EQ.code ?_
 refine EW.ret (by kernel_rfl) ?_
 simp only [sv, Option.some.injEq, Prod.mk.injEq] at H
 obtain ⟨rfl, rfl, rfl⟩ := H
 exact EQ.leave (.tuple #[sv c6 d0 c1, ia 0, ia 0]) (by kernel_rfl) ⟨_, rfl, c6, d0, rfl, (hS.re [0] [] rfl (sub_self))⟩

end Go.Proofs.YtiilloijkbabbaaGreatDoor.G
