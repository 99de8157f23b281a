import Derived.Test.YtiilloijkbabbaaGreatDoorProg
import Derived.Test.YtiilloijkbabbaaGreatDoorFwShort
import Derived.Test.YtiilloijkbabbaaGreatDoorFwOpen
import Derived.Test.YtiilloijkbabbaaGreatDoorDoor
import Derived.Test.YtiilloijkbabbaaGreatDoorFwStr
import Derived.Test.YtiilloijkbabbaaGreatDoorG0
import Derived.Test.YtiilloijkbabbaaGreatDoorG1
import Derived.Test.YtiilloijkbabbaaGreatDoorG2
namespace Go.Proofs.YtiilloijkbabbaaGreatDoor.G
open Go Go.Fw Go.RowKit Go.Proofs
set_option linter.unusedVariables false
set_option linter.unusedSimpArgs false

/-! ### confidant/confidantlaw7.ImageLines: function 3 -/
def confidantlaw7_ImageLines.l0 (K : Nat) (a0 : ByteArray) (c0 : Int → Option Bool) : Nat → Int → Int → Option Bool
 | 0, _, _ => none
 | n + 1, b2, a5 => if a5 < (a0.size : Int) then (lt (fun (b9 : Int) => (confidantlaw7_ImageLines.l0 K a0 c0 n b9 (IntKind.i64.wrap (a5 + 1)))) fun d1 => (if 0 ≤ a5 then (if (sAt a0 a5) = 10 then (d1 (IntKind.i64.wrap (b2 + 1))) else (d1 b2)) else none)) else (c0 b2)
def confidantlaw7_ImageLines.f (K : Nat) (l6 : List Int) (a9 : Int) (a10 : Bool) : Option Bool := b1 (confidantlaw7_known.f K) fun (c4 : Bool) => (if c4 = true then (if (l6.length : Int) > 40 then (some true) else (b1 (confidantseat_Code.f K l6 3 2 1 false) fun (b8 : List (List S59)) => (b1 (confidantref5_ImageText.f K b8) fun (a0 : ByteArray) => (lt (fun (b6 : Int) => (lt (fun (b0 : ByteArray) (a7 : Int) => (lt ([(⟨#[112, 117, 115, 104]⟩ : ByteArray), (⟨#[114, 101, 116, 32, 48]⟩ : ByteArray), (⟨#[80, 117, 115, 104, 32, 49]⟩ : ByteArray), (⟨#[32, 112, 117, 115, 104, 32, 49]⟩ : ByteArray), (⟨#[112, 117, 115, 104, 32, 48, 49]⟩ : ByteArray), (⟨#[112, 117, 115, 104, 32, 50, 49, 52, 55, 52, 56, 51, 54, 52, 56]⟩ : ByteArray), (⟨#[106, 117, 109, 112, 32, 45, 49]⟩ : ByteArray), (⟨#[102, 117, 110, 99, 32]⟩ : ByteArray), (⟨#[102, 111, 114, 107]⟩ : ByteArray), (⟨#[108, 111, 97, 100, 32, 120]⟩ : ByteArray)] : List ByteArray) fun b4 => (if 0 ≤ (Int.tmod a9 10) then (if (Int.tmod a9 10) < (b4.length : Int) then (if b0.size + (b4.getD (Int.tmod a9 10).toNat ⟨#[]⟩).size ≤ 9223372036854775807 then (if (b0 ++ (b4.getD (Int.tmod a9 10).toNat ⟨#[]⟩)).size + (⟨#[10, 114, 101, 116]⟩ : ByteArray).size ≤ 9223372036854775807 then (b3 (image_Parse.f K ((b0 ++ (b4.getD (Int.tmod a9 10).toNat ⟨#[]⟩)) ++ (⟨#[10, 114, 101, 116]⟩ : ByteArray))) fun (b7 : List (List S59)) (b5 : Int) (a8 : Int) => (b3 (image_Parse.f K b0) fun (a1 : List (List S59)) (a2 : Int) (a6 : Int) => (if (b7.length : Int) = 0 then (if b5 = a7 then (if a8 = 24 then (if a6 = 0 then (if a2 = 0 then (some (decide ((a1.length : Int) = 2))) else (some false)) else (some false)) else (some false)) else (some false)) else (some false)))) else none) else none) else none) else none))) fun d2 => (if a10 = true then (if a0.size + (⟨#[10]⟩ : ByteArray).size ≤ 9223372036854775807 then (d2 (a0 ++ (⟨#[10]⟩ : ByteArray)) (IntKind.i64.wrap (b6 + 1))) else none) else (d2 a0 b6)))) fun c0 => (confidantlaw7_ImageLines.l0 K a0 c0 K 0 0))))) else (some false))
set_option maxRecDepth 100000 in
theorem confidantlaw7_ImageLines.calls {K : Nat} {l6 : List Int} {a9 : Int} {a10 : Bool} {A7 : Option Addr} {C8 : Nat} {c3 : Bool} {B w : World} {os : List Ass} {rs : List Ro} (H : confidantlaw7_ImageLines.f K l6 a9 a10 = some c3) (hS : St B w (os) (Ro.sl (Kd.int .u8) A7 C8 l6 :: rs)) (gB : Glob B) :
  Calls Tryz.prog 3 [sv A7 C8 l6, ig a9, .bool (a10)].toArray w (fun en w' => ∃ v, en = .returned v ∧ v = .bool (c3) ∧ St B w' (os) (Ro.sl (Kd.int .u8) A7 C8 l6 :: rs)) := by
 unfold confidantlaw7_ImageLines.f at H
 refine calls_of_EW (args := [sv A7 C8 l6, ig a9, .bool (a10)]) (c := Cd3) 87 Tryz.func3 (by kernel_rfl) (by kernel_rfl) (by kernel_rfl) ?_
 refine EW.sq (by kernel_rfl) ?_
 refine EW.rg (by kernel_rfl) ?_
 refine EL.quick 1 [0, 1, 2] [(0, sv A7 C8 l6), (1, ig a9), (2, .bool (a10))] (by kernel_rfl) ?_
 refine EL.done (by kernel_rfl) ?_
 refine EQ.code ?_
 refine EW.sq (by kernel_rfl) ?_
 refine EW.sq (by kernel_rfl) ?_
 refine EW.rg (by kernel_rfl) ?_
 obtain ⟨c4, e7, H⟩ := b1_out H
 have hq := confidantlaw7_known.calls e7 hS gB
 refine EL.of (EO.callD 6 [] _ 17 (by kernel_rfl) (by kernel_rfl) (by kernel_rfl) hq ?_)
 rintro v w ⟨rfl, hS⟩
 refine EL.quick 1 [0, 1, 2, 18] [(0, sv A7 C8 l6), (1, ig a9), (2, .bool (a10)), (18, .bool (!(c4)))] (by kernel_rfl) ?_
 refine EL.done (by kernel_rfl) ?_
 refine EQ.code ?_
 refine EW.cdQ (b := !(c4)) (c4 = true) (false) (by kernel_rfl) (by kernel_rfl) ⟨fun h => (by rw [h] <;> rfl), fun h => (by rw [Bool.eq_false_iff.2 h] <;> rfl)⟩ (fun d6 => ?_) (fun d6 => ?_)
 ·rw [if_pos d6] at H
  refine EW.skip (by kernel_rfl) ?_
  refine EQ.code ?_
  refine EW.sq (by kernel_rfl) ?_
  refine EW.sq (by kernel_rfl) ?_
  refine EW.rg (by kernel_rfl) ?_
  refine EL.quick 3 [0, 1, 2, 21] [(0, sv A7 C8 l6), (1, ig a9), (2, .bool (a10)), (21, .bool (decide ((l6.length : Int) > 40)))] (by kernel_rfl) ?_
  refine EL.done (by kernel_rfl) ?_
  refine EQ.code ?_
  refine EW.cdP ((l6.length : Int) > 40) (by kernel_rfl) (by kernel_rfl) (fun d7 => ?_) (fun d7 => ?_)
  ·rw [if_pos d7] at H
   refine EW.sq (by kernel_rfl) ?_
   refine EW.rg (by kernel_rfl) ?_
   refine EL.quick 1 [6] [(6, .bool (true))] (by kernel_rfl) ?_
   refine EL.done (by kernel_rfl) ?_
   refine EQ.code ?_
   refine EW.ret (by kernel_rfl) ?_
   refine EQ.ret ?_
   obtain rfl := Option.some.inj H
   exact EQ.leave (.bool (true)) (by kernel_rfl) ⟨_, rfl, rfl, (hS.re [] [] rfl (sub_self))⟩
  rw [if_neg d7] at H
  refine EW.skip (by kernel_rfl) ?_
  refine EQ.code ?_
  refine EW.sq (by kernel_rfl) ?_
  refine EW.rg (by kernel_rfl) ?_
  refine EL.quick 1 [1, 2, 22] [(1, ig a9), (2, .bool (a10)), (22, sv A7 C8 l6)] (by kernel_rfl) ?_
  have hS : St B _ (os) (Ro.sl (Kd.int .u8) A7 C8 l6 :: rs) := hS.re [] [] rfl (sub_cons 0 rfl (sub_tail (sub_self)))
  obtain ⟨b8, e8, H⟩ := b1_out H
  have hq := confidantseat_Code.calls e8 hS
  refine EL.of (EO.callD 8 [sv A7 C8 l6, ia 3, ia 2, ia 1, .bool (false)] _ 23 (by kernel_rfl) (by kernel_rfl) (by kernel_rfl) hq ?_)
  rintro v w ⟨c1, c2, rfl, hS⟩
  have hS := St.frDeep hS 0 rfl
  have hS : St B _ (os) (Ro.sl (Kd.slice kS59) c1 c2 b8 :: Ro.sl (Kd.int .u8) A7 C8 l6 :: rs) := hS.re [] [] rfl (sub_cons 0 rfl (sub_tail (sub_self)))
  obtain ⟨a0, e9, H⟩ := b1_out H
  have hq := confidantref5_ImageText.calls e9 hS
  refine EL.of (EO.callD 7 [sv c1 c2 b8] _ 24 (by kernel_rfl) (by kernel_rfl) (by kernel_rfl) hq ?_)
  rintro v w ⟨rfl, hS⟩
  refine EL.quick 1 [1, 2, 7] [(1, ig a9), (2, .bool (a10)), (7, .string a0)] (by kernel_rfl) ?_
  refine EL.done (by kernel_rfl) ?_
  refine EQ.code ?_
  refine EW.sq (by kernel_rfl) ?_
  refine EW.rg (by kernel_rfl) ?_
  refine EL.quick 1 [1, 2, 7, 8] [(1, ig a9), (2, .bool (a10)), (7, .string a0), (8, ia 0)] (by kernel_rfl) ?_
  refine EL.done (by kernel_rfl) ?_
  refine EQ.code ?_
  obtain ⟨c0, f2, H⟩ := lt_out H
  refine EW.ct (fun a w => ∃ b6 : Int, Sat 87 [(1, ig a9), (2, .bool (a10)), (7, .string a0), (8, ia b6)] a ∧ St B w (os) (Ro.sl (Kd.slice kS59) c1 c2 b8 :: Ro.sl (Kd.int .u8) A7 C8 l6 :: rs) ∧ c0 b6 = some c3) (by kernel_rfl) ?_ (fun a w hI => ?_)
  ·refine EW.sq (by kernel_rfl) ?_
   refine EW.rg (by kernel_rfl) ?_
   refine EL.quick 1 [1, 2, 7, 8, 9] [(1, ig a9), (2, .bool (a10)), (7, .string a0), (8, ia 0), (9, ia 0)] (by kernel_rfl) ?_
   refine EL.done (by kernel_rfl) ?_
   refine EQ.code ?_
   refine EW.bl 0 (by kernel_rfl) ?_
   refine EW.lp (fun n a w => ∃ b2 : Int, ∃ a5 : Int, Sat 87 [(1, ig a9), (2, .bool (a10)), (7, .string a0), (8, ia b2), (9, ia a5)] a ∧ St B w (os) (Ro.sl (Kd.slice kS59) c1 c2 b8 :: Ro.sl (Kd.int .u8) A7 C8 l6 :: rs) ∧ confidantlaw7_ImageLines.l0 K a0 c0 n b2 a5 = some c3) K (by kernel_rfl) ?_ (fun n a w hI => ?_)
   ·refine EQ.keep [1, 2, 7, 8, 9] [(1, ig a9), (2, .bool (a10)), (7, .string a0), (8, ia 0), (9, ia 0)] (by kernel_rfl) ?_
    exact fun a ha => ⟨0, 0, ha, (hS.re [] [] rfl (sub_cons 0 rfl (sub_cons 1 rfl (sub_tail (sub_tail (sub_self)))))), H⟩
   obtain ⟨b2, a5, ha, hS, H⟩ := hI
   obtain _ | n := n
   ·simp [confidantlaw7_ImageLines.l0] at H
   rw [confidantlaw7_ImageLines.l0.eq_2] at H
   refine EW.at ?_ a ha
   clear ha a
   refine EW.sq (by kernel_rfl) ?_
   refine EW.sq (by kernel_rfl) ?_
   refine EW.rg (by kernel_rfl) ?_
   refine EL.quick 4 [1, 2, 7, 8, 9, 28] [(1, ig a9), (2, .bool (a10)), (7, .string a0), (8, ia b2), (9, ia a5), (28, .bool (decide (a5 < (a0.size : Int))))] (by kernel_rfl) ?_
   refine EL.done (by kernel_rfl) ?_
   refine EQ.code ?_
   refine EW.cdP (a5 < (a0.size : Int)) (by kernel_rfl) (by kernel_rfl) (fun c5 => ?_) (fun c5 => ?_)
   ·rw [if_pos c5] at H
    refine EW.skip (by kernel_rfl) ?_
    refine EQ.code ?_
    obtain ⟨d1, f3, H⟩ := lt_out H
    refine EW.ct (fun a w => ∃ b9 : Int, Sat 87 [(1, ig a9), (2, .bool (a10)), (7, .string a0), (8, ia b9), (9, ia a5)] a ∧ St B w (os) (Ro.sl (Kd.slice kS59) c1 c2 b8 :: Ro.sl (Kd.int .u8) A7 C8 l6 :: rs) ∧ d1 b9 = some c3) (by kernel_rfl) ?_ (fun a w hI => ?_)
    ·refine EW.bl 1 (by kernel_rfl) ?_
     refine EW.sq (by kernel_rfl) ?_
     refine EW.rg (by kernel_rfl) ?_
     refine EL.quick 2 [1, 2, 7, 8, 9, 31, 32] [(1, ig a9), (2, .bool (a10)), (7, .string a0), (8, ia b2), (9, ia a5), (31, .string a0), (32, ia a5)] (by kernel_rfl) ?_
     obtain ⟨e3, H⟩ := ite_in H
     refine EL.of (EO.Y (YO.strIdx a0 9 .i64 a5 33 (by kernel_rfl) (by kernel_rfl) (by kernel_rfl) (by kernel_rfl) e3 c5) ?_)
     refine EL.quick 1 [1, 2, 7, 8, 9, 34] [(1, ig a9), (2, .bool (a10)), (7, .string a0), (8, ia b2), (9, ia a5), (34, .bool (decide ((sAt a0 a5) = 10)))] (by kernel_rfl) ?_
     refine EL.done (by kernel_rfl) ?_
     refine EQ.code ?_
     refine EW.cdP ((sAt a0 a5) = 10) (by kernel_rfl) (by kernel_rfl) (fun d8 => ?_) (fun d8 => ?_)
     ·rw [if_pos d8] at H
      refine EW.rg (by kernel_rfl) ?_
      refine EL.quick 3 [1, 2, 7, 8, 9] [(1, ig a9), (2, .bool (a10)), (7, .string a0), (8, ia (IntKind.i64.wrap (b2 + 1))), (9, ia a5)] (by kernel_rfl) ?_
      refine EL.done (by kernel_rfl) ?_
      refine EQ.pop ?_
      refine EQ.to ?_
      refine EQ.keep [1, 2, 7, 8, 9] [(1, ig a9), (2, .bool (a10)), (7, .string a0), (8, ia (IntKind.i64.wrap (b2 + 1))), (9, ia a5)] (by kernel_rfl) ?_
      exact fun a ha => ⟨IntKind.i64.wrap (b2 + 1), ha, (hS.re [] [] rfl (sub_cons 0 rfl (sub_cons 1 rfl (sub_tail (sub_tail (sub_self)))))), H⟩
     rw [if_neg d8] at H
     refine EW.skip (by kernel_rfl) ?_
     refine EQ.pop ?_
     refine EQ.to ?_
     refine EQ.keep [1, 2, 7, 8, 9] [(1, ig a9), (2, .bool (a10)), (7, .string a0), (8, ia b2), (9, ia a5)] (by kernel_rfl) ?_
     exact fun a ha => ⟨b2, ha, (hS.re [] [] rfl (sub_cons 0 rfl (sub_cons 1 rfl (sub_tail (sub_tail (sub_self)))))), H⟩
    obtain ⟨b9, ha, hS, H⟩ := hI
    rw [f3] at H
    (try dsimp only at H)
    refine EW.at ?_ a ha
    clear ha a
    refine EW.rg (by kernel_rfl) ?_
    refine EL.quick 3 [1, 2, 7, 8, 9] [(1, ig a9), (2, .bool (a10)), (7, .string a0), (8, ia b9), (9, ia (IntKind.i64.wrap (a5 + 1)))] (by kernel_rfl) ?_
    refine EL.done (by kernel_rfl) ?_
    refine EQ.to ?_
    refine EQ.keep [1, 2, 7, 8, 9] [(1, ig a9), (2, .bool (a10)), (7, .string a0), (8, ia b9), (9, ia (IntKind.i64.wrap (a5 + 1)))] (by kernel_rfl) ?_
    exact fun a ha => ⟨n, Nat.lt_succ_self n, b9, IntKind.i64.wrap (a5 + 1), ha, (hS.re [] [] rfl (sub_cons 0 rfl (sub_cons 1 rfl (sub_tail (sub_tail (sub_self)))))), H⟩
   rw [if_neg c5] at H
   refine EW.exit (id := 0) (by kernel_rfl) ?_
   refine EQ.exitCode ?_
   refine EQ.exitTo ?_
   refine EQ.exitHere ?_
   refine EQ.to ?_
   refine EQ.keep [1, 2, 7, 8] [(1, ig a9), (2, .bool (a10)), (7, .string a0), (8, ia b2)] (by kernel_rfl) ?_
   exact fun a ha => ⟨b2, ha, (hS.re [] [] rfl (sub_cons 0 rfl (sub_cons 1 rfl (sub_tail (sub_tail (sub_self)))))), H⟩
  obtain ⟨b6, ha, hS, H⟩ := hI
  rw [f2] at H
  (try dsimp only at H)
  refine EW.at ?_ a ha
  clear ha a
  obtain ⟨d2, f4, H⟩ := lt_out H
  refine EW.ct (fun a w => ∃ b0 : ByteArray, ∃ a7 : Int, Sat 87 [(1, ig a9), (7, .string b0), (8, ia a7)] a ∧ St B w (os) (Ro.sl (Kd.slice kS59) c1 c2 b8 :: Ro.sl (Kd.int .u8) A7 C8 l6 :: rs) ∧ d2 b0 a7 = some c3) (by kernel_rfl) ?_ (fun a w hI => ?_)
  ·refine EW.sq (by kernel_rfl) ?_
   refine EW.rg (by kernel_rfl) ?_
   refine EL.quick 1 [1, 7, 8, 37] [(1, ig a9), (7, .string a0), (8, ia b6), (37, .bool (a10))] (by kernel_rfl) ?_
   refine EL.done (by kernel_rfl) ?_
   refine EQ.code ?_
   refine EW.cdP' (a10) (by kernel_rfl) (by kernel_rfl) (fun d9 => ?_) (fun d9 => ?_)
   ·rw [if_pos d9] at H
    refine EW.rg (by kernel_rfl) ?_
    refine EL.quick 1 [1, 8, 38] [(1, ig a9), (8, ia b6), (38, .string a0)] (by kernel_rfl) ?_
    obtain ⟨e4, H⟩ := ite_in H
    refine EL.of (EO.Y (YO.strCat a0 (⟨#[10]⟩ : ByteArray) 39 (by kernel_rfl) (by kernel_rfl) (by kernel_rfl) e4) ?_)
    refine EL.quick 4 [1, 7, 8] [(1, ig a9), (7, .string (a0 ++ (⟨#[10]⟩ : ByteArray))), (8, ia (IntKind.i64.wrap (b6 + 1)))] (by kernel_rfl) ?_
    refine EL.done (by kernel_rfl) ?_
    refine EQ.to ?_
    refine EQ.keep [1, 7, 8] [(1, ig a9), (7, .string (a0 ++ (⟨#[10]⟩ : ByteArray))), (8, ia (IntKind.i64.wrap (b6 + 1)))] (by kernel_rfl) ?_
    exact fun a ha => ⟨(a0 ++ (⟨#[10]⟩ : ByteArray)), IntKind.i64.wrap (b6 + 1), ha, (hS.re [] [] rfl (sub_cons 0 rfl (sub_cons 1 rfl (sub_tail (sub_tail (sub_self)))))), H⟩
   rw [if_neg d9] at H
   refine EW.skip (by kernel_rfl) ?_
   refine EQ.to ?_
   refine EQ.keep [1, 7, 8] [(1, ig a9), (7, .string a0), (8, ia b6)] (by kernel_rfl) ?_
   exact fun a ha => ⟨a0, b6, ha, (hS.re [] [] rfl (sub_cons 0 rfl (sub_cons 1 rfl (sub_tail (sub_tail (sub_self)))))), H⟩
  obtain ⟨b0, a7, ha, hS, H⟩ := hI
  rw [f4] at H
  (try dsimp only at H)
  refine EW.at ?_ a ha
  clear ha a
  refine EW.sq (by kernel_rfl) ?_
  refine EW.rg (by kernel_rfl) ?_
  obtain ⟨b4, e2, H⟩ := lt_out H
  refine EL.of (EO.lit hS Kd.str 9 28 10 #[(0, .string (⟨#[112, 117, 115, 104]⟩ : ByteArray)), (1, .string (⟨#[114, 101, 116, 32, 48]⟩ : ByteArray)), (2, .string (⟨#[80, 117, 115, 104, 32, 49]⟩ : ByteArray)), (3, .string (⟨#[32, 112, 117, 115, 104, 32, 49]⟩ : ByteArray)), (4, .string (⟨#[112, 117, 115, 104, 32, 48, 49]⟩ : ByteArray)), (5, .string (⟨#[112, 117, 115, 104, 32, 50, 49, 52, 55, 52, 56, 51, 54, 52, 56]⟩ : ByteArray)), (6, .string (⟨#[106, 117, 109, 112, 32, 45, 49]⟩ : ByteArray)), (7, .string (⟨#[102, 117, 110, 99, 32]⟩ : ByteArray)), (8, .string (⟨#[102, 111, 114, 107]⟩ : ByteArray)), (9, .string (⟨#[108, 111, 97, 100, 32, 120]⟩ : ByteArray))] [.string (⟨#[112, 117, 115, 104]⟩ : ByteArray), .string (⟨#[114, 101, 116, 32, 48]⟩ : ByteArray), .string (⟨#[80, 117, 115, 104, 32, 49]⟩ : ByteArray), .string (⟨#[32, 112, 117, 115, 104, 32, 49]⟩ : ByteArray), .string (⟨#[112, 117, 115, 104, 32, 48, 49]⟩ : ByteArray), .string (⟨#[112, 117, 115, 104, 32, 50, 49, 52, 55, 52, 56, 51, 54, 52, 56]⟩ : ByteArray), .string (⟨#[106, 117, 109, 112, 32, 45, 49]⟩ : ByteArray), .string (⟨#[102, 117, 110, 99, 32]⟩ : ByteArray), .string (⟨#[102, 111, 114, 107]⟩ : ByteArray), .string (⟨#[108, 111, 97, 100, 32, 120]⟩ : ByteArray)] b4 42 (by kernel_rfl) (by kernel_rfl) (by kernel_rfl) (fun _ => (by kernel_rfl)) (by rw [e2]; rfl) (by kernel_rfl) (fun w G hr => (by rw [e2]; exact ⟨[.string (⟨#[112, 117, 115, 104]⟩ : ByteArray)], [.string (⟨#[114, 101, 116, 32, 48]⟩ : ByteArray), .string (⟨#[80, 117, 115, 104, 32, 49]⟩ : ByteArray), .string (⟨#[32, 112, 117, 115, 104, 32, 49]⟩ : ByteArray), .string (⟨#[112, 117, 115, 104, 32, 48, 49]⟩ : ByteArray), .string (⟨#[112, 117, 115, 104, 32, 50, 49, 52, 55, 52, 56, 51, 54, 52, 56]⟩ : ByteArray), .string (⟨#[106, 117, 109, 112, 32, 45, 49]⟩ : ByteArray), .string (⟨#[102, 117, 110, 99, 32]⟩ : ByteArray), .string (⟨#[102, 111, 114, 107]⟩ : ByteArray), .string (⟨#[108, 111, 97, 100, 32, 120]⟩ : ByteArray)], rfl, rfl, ⟨[.string (⟨#[114, 101, 116, 32, 48]⟩ : ByteArray)], [.string (⟨#[80, 117, 115, 104, 32, 49]⟩ : ByteArray), .string (⟨#[32, 112, 117, 115, 104, 32, 49]⟩ : ByteArray), .string (⟨#[112, 117, 115, 104, 32, 48, 49]⟩ : ByteArray), .string (⟨#[112, 117, 115, 104, 32, 50, 49, 52, 55, 52, 56, 51, 54, 52, 56]⟩ : ByteArray), .string (⟨#[106, 117, 109, 112, 32, 45, 49]⟩ : ByteArray), .string (⟨#[102, 117, 110, 99, 32]⟩ : ByteArray), .string (⟨#[102, 111, 114, 107]⟩ : ByteArray), .string (⟨#[108, 111, 97, 100, 32, 120]⟩ : ByteArray)], rfl, rfl, ⟨[.string (⟨#[80, 117, 115, 104, 32, 49]⟩ : ByteArray)], [.string (⟨#[32, 112, 117, 115, 104, 32, 49]⟩ : ByteArray), .string (⟨#[112, 117, 115, 104, 32, 48, 49]⟩ : ByteArray), .string (⟨#[112, 117, 115, 104, 32, 50, 49, 52, 55, 52, 56, 51, 54, 52, 56]⟩ : ByteArray), .string (⟨#[106, 117, 109, 112, 32, 45, 49]⟩ : ByteArray), .string (⟨#[102, 117, 110, 99, 32]⟩ : ByteArray), .string (⟨#[102, 111, 114, 107]⟩ : ByteArray), .string (⟨#[108, 111, 97, 100, 32, 120]⟩ : ByteArray)], rfl, rfl, ⟨[.string (⟨#[32, 112, 117, 115, 104, 32, 49]⟩ : ByteArray)], [.string (⟨#[112, 117, 115, 104, 32, 48, 49]⟩ : ByteArray), .string (⟨#[112, 117, 115, 104, 32, 50, 49, 52, 55, 52, 56, 51, 54, 52, 56]⟩ : ByteArray), .string (⟨#[106, 117, 109, 112, 32, 45, 49]⟩ : ByteArray), .string (⟨#[102, 117, 110, 99, 32]⟩ : ByteArray), .string (⟨#[102, 111, 114, 107]⟩ : ByteArray), .string (⟨#[108, 111, 97, 100, 32, 120]⟩ : ByteArray)], rfl, rfl, ⟨[.string (⟨#[112, 117, 115, 104, 32, 48, 49]⟩ : ByteArray)], [.string (⟨#[112, 117, 115, 104, 32, 50, 49, 52, 55, 52, 56, 51, 54, 52, 56]⟩ : ByteArray), .string (⟨#[106, 117, 109, 112, 32, 45, 49]⟩ : ByteArray), .string (⟨#[102, 117, 110, 99, 32]⟩ : ByteArray), .string (⟨#[102, 111, 114, 107]⟩ : ByteArray), .string (⟨#[108, 111, 97, 100, 32, 120]⟩ : ByteArray)], rfl, rfl, ⟨[.string (⟨#[112, 117, 115, 104, 32, 50, 49, 52, 55, 52, 56, 51, 54, 52, 56]⟩ : ByteArray)], [.string (⟨#[106, 117, 109, 112, 32, 45, 49]⟩ : ByteArray), .string (⟨#[102, 117, 110, 99, 32]⟩ : ByteArray), .string (⟨#[102, 111, 114, 107]⟩ : ByteArray), .string (⟨#[108, 111, 97, 100, 32, 120]⟩ : ByteArray)], rfl, rfl, ⟨[.string (⟨#[106, 117, 109, 112, 32, 45, 49]⟩ : ByteArray)], [.string (⟨#[102, 117, 110, 99, 32]⟩ : ByteArray), .string (⟨#[102, 111, 114, 107]⟩ : ByteArray), .string (⟨#[108, 111, 97, 100, 32, 120]⟩ : ByteArray)], rfl, rfl, ⟨[.string (⟨#[102, 117, 110, 99, 32]⟩ : ByteArray)], [.string (⟨#[102, 111, 114, 107]⟩ : ByteArray), .string (⟨#[108, 111, 97, 100, 32, 120]⟩ : ByteArray)], rfl, rfl, ⟨[.string (⟨#[102, 111, 114, 107]⟩ : ByteArray)], [.string (⟨#[108, 111, 97, 100, 32, 120]⟩ : ByteArray)], rfl, rfl, ⟨[.string (⟨#[108, 111, 97, 100, 32, 120]⟩ : ByteArray)], [], rfl, rfl, rfl⟩⟩⟩⟩⟩⟩⟩⟩⟩⟩)) ?_)
  intro d5 w hS
  refine EL.quick 2 [7, 8, 42, 44] [(7, .string b0), (8, ia a7), (42, sv (some ⟨d5, 0, none⟩) 10 b4), (44, ig (Int.tmod a9 10))] (by kernel_rfl) ?_
  obtain ⟨e0, H⟩ := ite_in H
  obtain ⟨e1, H⟩ := ite_in H
  refine EL.of (EO.Y (YO.idx 28 1 ⟨d5, 0, none⟩ b4.length 10 .u8 (Int.tmod a9 10) 45 (by kernel_rfl) (by kernel_rfl) (by kernel_rfl) (by kernel_rfl) e0 e1) ?_)
  refine EL.of (EO.Y (YO.loadEl hS Kd.str ⟨d5, 0, none⟩ 10 b4 (Rd.own 0 9 rfl) ⟨#[]⟩ encS encS_of (Int.tmod a9 10) e0 e1 9 1 0 1 rfl (.string (b4.getD (Int.tmod a9 10).toNat ⟨#[]⟩)) 46 (by kernel_rfl) (by kernel_rfl) (by kernel_rfl) (by kernel_rfl)) ?_)
  refine EL.quick 1 [7, 8, 10] [(7, .string b0), (8, ia a7), (10, .string (b4.getD (Int.tmod a9 10).toNat ⟨#[]⟩))] (by kernel_rfl) ?_
  refine EL.done (by kernel_rfl) ?_
  refine EQ.code ?_
  refine EW.sq (by kernel_rfl) ?_
  refine EW.rg (by kernel_rfl) ?_
  refine EL.quick 2 [7, 8, 48, 49] [(7, .string b0), (8, ia a7), (48, .string b0), (49, .string (b4.getD (Int.tmod a9 10).toNat ⟨#[]⟩))] (by kernel_rfl) ?_
  obtain ⟨e5, H⟩ := ite_in H
  refine EL.of (EO.Y (YO.strCat b0 (b4.getD (Int.tmod a9 10).toNat ⟨#[]⟩) 50 (by kernel_rfl) (by kernel_rfl) (by kernel_rfl) e5) ?_)
  obtain ⟨e6, H⟩ := ite_in H
  refine EL.of (EO.Y (YO.strCat (b0 ++ (b4.getD (Int.tmod a9 10).toNat ⟨#[]⟩)) (⟨#[10, 114, 101, 116]⟩ : ByteArray) 51 (by kernel_rfl) (by kernel_rfl) (by kernel_rfl) e6) ?_)
  obtain ⟨b7, b5, a8, f0, H⟩ := b3_out H
  have hq := image_Parse.calls f0 hS gB
  refine EL.of (EO.callD 9 [.string ((b0 ++ (b4.getD (Int.tmod a9 10).toNat ⟨#[]⟩)) ++ (⟨#[10, 114, 101, 116]⟩ : ByteArray))] _ 52 (by kernel_rfl) (by kernel_rfl) (by kernel_rfl) hq ?_)
  rintro v w ⟨d3, d4, rfl, hS⟩
  refine EL.quick 7 [7, 8, 11, 12, 13] [(7, .string b0), (8, ia a7), (11, sv d3 d4 b7), (12, ia b5), (13, ia a8)] (by kernel_rfl) ?_
  refine EL.done (by kernel_rfl) ?_
  refine EQ.code ?_
  refine EW.sq (by kernel_rfl) ?_
  refine EW.rg (by kernel_rfl) ?_
  refine EL.quick 1 [8, 11, 12, 13, 57] [(8, ia a7), (11, sv d3 d4 b7), (12, ia b5), (13, ia a8), (57, .string b0)] (by kernel_rfl) ?_
  obtain ⟨a1, a2, a6, f1, H⟩ := b3_out H
  have hq := image_Parse.calls f1 hS gB
  refine EL.of (EO.callD 9 [.string b0] _ 58 (by kernel_rfl) (by kernel_rfl) (by kernel_rfl) hq ?_)
  rintro v w ⟨a3, a4, rfl, hS⟩
  refine EL.quick 7 [8, 11, 12, 13, 14, 15, 16] [(8, ia a7), (11, sv d3 d4 b7), (12, ia b5), (13, ia a8), (14, sv a3 a4 a1), (15, ia a2), (16, ia a6)] (by kernel_rfl) ?_
  refine EL.done (by kernel_rfl) ?_
  refine EQ.code ?_
  refine EW.sq (by kernel_rfl) ?_
  refine EW.rg (by kernel_rfl) ?_
  refine EL.quick 4 [8, 12, 13, 14, 15, 16, 65] [(8, ia a7), (12, ia b5), (13, ia a8), (14, sv a3 a4 a1), (15, ia a2), (16, ia a6), (65, .bool (decide ((b7.length : Int) = 0)))] (by kernel_rfl) ?_
  by_cases c6 : (b7.length : Int) = 0
  ·rw [if_pos c6] at H
   refine EL.keep [8, 12, 13, 14, 15, 16, 65] [(8, ia a7), (12, ia b5), (13, ia a8), (14, sv a3 a4 a1), (15, ia a2), (16, ia a6), (65, .bool (decide ((b7.length : Int) = 0)))] (by kernel_rfl) ?_
   refine EL.as' [(8, ia a7), (12, ia b5), (13, ia a8), (14, sv a3 a4 a1), (15, ia a2), (16, ia a6), (65, .bool (true))] (by simp only [sv, dec_t c6, Bool.not_true, Bool.not_false]) ?_
   refine EL.quick 5 [13, 14, 15, 16, 70] [(13, ia a8), (14, sv a3 a4 a1), (15, ia a2), (16, ia a6), (70, .bool (decide (b5 = a7)))] (by kernel_rfl) ?_
   by_cases c7 : b5 = a7
   ·rw [if_pos c7] at H
    refine EL.keep [13, 14, 15, 16, 70] [(13, ia a8), (14, sv a3 a4 a1), (15, ia a2), (16, ia a6), (70, .bool (decide (b5 = a7)))] (by kernel_rfl) ?_
    refine EL.as' [(13, ia a8), (14, sv a3 a4 a1), (15, ia a2), (16, ia a6), (70, .bool (true))] (by simp only [sv, dec_t c7, Bool.not_true, Bool.not_false]) ?_
    refine EL.quick 4 [14, 15, 16, 74] [(14, sv a3 a4 a1), (15, ia a2), (16, ia a6), (74, .bool (decide (a8 = 24)))] (by kernel_rfl) ?_
    by_cases c8 : a8 = 24
    ·rw [if_pos c8] at H
     refine EL.keep [14, 15, 16, 74] [(14, sv a3 a4 a1), (15, ia a2), (16, ia a6), (74, .bool (decide (a8 = 24)))] (by kernel_rfl) ?_
     refine EL.as' [(14, sv a3 a4 a1), (15, ia a2), (16, ia a6), (74, .bool (true))] (by simp only [sv, dec_t c8, Bool.not_true, Bool.not_false]) ?_
     refine EL.quick 4 [14, 15, 78] [(14, sv a3 a4 a1), (15, ia a2), (78, .bool (decide (a6 = 0)))] (by kernel_rfl) ?_
     by_cases c9 : a6 = 0
     ·rw [if_pos c9] at H
      refine EL.keep [14, 15, 78] [(14, sv a3 a4 a1), (15, ia a2), (78, .bool (decide (a6 = 0)))] (by kernel_rfl) ?_
      refine EL.as' [(14, sv a3 a4 a1), (15, ia a2), (78, .bool (true))] (by simp only [sv, dec_t c9, Bool.not_true, Bool.not_false]) ?_
      refine EL.quick 4 [14, 82] [(14, sv a3 a4 a1), (82, .bool (decide (a2 = 0)))] (by kernel_rfl) ?_
      by_cases d0 : a2 = 0
      ·rw [if_pos d0] at H
       refine EL.keep [14, 82] [(14, sv a3 a4 a1), (82, .bool (decide (a2 = 0)))] (by kernel_rfl) ?_
       refine EL.as' [(14, sv a3 a4 a1), (82, .bool (true))] (by simp only [sv, dec_t d0, Bool.not_true, Bool.not_false]) ?_
       refine EL.quick 5 [6] [(6, .bool (decide ((a1.length : Int) = 2)))] (by kernel_rfl) ?_
       refine EL.done (by kernel_rfl) ?_
       refine EQ.code ?_
       refine EW.ret (by kernel_rfl) ?_
       obtain rfl := Option.some.inj H
       exact EQ.leave (.bool (decide ((a1.length : Int) = 2))) (by kernel_rfl) ⟨_, rfl, rfl, (hS.re [] [0, 0, 0] rfl (sub_tail (sub_self)))⟩
      rw [if_neg d0] at H
      refine EL.keep [14, 82] [(14, sv a3 a4 a1), (82, .bool (decide (a2 = 0)))] (by kernel_rfl) ?_
      refine EL.as' [(14, sv a3 a4 a1), (82, .bool (false))] (by simp only [sv, dec_f d0, Bool.not_true, Bool.not_false]) ?_
      refine EL.quick 5 [6] [(6, .bool (false))] (by kernel_rfl) ?_
      refine EL.done (by kernel_rfl) ?_
      refine EQ.code ?_
      refine EW.ret (by kernel_rfl) ?_
      obtain rfl := Option.some.inj H
      exact EQ.leave (.bool (false)) (by kernel_rfl) ⟨_, rfl, rfl, (hS.re [] [0, 0, 0] rfl (sub_tail (sub_self)))⟩
     rw [if_neg c9] at H
     refine EL.keep [14, 15, 78] [(14, sv a3 a4 a1), (15, ia a2), (78, .bool (decide (a6 = 0)))] (by kernel_rfl) ?_
     refine EL.as' [(14, sv a3 a4 a1), (15, ia a2), (78, .bool (false))] (by simp only [sv, dec_f c9, Bool.not_true, Bool.not_false]) ?_
     refine EL.quick 9 [6] [(6, .bool (false))] (by kernel_rfl) ?_
     refine EL.done (by kernel_rfl) ?_
     refine EQ.code ?_
     refine EW.ret (by kernel_rfl) ?_
     obtain rfl := Option.some.inj H
     exact EQ.leave (.bool (false)) (by kernel_rfl) ⟨_, rfl, rfl, (hS.re [] [0, 0, 0] rfl (sub_tail (sub_self)))⟩
    rw [if_neg c8] at H
    refine EL.keep [14, 15, 16, 74] [(14, sv a3 a4 a1), (15, ia a2), (16, ia a6), (74, .bool (decide (a8 = 24)))] (by kernel_rfl) ?_
    refine EL.as' [(14, sv a3 a4 a1), (15, ia a2), (16, ia a6), (74, .bool (false))] (by simp only [sv, dec_f c8, Bool.not_true, Bool.not_false]) ?_
    refine EL.quick 13 [6] [(6, .bool (false))] (by kernel_rfl) ?_
    refine EL.done (by kernel_rfl) ?_
    refine EQ.code ?_
    refine EW.ret (by kernel_rfl) ?_
    obtain rfl := Option.some.inj H
    exact EQ.leave (.bool (false)) (by kernel_rfl) ⟨_, rfl, rfl, (hS.re [] [0, 0, 0] rfl (sub_tail (sub_self)))⟩
   rw [if_neg c7] at H
   refine EL.keep [13, 14, 15, 16, 70] [(13, ia a8), (14, sv a3 a4 a1), (15, ia a2), (16, ia a6), (70, .bool (decide (b5 = a7)))] (by kernel_rfl) ?_
   refine EL.as' [(13, ia a8), (14, sv a3 a4 a1), (15, ia a2), (16, ia a6), (70, .bool (false))] (by simp only [sv, dec_f c7, Bool.not_true, Bool.not_false]) ?_
   refine EL.quick 17 [6] [(6, .bool (false))] (by kernel_rfl) ?_
   refine EL.done (by kernel_rfl) ?_
   refine EQ.code ?_
   refine EW.ret (by kernel_rfl) ?_
   obtain rfl := Option.some.inj H
   exact EQ.leave (.bool (false)) (by kernel_rfl) ⟨_, rfl, rfl, (hS.re [] [0, 0, 0] rfl (sub_tail (sub_self)))⟩
  rw [if_neg c6] at H
  refine EL.keep [8, 12, 13, 14, 15, 16, 65] [(8, ia a7), (12, ia b5), (13, ia a8), (14, sv a3 a4 a1), (15, ia a2), (16, ia a6), (65, .bool (decide ((b7.length : Int) = 0)))] (by kernel_rfl) ?_
  refine EL.as' [(8, ia a7), (12, ia b5), (13, ia a8), (14, sv a3 a4 a1), (15, ia a2), (16, ia a6), (65, .bool (false))] (by simp only [sv, dec_f c6, Bool.not_true, Bool.not_false]) ?_
  refine EL.quick 22 [6] [(6, .bool (false))] (by kernel_rfl) ?_
  refine EL.done (by kernel_rfl) ?_
  refine EQ.code ?_
  refine EW.ret (by kernel_rfl) ?_
  obtain rfl := Option.some.inj H
  exact EQ.leave (.bool (false)) (by kernel_rfl) ⟨_, rfl, rfl, (hS.re [] [0, 0, 0] rfl (sub_tail (sub_self)))⟩
 rw [if_neg d6] at H
 refine EW.sq (by kernel_rfl) ?_
 refine EW.rg (by kernel_rfl) ?_
 refine EL.quick 1 [6] [(6, .bool (false))] (by kernel_rfl) ?_
 refine EL.done (by kernel_rfl) ?_
 refine EQ.code ?_
 refine EW.ret (by kernel_rfl) ?_
 refine EQ.ret ?_
 obtain rfl := Option.some.inj H
 exact EQ.leave (.bool (false)) (by kernel_rfl) ⟨_, rfl, rfl, (hS.re [] [] rfl (sub_self))⟩

def confidantlaw7_ImageLines.Pure : Prop := ∀ (l6 : List Int) (a9 : Int) (a10 : Bool), l6.length * 1 ≤ 140737488351232 → (∀ x ∈ l6, (Lit.int .u8 x).wf = true) → (Lit.int .u8 a9).wf = true → ∃ K, confidantlaw7_ImageLines.f K l6 a9 a10 = some true

end Go.Proofs.YtiilloijkbabbaaGreatDoor.G
