import Derived.Test.YtiilloijkbabbaaGreatDoorProg
import Derived.Test.YtiilloijkbabbaaGreatDoorFwShort
import Derived.Test.YtiilloijkbabbaaGreatDoorFwOpen
import Derived.Test.YtiilloijkbabbaaGreatDoorDoor
import Derived.Test.YtiilloijkbabbaaGreatDoorFwStr
import Derived.Test.YtiilloijkbabbaaGreatDoorG0
import Derived.Test.YtiilloijkbabbaaGreatDoorG1
import Derived.Test.YtiilloijkbabbaaGreatDoorG2
import Derived.Test.YtiilloijkbabbaaGreatDoorG4
import Derived.Test.YtiilloijkbabbaaGreatDoorG5
namespace Go.Proofs.YtiilloijkbabbaaGreatDoor.G
open Go Go.Fw Go.RowKit Go.Proofs
set_option linter.unusedVariables false
set_option linter.unusedSimpArgs false

/-! ### confidant/confidantlaw7.ImageReads: function 5 -/
def confidantlaw7_ImageReads.l1 (K : Nat) (a2 : List ByteArray) : Nat → Int → Option Bool
 | 0, _ => none
 | n + 1, b5 => if b5 < (a2.length : Int) then (if 0 ≤ b5 then (b3 (image_Parse.f K (a2.getD b5.toNat ⟨#[]⟩)) fun (e4 : List (List S59)) (d8 : Int) (f6 : Int) => (b3 (confidantref5_ImageParse.f K (a2.getD b5.toNat ⟨#[]⟩)) fun (e8 : List (List S59)) (e1 : Int) (g4 : Int) => (lt (fun (i1 : Bool) => (if i1 = true then (some false) else (confidantlaw7_ImageReads.l1 K a2 n (IntKind.i64.wrap (b5 + 1))))) fun i8 => (if f6 = g4 then (if d8 = e1 then (b1 (confidantref5_Same.f K e4 e8) fun (g5 : Bool) => (i8 (!(g5)))) else (i8 true)) else (i8 true))))) else none) else (some true)
def confidantlaw7_ImageReads.l0 (K : Nat) (a0 : List (List Int)) (g2 : (List (List Int)) → Option Bool) : Nat → Int → Option Bool
 | 0, _ => none
 | n + 1, a1 => if a1 < (a0.length : Int) then (if 0 ≤ a1 then (b2 (pack_New.f K (a0.getD a1.toNat [])) fun (e5 : List Int) (m5 : Int) => (b4 (image_Take.f K e5 m5) fun (c7 : List Int) (e3 : Int) (a7 : List (List S59)) (b0 : Bool) => (b4 (confidantref5_ImageTake.f K (a0.getD a1.toNat []) 0) fun (c3 : List Int) (f3 : Int) (b6 : List (List S59)) (f4 : Bool) => (lt (fun (j0 : List Int) (j7 : Int) (i0 : Bool) => (if i0 = true then (some false) else (confidantlaw7_ImageReads.l0 K a0 g2 n (IntKind.i64.wrap (a1 + 1))))) fun g8 => (if (b0 == f4) = true then (b1 (confidantref5_Same.f K a7 b6) fun (e2 : Bool) => (if e2 = true then (if b0 = true then (b3 (pack_Reader_Left.f K c7 e3) fun (m6 : List Int) (m7 : Int) (f8 : Int) => (g8 m6 m7 (!(decide (f8 = (c3.length : Int)))))) else (g8 c7 e3 false)) else (g8 c7 e3 true))) else (g8 c7 e3 true)))))) else none) else (g2 a0)
def confidantlaw7_ImageReads.f (K : Nat) (l13 : List Int) (a16 : ByteArray) (l17 : List Int) (l20 : List Int) (a23 : Int) (a24 : Int) : Option Bool := b1 (confidantlaw7_known.f K) fun (i9 : Bool) => (if i9 = true then (lt (fun (g9 : Bool) => (if g9 = true then (some true) else (b1 (confidantseat_Code.f K l17 4 2 1 false) fun (d2 : List (List S59)) => (b2 (confidantref5_ImagePut.f K d2) fun (a5 : List Int) (p7 : Int) => (if (([] : List Int).length + a5.length) * 1 ≤ 140737488355328 then (lt (([] : List Int) ++ a5) fun c4 => (if (c4.length : Int) = 0 then none else (if 0 ≤ (Int.tmod (IntKind.i64.wrap a23) (c4.length : Int)) then (if (Int.tmod (IntKind.i64.wrap a23) (c4.length : Int)) < (c4.length : Int) then (lt (c4.set (Int.tmod (IntKind.i64.wrap a23) (c4.length : Int)).toNat (bX .u8 (c4.getD (Int.tmod (IntKind.i64.wrap a23) (c4.length : Int)).toNat 0) a24)) fun c6 => (lt (fun (f7 : List (List Int)) => (b1 (confidantlaw7_some.f K l20) fun (g3 : ByteArray) => (b1 (confidantlaw7_some.f K l20) fun (f5 : ByteArray) => (if (⟨#[102, 117, 110, 99, 10]⟩ : ByteArray).size + f5.size ≤ 9223372036854775807 then (lt ([a16, g3, ((⟨#[102, 117, 110, 99, 10]⟩ : ByteArray) ++ f5)] : List ByteArray) fun a2 => (confidantlaw7_ImageReads.l1 K a2 K 0)) else none)))) fun g2 => (if (a5.length : Int) = 0 then none else (if 0 ≤ (Int.tmod (IntKind.i64.wrap a23) (a5.length : Int)) then (if (Int.tmod (IntKind.i64.wrap a23) (a5.length : Int)) ≤ (a5.length : Int) then (lt (a5.take ((Int.tmod (IntKind.i64.wrap a23) (a5.length : Int)).toNat)) fun d3 => (lt ([l13, a5, c6, d3] : List (List Int)) fun a0 => (confidantlaw7_ImageReads.l0 K a0 g2 K 0))) else none) else none)))) else none) else none))) else none))))) fun g7 => (if (l13.length : Int) > 80 then (g7 true) else (if (a16.size : Int) > 100 then (g7 true) else (if (l17.length : Int) > 40 then (g7 true) else (g7 (decide ((l20.length : Int) > 30))))))) else (some false))
set_option maxRecDepth 100000 in
theorem confidantlaw7_ImageReads.calls {K : Nat} {l13 : List Int} {a16 : ByteArray} {l17 : List Int} {l20 : List Int} {a23 : Int} {a24 : Int} {A14 : Option Addr} {C15 : Nat} {A18 : Option Addr} {C19 : Nat} {A21 : Option Addr} {C22 : Nat} {f9 : Bool} {B w : World} {os : List Ass} {rs : List Ro} (H : confidantlaw7_ImageReads.f K l13 a16 l17 l20 a23 a24 = some f9) (hS : St B w (os) (Ro.sl (Kd.int .u8) A14 C15 l13 :: Ro.sl (Kd.int .u8) A18 C19 l17 :: Ro.sl (Kd.int .u8) A21 C22 l20 :: rs)) (gB : Glob B) :
  Calls Tryz.prog 5 [sv A14 C15 l13, .string a16, sv A18 C19 l17, sv A21 C22 l20, .int .u16 a23, ig a24].toArray w (fun en w' => ∃ v, en = .returned v ∧ v = .bool (f9) ∧ St B w' (os) (Ro.sl (Kd.int .u8) A14 C15 l13 :: Ro.sl (Kd.int .u8) A18 C19 l17 :: Ro.sl (Kd.int .u8) A21 C22 l20 :: rs)) := by
 unfold confidantlaw7_ImageReads.f at H
 refine calls_of_EW (args := [sv A14 C15 l13, .string a16, sv A18 C19 l17, sv A21 C22 l20, .int .u16 a23, ig a24]) (c := Cd5) 164 Tryz.func5 (by kernel_rfl) (by kernel_rfl) (by kernel_rfl) ?_
 refine EW.sq (by kernel_rfl) ?_
 refine EW.rg (by kernel_rfl) ?_
 refine EL.quick 1 [0, 1, 2, 3, 4, 5] [(0, sv A14 C15 l13), (1, .string a16), (2, sv A18 C19 l17), (3, sv A21 C22 l20), (4, .int .u16 a23), (5, ig a24)] (by kernel_rfl) ?_
 refine EL.done (by kernel_rfl) ?_
 refine EQ.code ?_
 refine EW.sq (by kernel_rfl) ?_
 refine EW.sq (by kernel_rfl) ?_
 refine EW.rg (by kernel_rfl) ?_
 obtain ⟨i9, n9, H⟩ := b1_out H
 have hq := confidantlaw7_known.calls n9 hS gB
 refine EL.of (EO.callD 6 [] _ 32 (by kernel_rfl) (by kernel_rfl) (by kernel_rfl) hq ?_)
 rintro v w ⟨rfl, hS⟩
 refine EL.quick 1 [0, 1, 2, 3, 4, 5, 33] [(0, sv A14 C15 l13), (1, .string a16), (2, sv A18 C19 l17), (3, sv A21 C22 l20), (4, .int .u16 a23), (5, ig a24), (33, .bool (!(i9)))] (by kernel_rfl) ?_
 refine EL.done (by kernel_rfl) ?_
 refine EQ.code ?_
 refine EW.cdQ (b := !(i9)) (i9 = true) (false) (by kernel_rfl) (by kernel_rfl) ⟨fun h => (by rw [h] <;> rfl), fun h => (by rw [Bool.eq_false_iff.2 h] <;> rfl)⟩ (fun m0 => ?_) (fun m0 => ?_)
 ·rw [if_pos m0] at H
  refine EW.skip (by kernel_rfl) ?_
  refine EQ.code ?_
  refine EW.sq (by kernel_rfl) ?_
  obtain ⟨g7, p1, H⟩ := lt_out H
  refine EW.ct (fun a w => ∃ g9 : Bool, Sat 164 [(0, sv A14 C15 l13), (1, .string a16), (2, sv A18 C19 l17), (3, sv A21 C22 l20), (4, .int .u16 a23), (5, ig a24), (51, .bool (g9))] a ∧ St B w (os) (Ro.sl (Kd.int .u8) A14 C15 l13 :: Ro.sl (Kd.int .u8) A18 C19 l17 :: Ro.sl (Kd.int .u8) A21 C22 l20 :: rs) ∧ g7 g9 = some f9) (by kernel_rfl) ?_ (fun a w hI => ?_)
  ·refine EW.rg (by kernel_rfl) ?_
   refine EL.quick 4 [0, 1, 2, 3, 4, 5, 37] [(0, sv A14 C15 l13), (1, .string a16), (2, sv A18 C19 l17), (3, sv A21 C22 l20), (4, .int .u16 a23), (5, ig a24), (37, .bool (decide ((l13.length : Int) > 80)))] (by kernel_rfl) ?_
   by_cases j1 : (l13.length : Int) > 80
   ·rw [if_pos j1] at H
    refine EL.keep [0, 1, 2, 3, 4, 5, 37] [(0, sv A14 C15 l13), (1, .string a16), (2, sv A18 C19 l17), (3, sv A21 C22 l20), (4, .int .u16 a23), (5, ig a24), (37, .bool (decide ((l13.length : Int) > 80)))] (by kernel_rfl) ?_
    refine EL.as' [(0, sv A14 C15 l13), (1, .string a16), (2, sv A18 C19 l17), (3, sv A21 C22 l20), (4, .int .u16 a23), (5, ig a24), (37, .bool (true))] (by simp only [sv, dec_t j1, Bool.not_true, Bool.not_false]) ?_
    refine EL.quick 14 [0, 1, 2, 3, 4, 5, 51] [(0, sv A14 C15 l13), (1, .string a16), (2, sv A18 C19 l17), (3, sv A21 C22 l20), (4, .int .u16 a23), (5, ig a24), (51, .bool (true))] (by kernel_rfl) ?_
    refine EL.done (by kernel_rfl) ?_
    refine EQ.to ?_
    refine EQ.keep [0, 1, 2, 3, 4, 5, 51] [(0, sv A14 C15 l13), (1, .string a16), (2, sv A18 C19 l17), (3, sv A21 C22 l20), (4, .int .u16 a23), (5, ig a24), (51, .bool (true))] (by kernel_rfl) ?_
    exact fun a ha => ⟨true, ha, (hS.re [] [] rfl (sub_cons 0 rfl (sub_cons 1 rfl (sub_cons 2 rfl (sub_tail (sub_tail (sub_tail (sub_self)))))))), H⟩
   rw [if_neg j1] at H
   refine EL.keep [0, 1, 2, 3, 4, 5, 37] [(0, sv A14 C15 l13), (1, .string a16), (2, sv A18 C19 l17), (3, sv A21 C22 l20), (4, .int .u16 a23), (5, ig a24), (37, .bool (decide ((l13.length : Int) > 80)))] (by kernel_rfl) ?_
   refine EL.as' [(0, sv A14 C15 l13), (1, .string a16), (2, sv A18 C19 l17), (3, sv A21 C22 l20), (4, .int .u16 a23), (5, ig a24), (37, .bool (false))] (by simp only [sv, dec_f j1, Bool.not_true, Bool.not_false]) ?_
   refine EL.quick 5 [0, 1, 2, 3, 4, 5, 42] [(0, sv A14 C15 l13), (1, .string a16), (2, sv A18 C19 l17), (3, sv A21 C22 l20), (4, .int .u16 a23), (5, ig a24), (42, .bool (decide ((a16.size : Int) > 100)))] (by kernel_rfl) ?_
   by_cases j2 : (a16.size : Int) > 100
   ·rw [if_pos j2] at H
    refine EL.keep [0, 1, 2, 3, 4, 5, 42] [(0, sv A14 C15 l13), (1, .string a16), (2, sv A18 C19 l17), (3, sv A21 C22 l20), (4, .int .u16 a23), (5, ig a24), (42, .bool (decide ((a16.size : Int) > 100)))] (by kernel_rfl) ?_
    refine EL.as' [(0, sv A14 C15 l13), (1, .string a16), (2, sv A18 C19 l17), (3, sv A21 C22 l20), (4, .int .u16 a23), (5, ig a24), (42, .bool (true))] (by simp only [sv, dec_t j2, Bool.not_true, Bool.not_false]) ?_
    refine EL.quick 9 [0, 1, 2, 3, 4, 5, 51] [(0, sv A14 C15 l13), (1, .string a16), (2, sv A18 C19 l17), (3, sv A21 C22 l20), (4, .int .u16 a23), (5, ig a24), (51, .bool (true))] (by kernel_rfl) ?_
    refine EL.done (by kernel_rfl) ?_
    refine EQ.to ?_
    refine EQ.keep [0, 1, 2, 3, 4, 5, 51] [(0, sv A14 C15 l13), (1, .string a16), (2, sv A18 C19 l17), (3, sv A21 C22 l20), (4, .int .u16 a23), (5, ig a24), (51, .bool (true))] (by kernel_rfl) ?_
    exact fun a ha => ⟨true, ha, (hS.re [] [] rfl (sub_cons 0 rfl (sub_cons 1 rfl (sub_cons 2 rfl (sub_tail (sub_tail (sub_tail (sub_self)))))))), H⟩
   rw [if_neg j2] at H
   refine EL.keep [0, 1, 2, 3, 4, 5, 42] [(0, sv A14 C15 l13), (1, .string a16), (2, sv A18 C19 l17), (3, sv A21 C22 l20), (4, .int .u16 a23), (5, ig a24), (42, .bool (decide ((a16.size : Int) > 100)))] (by kernel_rfl) ?_
   refine EL.as' [(0, sv A14 C15 l13), (1, .string a16), (2, sv A18 C19 l17), (3, sv A21 C22 l20), (4, .int .u16 a23), (5, ig a24), (42, .bool (false))] (by simp only [sv, dec_f j2, Bool.not_true, Bool.not_false]) ?_
   refine EL.quick 5 [0, 1, 2, 3, 4, 5, 47] [(0, sv A14 C15 l13), (1, .string a16), (2, sv A18 C19 l17), (3, sv A21 C22 l20), (4, .int .u16 a23), (5, ig a24), (47, .bool (decide ((l17.length : Int) > 40)))] (by kernel_rfl) ?_
   by_cases j3 : (l17.length : Int) > 40
   ·rw [if_pos j3] at H
    refine EL.keep [0, 1, 2, 3, 4, 5, 47] [(0, sv A14 C15 l13), (1, .string a16), (2, sv A18 C19 l17), (3, sv A21 C22 l20), (4, .int .u16 a23), (5, ig a24), (47, .bool (decide ((l17.length : Int) > 40)))] (by kernel_rfl) ?_
    refine EL.as' [(0, sv A14 C15 l13), (1, .string a16), (2, sv A18 C19 l17), (3, sv A21 C22 l20), (4, .int .u16 a23), (5, ig a24), (47, .bool (true))] (by simp only [sv, dec_t j3, Bool.not_true, Bool.not_false]) ?_
    refine EL.quick 4 [0, 1, 2, 3, 4, 5, 51] [(0, sv A14 C15 l13), (1, .string a16), (2, sv A18 C19 l17), (3, sv A21 C22 l20), (4, .int .u16 a23), (5, ig a24), (51, .bool (true))] (by kernel_rfl) ?_
    refine EL.done (by kernel_rfl) ?_
    refine EQ.to ?_
    refine EQ.keep [0, 1, 2, 3, 4, 5, 51] [(0, sv A14 C15 l13), (1, .string a16), (2, sv A18 C19 l17), (3, sv A21 C22 l20), (4, .int .u16 a23), (5, ig a24), (51, .bool (true))] (by kernel_rfl) ?_
    exact fun a ha => ⟨true, ha, (hS.re [] [] rfl (sub_cons 0 rfl (sub_cons 1 rfl (sub_cons 2 rfl (sub_tail (sub_tail (sub_tail (sub_self)))))))), H⟩
   rw [if_neg j3] at H
   refine EL.keep [0, 1, 2, 3, 4, 5, 47] [(0, sv A14 C15 l13), (1, .string a16), (2, sv A18 C19 l17), (3, sv A21 C22 l20), (4, .int .u16 a23), (5, ig a24), (47, .bool (decide ((l17.length : Int) > 40)))] (by kernel_rfl) ?_
   refine EL.as' [(0, sv A14 C15 l13), (1, .string a16), (2, sv A18 C19 l17), (3, sv A21 C22 l20), (4, .int .u16 a23), (5, ig a24), (47, .bool (false))] (by simp only [sv, dec_f j3, Bool.not_true, Bool.not_false]) ?_
   refine EL.quick 4 [0, 1, 2, 3, 4, 5, 51] [(0, sv A14 C15 l13), (1, .string a16), (2, sv A18 C19 l17), (3, sv A21 C22 l20), (4, .int .u16 a23), (5, ig a24), (51, .bool (decide ((l20.length : Int) > 30)))] (by kernel_rfl) ?_
   refine EL.done (by kernel_rfl) ?_
   refine EQ.to ?_
   refine EQ.keep [0, 1, 2, 3, 4, 5, 51] [(0, sv A14 C15 l13), (1, .string a16), (2, sv A18 C19 l17), (3, sv A21 C22 l20), (4, .int .u16 a23), (5, ig a24), (51, .bool (decide ((l20.length : Int) > 30)))] (by kernel_rfl) ?_
   exact fun a ha => ⟨decide ((l20.length : Int) > 30), ha, (hS.re [] [] rfl (sub_cons 0 rfl (sub_cons 1 rfl (sub_cons 2 rfl (sub_tail (sub_tail (sub_tail (sub_self)))))))), H⟩
  obtain ⟨g9, ha, hS, H⟩ := hI
  rw [p1] at H
  (try dsimp only at H)
  refine EW.at ?_ a ha
  clear ha a
  refine EW.cdP' (g9) (by kernel_rfl) (by kernel_rfl) (fun m1 => ?_) (fun m1 => ?_)
  ·rw [if_pos m1] at H
   refine EW.sq (by kernel_rfl) ?_
   refine EW.rg (by kernel_rfl) ?_
   refine EL.quick 1 [12] [(12, .bool (true))] (by kernel_rfl) ?_
   refine EL.done (by kernel_rfl) ?_
   refine EQ.code ?_
   refine EW.ret (by kernel_rfl) ?_
   refine EQ.ret ?_
   obtain rfl := Option.some.inj H
   exact EQ.leave (.bool (true)) (by kernel_rfl) ⟨_, rfl, rfl, (hS.re [] [] rfl (sub_self))⟩
  rw [if_neg m1] at H
  refine EW.skip (by kernel_rfl) ?_
  refine EQ.code ?_
  refine EW.sq (by kernel_rfl) ?_
  refine EW.rg (by kernel_rfl) ?_
  refine EL.quick 1 [0, 1, 3, 4, 5, 53] [(0, sv A14 C15 l13), (1, .string a16), (3, sv A21 C22 l20), (4, .int .u16 a23), (5, ig a24), (53, sv A18 C19 l17)] (by kernel_rfl) ?_
  have hS : St B _ (os) (Ro.sl (Kd.int .u8) A18 C19 l17 :: Ro.sl (Kd.int .u8) A14 C15 l13 :: Ro.sl (Kd.int .u8) A21 C22 l20 :: rs) := hS.re [] [] rfl (sub_cons 1 rfl (sub_cons 0 rfl (sub_tail (sub_tail (sub_self)))))
  obtain ⟨d2, o0, H⟩ := b1_out H
  have hq := confidantseat_Code.calls o0 hS
  refine EL.of (EO.callD 8 [sv A18 C19 l17, ia 4, ia 2, ia 1, .bool (false)] _ 54 (by kernel_rfl) (by kernel_rfl) (by kernel_rfl) hq ?_)
  rintro v w ⟨d4, d6, rfl, hS⟩
  have hS := St.frDeep hS 0 rfl
  have hS : St B _ (os) (Ro.sl (Kd.slice kS59) d4 d6 d2 :: Ro.sl (Kd.int .u8) A18 C19 l17 :: Ro.sl (Kd.int .u8) A14 C15 l13 :: Ro.sl (Kd.int .u8) A21 C22 l20 :: rs) := hS.re [] [] rfl (sub_cons 0 rfl (sub_tail (sub_self)))
  obtain ⟨a5, p7, o1, H⟩ := b2_out H
  have hq := confidantref5_ImagePut.calls o1 hS
  refine EL.of (EO.callD 12 [sv d4 d6 d2] _ 55 (by kernel_rfl) (by kernel_rfl) (by kernel_rfl) hq ?_)
  rintro v w ⟨c1, c0, rfl, hS⟩
  refine EL.quick 5 [0, 1, 3, 4, 5, 13] [(0, sv A14 C15 l13), (1, .string a16), (3, sv A21 C22 l20), (4, .int .u16 a23), (5, ig a24), (13, sv c1 c0 a5)] (by kernel_rfl) ?_
  refine EL.done (by kernel_rfl) ?_
  refine EQ.code ?_
  refine EW.sq (by kernel_rfl) ?_
  refine EW.rg (by kernel_rfl) ?_
  refine EL.quick 1 [0, 1, 3, 4, 5, 13, 58] [(0, sv A14 C15 l13), (1, .string a16), (3, sv A21 C22 l20), (4, .int .u16 a23), (5, ig a24), (13, sv c1 c0 a5), (58, sv c1 c0 a5)] (by kernel_rfl) ?_
  have hS := St.nilO hS 5 (Kd.int .u8)
  obtain ⟨n5, H⟩ := ite_in H
  obtain ⟨c4, p5, H⟩ := lt_out H
  refine EL.of (EO.append hS 22 22 5 1 0 (Kd.int .u8) none 0 ([] : List Int) rfl c1 c0 a5 (Rd.own 1 5 rfl) c4 p5 (fun i2 b9 => Ass.own 5 (Kd.int .u8) i2 b9 c4 :: Ass.own 5 (Kd.int .u8) c1 c0 a5 :: os) 59 (by kernel_rfl) (by kernel_rfl) (by kernel_rfl) (by kernel_rfl) n5 (fun _ _ => rfl) ?_)
  intro i2 b9 w hS
  refine EL.quick 1 [0, 1, 3, 4, 5, 13, 15] [(0, sv A14 C15 l13), (1, .string a16), (3, sv A21 C22 l20), (4, .int .u16 a23), (5, ig a24), (13, sv c1 c0 a5), (15, sv i2 b9 c4)] (by kernel_rfl) ?_
  refine EL.done (by kernel_rfl) ?_
  refine EQ.code ?_
  refine EW.sq (by kernel_rfl) ?_
  refine EW.rg (by kernel_rfl) ?_
  refine EL.quick 5 [0, 1, 3, 4, 5, 13, 15, 60, 62, 64] [(0, sv A14 C15 l13), (1, .string a16), (3, sv A21 C22 l20), (4, .int .u16 a23), (5, ig a24), (13, sv c1 c0 a5), (15, sv i2 b9 c4), (60, sv i2 b9 c4), (62, ia (IntKind.i64.wrap a23)), (64, ia (c4.length : Int))] (by kernel_rfl) ?_
  obtain ⟨n6, H⟩ := ite_out H
  refine EL.of (EO.Y (YO.div .rem .i64 (IntKind.i64.wrap a23) (c4.length : Int) (Int.tmod (IntKind.i64.wrap a23) (c4.length : Int)) 65 (by kernel_rfl) (by kernel_rfl) (by kernel_rfl) n6 (by first | exact .inl ⟨rfl, rfl⟩ | exact .inr ⟨rfl, rfl⟩)) ?_)
  obtain ⟨i3, H⟩ := ite_in H
  obtain ⟨i4, H⟩ := ite_in H
  obtain ⟨c2, rfl⟩ := St.rd_some hS (Rd.own 0 5 rfl) i3 i4
  refine EL.of (EO.Y (YO.idx 22 1 c2 c4.length b9 .i64 (Int.tmod (IntKind.i64.wrap a23) (c4.length : Int)) 66 (by kernel_rfl) (by kernel_rfl) (by kernel_rfl) (by kernel_rfl) i3 i4) ?_)
  refine EL.of (EO.Y (YO.loadEl hS (Kd.int .u8) c2 b9 c4 (Rd.own 0 5 rfl) 0 (encI .u8) encI_of (Int.tmod (IntKind.i64.wrap a23) (c4.length : Int)) i3 i4 5 1 0 1 rfl (ig (c4.getD (Int.tmod (IntKind.i64.wrap a23) (c4.length : Int)).toNat 0)) 67 (by kernel_rfl) (by kernel_rfl) (by kernel_rfl) (by kernel_rfl)) ?_)
  refine EL.quick 2 [0, 1, 3, 4, 13, 15, 60, 65, 69] [(0, sv A14 C15 l13), (1, .string a16), (3, sv A21 C22 l20), (4, .int .u16 a23), (13, sv c1 c0 a5), (15, sv (some c2) b9 c4), (60, sv (some c2) b9 c4), (65, ia (Int.tmod (IntKind.i64.wrap a23) (c4.length : Int))), (69, ig (bX .u8 (c4.getD (Int.tmod (IntKind.i64.wrap a23) (c4.length : Int)).toNat 0) a24))] (by kernel_rfl) ?_
  refine EL.of (EO.Y (YO.idx 22 1 c2 c4.length b9 .i64 (Int.tmod (IntKind.i64.wrap a23) (c4.length : Int)) 70 (by kernel_rfl) (by kernel_rfl) (by kernel_rfl) (by kernel_rfl) i3 i4) ?_)
  obtain ⟨c6, n0, H⟩ := lt_out H
  refine EL.of (EO.storeEl hS 0 (Kd.int .u8) 5 c2 b9 c4 rfl (Int.tmod (IntKind.i64.wrap a23) (c4.length : Int)) i3 i4 0 5 1 0 rfl (ig (bX .u8 (c4.getD (Int.tmod (IntKind.i64.wrap a23) (c4.length : Int)).toNat 0) a24)) (bX .u8 (c4.getD (Int.tmod (IntKind.i64.wrap a23) (c4.length : Int)).toNat 0) a24) c6 n0 (Ass.own 5 (Kd.int .u8) (some c2) b9 c6 :: Ass.own 5 (Kd.int .u8) c1 c0 a5 :: os) (by kernel_rfl) (by kernel_rfl) (by kernel_rfl) (by kernel_rfl) (by kernel_rfl) (by kernel_rfl) (fun w G vs hr h => set_whole h (by kernel_rfl) rfl) rfl ?_)
  intro w hS
  refine EL.keep [0, 1, 3, 4, 13, 15] [(0, sv A14 C15 l13), (1, .string a16), (3, sv A21 C22 l20), (4, .int .u16 a23), (13, sv c1 c0 a5), (15, sv (some c2) b9 c4)] (by kernel_rfl) ?_
  refine EL.as' [(0, sv A14 C15 l13), (1, .string a16), (3, sv A21 C22 l20), (4, .int .u16 a23), (13, sv c1 c0 a5), (15, sv (some c2) b9 c6)] (by simp only [sv, n0, List.length_set]) ?_
  refine EL.done (by kernel_rfl) ?_
  refine EQ.code ?_
  obtain ⟨g2, p2, H⟩ := lt_out H
  refine EW.ct (fun a w => ∃ f7 : List (List Int), ∃ g0 : Option Addr, ∃ g1 : Nat, Sat 164 [(1, .string a16), (3, sv A21 C22 l20)] a ∧ St B w (Ass.own 22 (Kd.slice (Kd.int .u8)) g0 g1 f7 :: os) (Ro.sl (Kd.int .u8) (some c2) b9 c6 :: Ro.sl (Kd.int .u8) c1 c0 a5 :: Ro.sl (Kd.slice kS59) d4 d6 d2 :: Ro.sl (Kd.int .u8) A18 C19 l17 :: Ro.sl (Kd.int .u8) A14 C15 l13 :: Ro.sl (Kd.int .u8) A21 C22 l20 :: rs) ∧ g2 f7 = some f9) (by kernel_rfl) ?_ (fun a w hI => ?_)
  ·refine EW.sq (by kernel_rfl) ?_
   refine EW.rg (by kernel_rfl) ?_
   refine EL.quick 8 [1, 3, 71, 72, 73, 74, 76, 78] [(1, .string a16), (3, sv A21 C22 l20), (71, sv A14 C15 l13), (72, sv c1 c0 a5), (73, sv (some c2) b9 c6), (74, sv c1 c0 a5), (76, ia (IntKind.i64.wrap a23)), (78, ia (a5.length : Int))] (by kernel_rfl) ?_
   obtain ⟨n7, H⟩ := ite_out H
   refine EL.of (EO.Y (YO.div .rem .i64 (IntKind.i64.wrap a23) (a5.length : Int) (Int.tmod (IntKind.i64.wrap a23) (a5.length : Int)) 79 (by kernel_rfl) (by kernel_rfl) (by kernel_rfl) n7 (by first | exact .inl ⟨rfl, rfl⟩ | exact .inr ⟨rfl, rfl⟩)) ?_)
   have hS := St.fr hS 1 rfl
   obtain ⟨p8, H⟩ := ite_in H
   obtain ⟨p9, H⟩ := ite_in H
   obtain ⟨d3, p6, H⟩ := lt_out H
   refine EL.of (EO.sliceRo hS (Kd.int .u8) c1 c0 a5 0 rfl none (some (ia (Int.tmod (IntKind.i64.wrap a23) (a5.length : Int)))) none 0 ((Int.tmod (IntKind.i64.wrap a23) (a5.length : Int)).toNat) c0 d3 (by rw [p6]; exact (slice_hi _ _)) 22 80 (by kernel_rfl) (by kernel_rfl) (by kernel_rfl) (by kernel_rfl) (rfl) ((Int.toNat_of_nonneg (by omega)).symm) ⟨rfl, fun h => by first | rfl | cases h⟩ (by omega) (by omega) (.inl rfl) ?_)
   intro d9 e0 hS
   have hS := St.fr hS 0 rfl
   obtain ⟨a0, n1, H⟩ := lt_out H
   refine EL.of (EO.lit hS (Kd.slice (Kd.int .u8)) 22 47 4 #[(0, sv A14 C15 l13), (1, sv c1 c0 a5), (2, sv (some c2) b9 c6), (3, sv d9 e0 d3)] [sv A14 C15 l13, sv c1 c0 a5, sv (some c2) b9 c6, sv d9 e0 d3] a0 81 (by kernel_rfl) (by kernel_rfl) (by kernel_rfl) (fun _ => (by kernel_rfl)) (by rw [n1]; rfl) (by kernel_rfl) (fun w G hr => (by rw [n1]; exact ⟨[sv A14 C15 l13], [sv c1 c0 a5, sv (some c2) b9 c6, sv d9 e0 d3], rfl, (hr _ (List.mem_of_getElem? (i := 5) rfl)), ⟨[sv c1 c0 a5], [sv (some c2) b9 c6, sv d9 e0 d3], rfl, (hr _ (List.mem_of_getElem? (i := 2) rfl)), ⟨[sv (some c2) b9 c6], [sv d9 e0 d3], rfl, (hr _ (List.mem_of_getElem? (i := 0) rfl)), ⟨[sv d9 e0 d3], [], rfl, (hr _ (List.mem_of_getElem? (i := 1) rfl)), rfl⟩⟩⟩⟩)) ?_)
   intro a3 w hS
   refine EL.quick 2 [1, 3, 81, 82, 83] [(1, .string a16), (3, sv A21 C22 l20), (81, sv (some ⟨a3, 0, none⟩) 4 a0), (82, ia (a0.length : Int)), (83, ia 0)] (by kernel_rfl) ?_
   refine EL.done (by kernel_rfl) ?_
   refine EQ.code ?_
   refine EW.bl 0 (by kernel_rfl) ?_
   refine EW.lp (fun n a w => ∃ a1 : Int, Sat 164 [(1, .string a16), (3, sv A21 C22 l20), (81, sv (some ⟨a3, 0, none⟩) 4 a0), (82, ia (a0.length : Int)), (83, ia a1)] a ∧ St B w (Ass.own 22 (Kd.slice (Kd.int .u8)) (some ⟨a3, 0, none⟩) 4 a0 :: os) (Ro.sl (Kd.int .u8) (some c2) b9 c6 :: Ro.sl (Kd.int .u8) d9 e0 d3 :: Ro.sl (Kd.int .u8) c1 c0 a5 :: Ro.sl (Kd.slice kS59) d4 d6 d2 :: Ro.sl (Kd.int .u8) A18 C19 l17 :: Ro.sl (Kd.int .u8) A14 C15 l13 :: Ro.sl (Kd.int .u8) A21 C22 l20 :: rs) ∧ confidantlaw7_ImageReads.l0 K a0 g2 n a1 = some f9) K (by kernel_rfl) ?_ (fun n a w hI => ?_)
   ·refine EQ.keep [1, 3, 81, 82, 83] [(1, .string a16), (3, sv A21 C22 l20), (81, sv (some ⟨a3, 0, none⟩) 4 a0), (82, ia (a0.length : Int)), (83, ia 0)] (by kernel_rfl) ?_
    exact fun a ha => ⟨0, ha, (hS.re [0] [] rfl (sub_cons 0 rfl (sub_cons 1 rfl (sub_cons 2 rfl (sub_cons 3 rfl (sub_cons 4 rfl (sub_cons 5 rfl (sub_cons 6 rfl (sub_tail (sub_tail (sub_tail (sub_tail (sub_tail (sub_tail (sub_tail (sub_self)))))))))))))))), H⟩
   obtain ⟨a1, ha, hS, H⟩ := hI
   obtain _ | n := n
   ·simp [confidantlaw7_ImageReads.l0] at H
   rw [confidantlaw7_ImageReads.l0.eq_2] at H
   refine EW.at ?_ a ha
   clear ha a
   refine EW.sq (by kernel_rfl) ?_
   refine EW.rg (by kernel_rfl) ?_
   refine EL.quick 1 [1, 3, 81, 82, 83, 84] [(1, .string a16), (3, sv A21 C22 l20), (81, sv (some ⟨a3, 0, none⟩) 4 a0), (82, ia (a0.length : Int)), (83, ia a1), (84, .bool (decide (a1 < (a0.length : Int))))] (by kernel_rfl) ?_
   refine EL.done (by kernel_rfl) ?_
   refine EQ.code ?_
   refine EW.sq (by kernel_rfl) ?_
   refine EW.cdP (a1 < (a0.length : Int)) (by kernel_rfl) (by kernel_rfl) (fun i5 => ?_) (fun i5 => ?_)
   ·rw [if_pos i5] at H
    refine EW.skip (by kernel_rfl) ?_
    refine EQ.code ?_
    refine EW.sq (by kernel_rfl) ?_
    refine EW.bl 1 (by kernel_rfl) ?_
    refine EW.sq (by kernel_rfl) ?_
    refine EW.rg (by kernel_rfl) ?_
    obtain ⟨m8, H⟩ := ite_in H
    refine EL.of (EO.Y (YO.idx 47 1 ⟨a3, 0, none⟩ a0.length 4 .i64 a1 85 (by kernel_rfl) (by kernel_rfl) (by kernel_rfl) (by kernel_rfl) m8 i5) ?_)
    refine EL.of (EO.loadSl hS (Kd.int .u8) ⟨a3, 0, none⟩ 4 a0 (Rd.own 0 22 rfl) a1 m8 i5 22 86 (by kernel_rfl) (by kernel_rfl) (by kernel_rfl) (by kernel_rfl) ?_)
    intro d5 d7 hS
    refine EL.quick 1 [1, 3, 17, 81, 82, 83] [(1, .string a16), (3, sv A21 C22 l20), (17, sv d5 d7 (a0.getD a1.toNat [])), (81, sv (some ⟨a3, 0, none⟩) 4 a0), (82, ia (a0.length : Int)), (83, ia a1)] (by kernel_rfl) ?_
    refine EL.done (by kernel_rfl) ?_
    refine EQ.code ?_
    refine EW.sq (by kernel_rfl) ?_
    refine EW.rg (by kernel_rfl) ?_
    refine EL.quick 1 [1, 3, 17, 81, 82, 83, 87] [(1, .string a16), (3, sv A21 C22 l20), (17, sv d5 d7 (a0.getD a1.toNat [])), (81, sv (some ⟨a3, 0, none⟩) 4 a0), (82, ia (a0.length : Int)), (83, ia a1), (87, sv d5 d7 (a0.getD a1.toNat []))] (by kernel_rfl) ?_
    have hS : St B _ (Ass.own 22 (Kd.slice (Kd.int .u8)) (some ⟨a3, 0, none⟩) 4 a0 :: os) (Ro.sl (Kd.int .u8) d5 d7 (a0.getD a1.toNat []) :: Ro.sl (Kd.int .u8) (some c2) b9 c6 :: Ro.sl (Kd.int .u8) d9 e0 d3 :: Ro.sl (Kd.int .u8) c1 c0 a5 :: Ro.sl (Kd.slice kS59) d4 d6 d2 :: Ro.sl (Kd.int .u8) A18 C19 l17 :: Ro.sl (Kd.int .u8) A14 C15 l13 :: Ro.sl (Kd.int .u8) A21 C22 l20 :: rs) := hS.re [] [] rfl (sub_cons 0 rfl (sub_tail (sub_self)))
    obtain ⟨e5, m5, o2, H⟩ := b2_out H
    have hq := pack_New.calls o2 hS
    refine EL.of (EO.callD 16 [sv d5 d7 (a0.getD a1.toNat [])] _ 88 (by kernel_rfl) (by kernel_rfl) (by kernel_rfl) hq ?_)
    rintro v w ⟨a6, e9, f0, rfl, hS⟩
    refine EL.quick 2 [1, 3, 81, 82, 83, 88, 90] [(1, .string a16), (3, sv A21 C22 l20), (81, sv (some ⟨a3, 0, none⟩) 4 a0), (82, ia (a0.length : Int)), (83, ia a1), (88, pt a6 0), (90, ag [sv d5 d7 (a0.getD a1.toNat []), ia 0])] (by kernel_rfl) ?_
    refine EL.of (EO.box hS 50 (ag [sv d5 d7 (a0.getD a1.toNat []), ia 0]) [sv d5 d7 (a0.getD a1.toNat []), ia 0] 91 (by kernel_rfl) (by kernel_rfl) (by kernel_rfl) (by first | rfl | kernel_rfl) ?_)
    intro a4 w hS
    refine EL.quick 2 [1, 3, 18, 19, 81, 82, 83] [(1, .string a16), (3, sv A21 C22 l20), (18, pt a6 0), (19, pt a4 0), (81, sv (some ⟨a3, 0, none⟩) 4 a0), (82, ia (a0.length : Int)), (83, ia a1)] (by kernel_rfl) ?_
    refine EL.done (by kernel_rfl) ?_
    refine EQ.code ?_
    refine EW.sq (by kernel_rfl) ?_
    refine EW.rg (by kernel_rfl) ?_
    refine EL.quick 1 [1, 3, 18, 19, 81, 82, 83, 93] [(1, .string a16), (3, sv A21 C22 l20), (18, pt a6 0), (19, pt a4 0), (81, sv (some ⟨a3, 0, none⟩) 4 a0), (82, ia (a0.length : Int)), (83, ia a1), (93, pt a6 0)] (by kernel_rfl) ?_
    have hS : St B _ (Ass.box 80 a6 [sv e9 f0 e5, ia m5] :: Ass.box 50 a4 [sv d5 d7 (a0.getD a1.toNat []), ia 0] :: Ass.own 22 (Kd.slice (Kd.int .u8)) (some ⟨a3, 0, none⟩) 4 a0 :: os) (Ro.sl (Kd.int .u8) e9 f0 e5 :: Ro.sl (Kd.int .u8) d5 d7 (a0.getD a1.toNat []) :: Ro.sl (Kd.int .u8) (some c2) b9 c6 :: Ro.sl (Kd.int .u8) d9 e0 d3 :: Ro.sl (Kd.int .u8) c1 c0 a5 :: Ro.sl (Kd.slice kS59) d4 d6 d2 :: Ro.sl (Kd.int .u8) A18 C19 l17 :: Ro.sl (Kd.int .u8) A14 C15 l13 :: Ro.sl (Kd.int .u8) A21 C22 l20 :: rs) := hS.re [1] [] rfl (sub_cons 0 rfl (sub_tail (sub_self)))
    obtain ⟨c7, e3, a7, b0, o3, H⟩ := b4_out H
    have hq := image_Take.calls o3 hS
    refine EL.of (EO.callD 17 [pt a6 0] _ 94 (by kernel_rfl) (by kernel_rfl) (by kernel_rfl) hq ?_)
    rintro v w ⟨d0, d1, a8, a9, rfl, hS⟩
    refine EL.quick 5 [1, 3, 18, 19, 20, 21, 81, 82, 83] [(1, .string a16), (3, sv A21 C22 l20), (18, pt a6 0), (19, pt a4 0), (20, sv a8 a9 a7), (21, .bool (b0)), (81, sv (some ⟨a3, 0, none⟩) 4 a0), (82, ia (a0.length : Int)), (83, ia a1)] (by kernel_rfl) ?_
    refine EL.done (by kernel_rfl) ?_
    refine EQ.code ?_
    refine EW.sq (by kernel_rfl) ?_
    refine EW.rg (by kernel_rfl) ?_
    refine EL.quick 1 [1, 3, 18, 19, 20, 21, 81, 82, 83, 98] [(1, .string a16), (3, sv A21 C22 l20), (18, pt a6 0), (19, pt a4 0), (20, sv a8 a9 a7), (21, .bool (b0)), (81, sv (some ⟨a3, 0, none⟩) 4 a0), (82, ia (a0.length : Int)), (83, ia a1), (98, pt a4 0)] (by kernel_rfl) ?_
    have hS : St B _ (Ass.box 50 a4 [sv d5 d7 (a0.getD a1.toNat []), ia 0] :: Ass.box 80 a6 [sv d0 d1 c7, ia e3] :: Ass.deep 56 59 kS59 a8 a9 a7 :: Ass.own 22 (Kd.slice (Kd.int .u8)) (some ⟨a3, 0, none⟩) 4 a0 :: os) (Ro.sl (Kd.int .u8) d5 d7 (a0.getD a1.toNat []) :: Ro.sl (Kd.int .u8) d0 d1 c7 :: Ro.sl (Kd.int .u8) e9 f0 e5 :: Ro.sl (Kd.int .u8) (some c2) b9 c6 :: Ro.sl (Kd.int .u8) d9 e0 d3 :: Ro.sl (Kd.int .u8) c1 c0 a5 :: Ro.sl (Kd.slice kS59) d4 d6 d2 :: Ro.sl (Kd.int .u8) A18 C19 l17 :: Ro.sl (Kd.int .u8) A14 C15 l13 :: Ro.sl (Kd.int .u8) A21 C22 l20 :: rs) := hS.re [2] [] rfl (sub_cons 2 rfl (sub_cons 0 rfl (sub_cons 1 rfl (sub_tail (sub_tail (sub_tail (sub_self)))))))
    obtain ⟨c3, f3, b6, f4, o4, H⟩ := b4_out H
    have hq := confidantref5_ImageTake.calls o4 hS
    refine EL.of (EO.callD 19 [pt a4 0] _ 99 (by kernel_rfl) (by kernel_rfl) (by kernel_rfl) hq ?_)
    rintro v w ⟨c8, c9, b7, b8, rfl, hS⟩
    refine EL.quick 5 [1, 3, 18, 19, 20, 21, 22, 23, 81, 82, 83] [(1, .string a16), (3, sv A21 C22 l20), (18, pt a6 0), (19, pt a4 0), (20, sv a8 a9 a7), (21, .bool (b0)), (22, sv b7 b8 b6), (23, .bool (f4)), (81, sv (some ⟨a3, 0, none⟩) 4 a0), (82, ia (a0.length : Int)), (83, ia a1)] (by kernel_rfl) ?_
    refine EL.done (by kernel_rfl) ?_
    refine EQ.code ?_
    obtain ⟨g8, p3, H⟩ := lt_out H
    refine EW.ct (fun a w => ∃ j0 : List Int, ∃ j7 : Int, ∃ i0 : Bool, ∃ j8 : Option Addr, ∃ j9 : Nat, Sat 164 [(1, .string a16), (3, sv A21 C22 l20), (81, sv (some ⟨a3, 0, none⟩) 4 a0), (82, ia (a0.length : Int)), (83, ia a1), (123, .bool (i0))] a ∧ St B w (Ass.box 80 a6 [sv j8 j9 j0, ia j7] :: Ass.box 50 a4 [sv c8 c9 c3, ia f3] :: Ass.own 22 (Kd.slice (Kd.int .u8)) (some ⟨a3, 0, none⟩) 4 a0 :: os) (Ro.sl (Kd.int .u8) j8 j9 j0 :: Ro.sl (Kd.int .u8) d0 d1 c7 :: Ro.sl (Kd.int .u8) c8 c9 c3 :: Ro.sl (Kd.int .u8) d5 d7 (a0.getD a1.toNat []) :: Ro.sl (Kd.int .u8) e9 f0 e5 :: Ro.sl (Kd.int .u8) (some c2) b9 c6 :: Ro.sl (Kd.int .u8) d9 e0 d3 :: Ro.sl (Kd.int .u8) c1 c0 a5 :: Ro.sl (Kd.slice kS59) d4 d6 d2 :: Ro.sl (Kd.int .u8) A18 C19 l17 :: Ro.sl (Kd.int .u8) A14 C15 l13 :: Ro.sl (Kd.int .u8) A21 C22 l20 :: rs) ∧ g8 j0 j7 i0 = some f9) (by kernel_rfl) ?_ (fun a w hI => ?_)
    ·by_cases g6 : (b0 == f4) = true
     ·rw [if_pos g6] at H
      obtain ⟨e2, m4, H⟩ := b1_out H
      by_cases i6 : e2 = true
      ·rw [if_pos i6] at H
       by_cases j4 : b0 = true
       ·rw [if_pos j4] at H
        obtain ⟨m6, m7, f8, o5, H⟩ := b3_out H
        have hS := hS.drew
        refine EW.dr (B := B) [Ass.box 50 a4 [sv c8 c9 c3, ia f3], Ass.own 22 (Kd.slice (Kd.int .u8)) (some ⟨a3, 0, none⟩) 4 a0] [Ro.sl (Kd.int .u8) c8 c9 c3, Ro.sl (Kd.int .u8) d5 d7 (a0.getD a1.toNat []), Ro.sl (Kd.int .u8) d0 d1 c7, Ro.sl (Kd.int .u8) e9 f0 e5, Ro.sl (Kd.int .u8) (some c2) b9 c6, Ro.sl (Kd.int .u8) d9 e0 d3, Ro.sl (Kd.int .u8) c1 c0 a5, Ro.sl (Kd.slice kS59) d4 d6 d2, Ro.sl (Kd.int .u8) A18 C19 l17, Ro.sl (Kd.int .u8) A14 C15 l13, Ro.sl (Kd.int .u8) A21 C22 l20] (by kernel_rfl) (by kernel_rfl) ?_
        have hN : Region.noSelect Cd5.r.r.r.r.r.r.l.r.l.l.r.r.l.l.r.r.r.r.l.ops = true := (by kernel_rfl)
        have hF : freeAll Cd5.r.r.r.r.r.r.l.r.l.l.r.r.l.l.r.r.r.r.l.ops = true := (by kernel_rfl)
        have hC : Core B [Ass.box 50 a4 [sv c8 c9 c3, ia f3], Ass.own 22 (Kd.slice (Kd.int .u8)) (some ⟨a3, 0, none⟩) 4 a0] [Ro.sl (Kd.int .u8) c8 c9 c3, Ro.sl (Kd.int .u8) d5 d7 (a0.getD a1.toNat []), Ro.sl (Kd.int .u8) d0 d1 c7, Ro.sl (Kd.int .u8) e9 f0 e5, Ro.sl (Kd.int .u8) (some c2) b9 c6, Ro.sl (Kd.int .u8) d9 e0 d3, Ro.sl (Kd.int .u8) c1 c0 a5, Ro.sl (Kd.slice kS59) d4 d6 d2, Ro.sl (Kd.int .u8) A18 C19 l17, Ro.sl (Kd.int .u8) A14 C15 l13, Ro.sl (Kd.int .u8) A21 C22 l20] _ := ⟨_, _, hS.re [4, 1] [] rfl sub_self⟩
        refine ED.quick hN hF hC [0, 1, 2, 3] [1, 3, 18, 19, 20, 21, 22, 81, 82, 83, 105] 18 [(1, .string a16), (3, sv A21 C22 l20), (18, pt a6 0), (19, pt a4 0), (20, sv a8 a9 a7), (21, .bool (b0)), (22, sv b7 b8 b6), (81, sv (some ⟨a3, 0, none⟩) 4 a0), (82, ia (a0.length : Int)), (83, ia a1), (105, .bool (!((b0 == f4))))] (bm 22 15) (by kernel_rfl) (by kernel_rfl) ?_
        refine ED.keep [1, 3, 18, 19, 20, 21, 22, 81, 82, 83, 105] [(1, .string a16), (3, sv A21 C22 l20), (18, pt a6 0), (19, pt a4 0), (20, sv a8 a9 a7), (21, .bool (b0)), (22, sv b7 b8 b6), (81, sv (some ⟨a3, 0, none⟩) 4 a0), (82, ia (a0.length : Int)), (83, ia a1), (105, .bool (!((b0 == f4))))] (by kernel_rfl) ?_
        refine ED.as' [(1, .string a16), (3, sv A21 C22 l20), (18, pt a6 0), (19, pt a4 0), (20, sv a8 a9 a7), (21, .bool (b0)), (22, sv b7 b8 b6), (81, sv (some ⟨a3, 0, none⟩) 4 a0), (82, ia (a0.length : Int)), (83, ia a1), (105, .bool (false))] (by simp only [sv, g6, Bool.not_true, Bool.not_false]) ?_
        refine ED.quick hN hF hC [4, 5] [1, 3, 18, 19, 21, 81, 82, 83, 105, 106, 107] 16 [(1, .string a16), (3, sv A21 C22 l20), (18, pt a6 0), (19, pt a4 0), (21, .bool (b0)), (81, sv (some ⟨a3, 0, none⟩) 4 a0), (82, ia (a0.length : Int)), (83, ia a1), (105, .bool (false)), (106, sv a8 a9 a7), (107, sv b7 b8 b6)] (bm 22 63) (by kernel_rfl) (by kernel_rfl) ?_
        have hS := St.frDeep hS 3 rfl
        have hS := St.frDeep hS 1 rfl
        have hS : St B _ (Ass.box 50 a4 [sv c8 c9 c3, ia f3] :: Ass.box 80 a6 [sv d0 d1 c7, ia e3] :: Ass.own 22 (Kd.slice (Kd.int .u8)) (some ⟨a3, 0, none⟩) 4 a0 :: os) (Ro.sl (Kd.slice kS59) a8 a9 a7 :: Ro.sl (Kd.slice kS59) b7 b8 b6 :: Ro.sl (Kd.int .u8) c8 c9 c3 :: Ro.sl (Kd.int .u8) d5 d7 (a0.getD a1.toNat []) :: Ro.sl (Kd.int .u8) d0 d1 c7 :: Ro.sl (Kd.int .u8) e9 f0 e5 :: Ro.sl (Kd.int .u8) (some c2) b9 c6 :: Ro.sl (Kd.int .u8) d9 e0 d3 :: Ro.sl (Kd.int .u8) c1 c0 a5 :: Ro.sl (Kd.slice kS59) d4 d6 d2 :: Ro.sl (Kd.int .u8) A18 C19 l17 :: Ro.sl (Kd.int .u8) A14 C15 l13 :: Ro.sl (Kd.int .u8) A21 C22 l20 :: rs) := hS.re [] [] rfl (sub_cons 1 rfl (sub_cons 0 rfl (sub_tail (sub_tail (sub_self)))))
        have hq := confidantref5_Same.calls m4 hS
        refine ED.one 6 15 (bm 22 127) (by kernel_rfl) (by kernel_rfl) (by kernel_rfl) (EO.callD 15 [sv a8 a9 a7, sv b7 b8 b6] _ 108 (by kernel_rfl) (by kernel_rfl) (by kernel_rfl) hq ?_)
        rintro v w ⟨rfl, hS⟩
        have hC := hC.again ⟨_, _, hS.re [2, 1] [] rfl (sub_cons 2 rfl (sub_cons 3 rfl (sub_cons 4 rfl (sub_cons 5 rfl (sub_cons 6 rfl (sub_cons 7 rfl (sub_cons 8 rfl (sub_cons 9 rfl (sub_cons 10 rfl (sub_cons 11 rfl (sub_cons 12 rfl sub_self)))))))))))⟩
        refine ⟨hC, ?_⟩
        refine ED.quick hN hF hC [7, 8, 9] [1, 3, 18, 19, 21, 81, 82, 83, 106, 107, 108, 109, 111] 12 [(1, .string a16), (3, sv A21 C22 l20), (18, pt a6 0), (19, pt a4 0), (21, .bool (b0)), (81, sv (some ⟨a3, 0, none⟩) 4 a0), (82, ia (a0.length : Int)), (83, ia a1), (106, sv a8 a9 a7), (107, sv b7 b8 b6), (108, .bool (e2)), (109, .bool (!(e2))), (111, .bool (!(e2)))] (bm 22 1023) (by kernel_rfl) (by kernel_rfl) ?_
        refine ED.keep [1, 3, 18, 19, 21, 81, 82, 83, 106, 107, 108, 109, 111] [(1, .string a16), (3, sv A21 C22 l20), (18, pt a6 0), (19, pt a4 0), (21, .bool (b0)), (81, sv (some ⟨a3, 0, none⟩) 4 a0), (82, ia (a0.length : Int)), (83, ia a1), (106, sv a8 a9 a7), (107, sv b7 b8 b6), (108, .bool (e2)), (109, .bool (!(e2))), (111, .bool (!(e2)))] (by kernel_rfl) ?_
        refine ED.as' [(1, .string a16), (3, sv A21 C22 l20), (18, pt a6 0), (19, pt a4 0), (21, .bool (b0)), (81, sv (some ⟨a3, 0, none⟩) 4 a0), (82, ia (a0.length : Int)), (83, ia a1), (106, sv a8 a9 a7), (107, sv b7 b8 b6), (108, .bool (true)), (109, .bool (false)), (111, .bool (false))] (by simp only [sv, i6, Bool.not_true, Bool.not_false]) ?_
        refine ED.quick hN hF hC [10, 11] [1, 3, 18, 19, 81, 82, 83, 106, 107, 108, 109, 111, 112, 113] 10 [(1, .string a16), (3, sv A21 C22 l20), (18, pt a6 0), (19, pt a4 0), (81, sv (some ⟨a3, 0, none⟩) 4 a0), (82, ia (a0.length : Int)), (83, ia a1), (106, sv a8 a9 a7), (107, sv b7 b8 b6), (108, .bool (true)), (109, .bool (false)), (111, .bool (false)), (112, .bool (b0)), (113, .bool (b0))] (bm 22 4095) (by kernel_rfl) (by kernel_rfl) ?_
        refine ED.keep [1, 3, 18, 19, 81, 82, 83, 106, 107, 108, 109, 111, 112, 113] [(1, .string a16), (3, sv A21 C22 l20), (18, pt a6 0), (19, pt a4 0), (81, sv (some ⟨a3, 0, none⟩) 4 a0), (82, ia (a0.length : Int)), (83, ia a1), (106, sv a8 a9 a7), (107, sv b7 b8 b6), (108, .bool (true)), (109, .bool (false)), (111, .bool (false)), (112, .bool (b0)), (113, .bool (b0))] (by kernel_rfl) ?_
        refine ED.as' [(1, .string a16), (3, sv A21 C22 l20), (18, pt a6 0), (19, pt a4 0), (81, sv (some ⟨a3, 0, none⟩) 4 a0), (82, ia (a0.length : Int)), (83, ia a1), (106, sv a8 a9 a7), (107, sv b7 b8 b6), (108, .bool (true)), (109, .bool (false)), (111, .bool (false)), (112, .bool (true)), (113, .bool (true))] (by simp only [sv, j4, Bool.not_true, Bool.not_false]) ?_
        refine ED.quick hN hF hC [12, 14, 15, 16] [1, 3, 81, 82, 83, 106, 107, 108, 109, 111, 112, 113, 114, 116, 117, 118] 6 [(1, .string a16), (3, sv A21 C22 l20), (81, sv (some ⟨a3, 0, none⟩) 4 a0), (82, ia (a0.length : Int)), (83, ia a1), (106, sv a8 a9 a7), (107, sv b7 b8 b6), (108, .bool (true)), (109, .bool (false)), (111, .bool (false)), (112, .bool (true)), (113, .bool (true)), (114, pt a6 0), (116, pt a4 0), (117, pt a4 0), (118, pt a4 0)] (bm 22 122879) (by kernel_rfl) (by kernel_rfl) ?_
        refine ED.Y hN hF hC 17 5 (bm 22 253951) (by kernel_rfl) (by kernel_rfl) rfl (fun _ _ _ hS => YO.loadBox hS 0 rfl 22 0 1 (sv c8 c9 c3) 119 (by kernel_rfl) (by kernel_rfl) (by kernel_rfl) (by kernel_rfl)) ?_
        refine ED.quick hN hF hC [18] [1, 3, 81, 82, 83, 106, 107, 108, 109, 111, 112, 113, 114, 116, 117, 118, 119, 120] 4 [(1, .string a16), (3, sv A21 C22 l20), (81, sv (some ⟨a3, 0, none⟩) 4 a0), (82, ia (a0.length : Int)), (83, ia a1), (106, sv a8 a9 a7), (107, sv b7 b8 b6), (108, .bool (true)), (109, .bool (false)), (111, .bool (false)), (112, .bool (true)), (113, .bool (true)), (114, pt a6 0), (116, pt a4 0), (117, pt a4 0), (118, pt a4 0), (119, sv c8 c9 c3), (120, ia (c3.length : Int))] (bm 22 516095) (by kernel_rfl) (by kernel_rfl) ?_
        have hS : St B _ (Ass.box 80 a6 [sv d0 d1 c7, ia e3] :: Ass.box 50 a4 [sv c8 c9 c3, ia f3] :: Ass.own 22 (Kd.slice (Kd.int .u8)) (some ⟨a3, 0, none⟩) 4 a0 :: os) (Ro.sl (Kd.int .u8) d0 d1 c7 :: Ro.sl (Kd.slice kS59) a8 a9 a7 :: Ro.sl (Kd.slice kS59) b7 b8 b6 :: Ro.sl (Kd.int .u8) c8 c9 c3 :: Ro.sl (Kd.int .u8) d5 d7 (a0.getD a1.toNat []) :: Ro.sl (Kd.int .u8) e9 f0 e5 :: Ro.sl (Kd.int .u8) (some c2) b9 c6 :: Ro.sl (Kd.int .u8) d9 e0 d3 :: Ro.sl (Kd.int .u8) c1 c0 a5 :: Ro.sl (Kd.slice kS59) d4 d6 d2 :: Ro.sl (Kd.int .u8) A18 C19 l17 :: Ro.sl (Kd.int .u8) A14 C15 l13 :: Ro.sl (Kd.int .u8) A21 C22 l20 :: rs) := hS.re [1] [] rfl (sub_cons 4 rfl (sub_cons 0 rfl (sub_cons 1 rfl (sub_cons 2 rfl (sub_cons 3 rfl (sub_tail (sub_tail (sub_tail (sub_tail (sub_tail (sub_self)))))))))))
        have hq := pack_Reader_Left.calls o5 hS
        refine ED.one 13 3 (bm 22 524287) (by kernel_rfl) (by kernel_rfl) (by kernel_rfl) (EO.callD 18 [pt a6 0] _ 115 (by kernel_rfl) (by kernel_rfl) (by kernel_rfl) hq ?_)
        rintro v w ⟨n3, n4, rfl, hS⟩
        have hC := hC.again ⟨_, _, hS.re [2, 2] [] rfl (sub_cons 4 rfl (sub_cons 5 rfl (sub_cons 1 rfl (sub_cons 6 rfl (sub_cons 7 rfl (sub_cons 8 rfl (sub_cons 9 rfl (sub_cons 10 rfl (sub_cons 11 rfl (sub_cons 12 rfl (sub_cons 13 rfl sub_self)))))))))))⟩
        refine ⟨hC, ?_⟩
        refine ED.quick hN hF hC [19, 20, 21] [1, 3, 81, 82, 83, 106, 107, 108, 109, 112, 113, 114, 115, 116, 117, 118, 119, 120, 121, 122, 123] 0 [(1, .string a16), (3, sv A21 C22 l20), (81, sv (some ⟨a3, 0, none⟩) 4 a0), (82, ia (a0.length : Int)), (83, ia a1), (106, sv a8 a9 a7), (107, sv b7 b8 b6), (108, .bool (true)), (109, .bool (false)), (112, .bool (true)), (113, .bool (true)), (114, pt a6 0), (115, ia f8), (116, pt a4 0), (117, pt a4 0), (118, pt a4 0), (119, sv c8 c9 c3), (120, ia (c3.length : Int)), (121, .bool (!(decide (f8 = (c3.length : Int))))), (122, .bool (!(decide (f8 = (c3.length : Int))))), (123, .bool (!(decide (f8 = (c3.length : Int)))))] (bm 22 4194303) (by kernel_rfl) (by kernel_rfl) ?_
        refine ED.done (by kernel_rfl) ?_
        refine EQ.to ?_
        refine EQ.keep [1, 3, 81, 82, 83, 123] [(1, .string a16), (3, sv A21 C22 l20), (81, sv (some ⟨a3, 0, none⟩) 4 a0), (82, ia (a0.length : Int)), (83, ia a1), (123, .bool (!(decide (f8 = (c3.length : Int)))))] (by kernel_rfl) ?_
        exact fun a ha => ⟨m6, m7, !(decide (f8 = (c3.length : Int))), n3, n4, ha, (hS.re [2, 2, 2] [] rfl (sub_cons 0 rfl (sub_cons 1 rfl (sub_cons 4 rfl (sub_cons 5 rfl (sub_cons 6 rfl (sub_cons 7 rfl (sub_cons 8 rfl (sub_cons 9 rfl (sub_cons 10 rfl (sub_cons 11 rfl (sub_cons 12 rfl (sub_cons 13 rfl (sub_tail (sub_tail (sub_tail (sub_tail (sub_tail (sub_tail (sub_tail (sub_tail (sub_tail (sub_tail (sub_tail (sub_tail (sub_tail (sub_tail (sub_self)))))))))))))))))))))))))))), H⟩
       rw [if_neg j4] at H
       have hS := hS.drew
       refine EW.dr (B := B) [Ass.box 50 a4 [sv c8 c9 c3, ia f3], Ass.box 80 a6 [sv d0 d1 c7, ia e3], Ass.own 22 (Kd.slice (Kd.int .u8)) (some ⟨a3, 0, none⟩) 4 a0] [Ro.sl (Kd.int .u8) c8 c9 c3, Ro.sl (Kd.int .u8) d5 d7 (a0.getD a1.toNat []), Ro.sl (Kd.int .u8) d0 d1 c7, Ro.sl (Kd.int .u8) e9 f0 e5, Ro.sl (Kd.int .u8) (some c2) b9 c6, Ro.sl (Kd.int .u8) d9 e0 d3, Ro.sl (Kd.int .u8) c1 c0 a5, Ro.sl (Kd.slice kS59) d4 d6 d2, Ro.sl (Kd.int .u8) A18 C19 l17, Ro.sl (Kd.int .u8) A14 C15 l13, Ro.sl (Kd.int .u8) A21 C22 l20] (by kernel_rfl) (by kernel_rfl) ?_
       have hN : Region.noSelect Cd5.r.r.r.r.r.r.l.r.l.l.r.r.l.l.r.r.r.r.l.ops = true := (by kernel_rfl)
       have hF : freeAll Cd5.r.r.r.r.r.r.l.r.l.l.r.r.l.l.r.r.r.r.l.ops = true := (by kernel_rfl)
       have hC : Core B [Ass.box 50 a4 [sv c8 c9 c3, ia f3], Ass.box 80 a6 [sv d0 d1 c7, ia e3], Ass.own 22 (Kd.slice (Kd.int .u8)) (some ⟨a3, 0, none⟩) 4 a0] [Ro.sl (Kd.int .u8) c8 c9 c3, Ro.sl (Kd.int .u8) d5 d7 (a0.getD a1.toNat []), Ro.sl (Kd.int .u8) d0 d1 c7, Ro.sl (Kd.int .u8) e9 f0 e5, Ro.sl (Kd.int .u8) (some c2) b9 c6, Ro.sl (Kd.int .u8) d9 e0 d3, Ro.sl (Kd.int .u8) c1 c0 a5, Ro.sl (Kd.slice kS59) d4 d6 d2, Ro.sl (Kd.int .u8) A18 C19 l17, Ro.sl (Kd.int .u8) A14 C15 l13, Ro.sl (Kd.int .u8) A21 C22 l20] _ := ⟨_, _, hS.re [4, 3, 2] [] rfl sub_self⟩
       refine ED.quick hN hF hC [0, 1, 2, 3] [1, 3, 18, 19, 20, 21, 22, 81, 82, 83, 105] 18 [(1, .string a16), (3, sv A21 C22 l20), (18, pt a6 0), (19, pt a4 0), (20, sv a8 a9 a7), (21, .bool (b0)), (22, sv b7 b8 b6), (81, sv (some ⟨a3, 0, none⟩) 4 a0), (82, ia (a0.length : Int)), (83, ia a1), (105, .bool (!((b0 == f4))))] (bm 22 15) (by kernel_rfl) (by kernel_rfl) ?_
       refine ED.keep [1, 3, 18, 19, 20, 21, 22, 81, 82, 83, 105] [(1, .string a16), (3, sv A21 C22 l20), (18, pt a6 0), (19, pt a4 0), (20, sv a8 a9 a7), (21, .bool (b0)), (22, sv b7 b8 b6), (81, sv (some ⟨a3, 0, none⟩) 4 a0), (82, ia (a0.length : Int)), (83, ia a1), (105, .bool (!((b0 == f4))))] (by kernel_rfl) ?_
       refine ED.as' [(1, .string a16), (3, sv A21 C22 l20), (18, pt a6 0), (19, pt a4 0), (20, sv a8 a9 a7), (21, .bool (b0)), (22, sv b7 b8 b6), (81, sv (some ⟨a3, 0, none⟩) 4 a0), (82, ia (a0.length : Int)), (83, ia a1), (105, .bool (false))] (by simp only [sv, g6, Bool.not_true, Bool.not_false]) ?_
       refine ED.quick hN hF hC [4, 5] [1, 3, 18, 19, 21, 81, 82, 83, 105, 106, 107] 16 [(1, .string a16), (3, sv A21 C22 l20), (18, pt a6 0), (19, pt a4 0), (21, .bool (b0)), (81, sv (some ⟨a3, 0, none⟩) 4 a0), (82, ia (a0.length : Int)), (83, ia a1), (105, .bool (false)), (106, sv a8 a9 a7), (107, sv b7 b8 b6)] (bm 22 63) (by kernel_rfl) (by kernel_rfl) ?_
       have hS := St.frDeep hS 3 rfl
       have hS := St.frDeep hS 1 rfl
       have hS : St B _ (Ass.box 50 a4 [sv c8 c9 c3, ia f3] :: Ass.box 80 a6 [sv d0 d1 c7, ia e3] :: Ass.own 22 (Kd.slice (Kd.int .u8)) (some ⟨a3, 0, none⟩) 4 a0 :: os) (Ro.sl (Kd.slice kS59) a8 a9 a7 :: Ro.sl (Kd.slice kS59) b7 b8 b6 :: Ro.sl (Kd.int .u8) c8 c9 c3 :: Ro.sl (Kd.int .u8) d5 d7 (a0.getD a1.toNat []) :: Ro.sl (Kd.int .u8) d0 d1 c7 :: Ro.sl (Kd.int .u8) e9 f0 e5 :: Ro.sl (Kd.int .u8) (some c2) b9 c6 :: Ro.sl (Kd.int .u8) d9 e0 d3 :: Ro.sl (Kd.int .u8) c1 c0 a5 :: Ro.sl (Kd.slice kS59) d4 d6 d2 :: Ro.sl (Kd.int .u8) A18 C19 l17 :: Ro.sl (Kd.int .u8) A14 C15 l13 :: Ro.sl (Kd.int .u8) A21 C22 l20 :: rs) := hS.re [] [] rfl (sub_cons 1 rfl (sub_cons 0 rfl (sub_tail (sub_tail (sub_self)))))
       have hq := confidantref5_Same.calls m4 hS
       refine ED.one 6 15 (bm 22 127) (by kernel_rfl) (by kernel_rfl) (by kernel_rfl) (EO.callD 15 [sv a8 a9 a7, sv b7 b8 b6] _ 108 (by kernel_rfl) (by kernel_rfl) (by kernel_rfl) hq ?_)
       rintro v w ⟨rfl, hS⟩
       have hC := hC.again ⟨_, _, hS.re [2, 2, 2] [] rfl (sub_cons 2 rfl (sub_cons 3 rfl (sub_cons 4 rfl (sub_cons 5 rfl (sub_cons 6 rfl (sub_cons 7 rfl (sub_cons 8 rfl (sub_cons 9 rfl (sub_cons 10 rfl (sub_cons 11 rfl (sub_cons 12 rfl sub_self)))))))))))⟩
       refine ⟨hC, ?_⟩
       refine ED.quick hN hF hC [7, 8, 9] [1, 3, 18, 19, 21, 81, 82, 83, 106, 107, 108, 109, 111] 12 [(1, .string a16), (3, sv A21 C22 l20), (18, pt a6 0), (19, pt a4 0), (21, .bool (b0)), (81, sv (some ⟨a3, 0, none⟩) 4 a0), (82, ia (a0.length : Int)), (83, ia a1), (106, sv a8 a9 a7), (107, sv b7 b8 b6), (108, .bool (e2)), (109, .bool (!(e2))), (111, .bool (!(e2)))] (bm 22 1023) (by kernel_rfl) (by kernel_rfl) ?_
       refine ED.keep [1, 3, 18, 19, 21, 81, 82, 83, 106, 107, 108, 109, 111] [(1, .string a16), (3, sv A21 C22 l20), (18, pt a6 0), (19, pt a4 0), (21, .bool (b0)), (81, sv (some ⟨a3, 0, none⟩) 4 a0), (82, ia (a0.length : Int)), (83, ia a1), (106, sv a8 a9 a7), (107, sv b7 b8 b6), (108, .bool (e2)), (109, .bool (!(e2))), (111, .bool (!(e2)))] (by kernel_rfl) ?_
       refine ED.as' [(1, .string a16), (3, sv A21 C22 l20), (18, pt a6 0), (19, pt a4 0), (21, .bool (b0)), (81, sv (some ⟨a3, 0, none⟩) 4 a0), (82, ia (a0.length : Int)), (83, ia a1), (106, sv a8 a9 a7), (107, sv b7 b8 b6), (108, .bool (true)), (109, .bool (false)), (111, .bool (false))] (by simp only [sv, i6, Bool.not_true, Bool.not_false]) ?_
       refine ED.quick hN hF hC [10, 11] [1, 3, 18, 19, 81, 82, 83, 106, 107, 108, 109, 111, 112, 113] 10 [(1, .string a16), (3, sv A21 C22 l20), (18, pt a6 0), (19, pt a4 0), (81, sv (some ⟨a3, 0, none⟩) 4 a0), (82, ia (a0.length : Int)), (83, ia a1), (106, sv a8 a9 a7), (107, sv b7 b8 b6), (108, .bool (true)), (109, .bool (false)), (111, .bool (false)), (112, .bool (b0)), (113, .bool (b0))] (bm 22 4095) (by kernel_rfl) (by kernel_rfl) ?_
       refine ED.keep [1, 3, 18, 19, 81, 82, 83, 106, 107, 108, 109, 111, 112, 113] [(1, .string a16), (3, sv A21 C22 l20), (18, pt a6 0), (19, pt a4 0), (81, sv (some ⟨a3, 0, none⟩) 4 a0), (82, ia (a0.length : Int)), (83, ia a1), (106, sv a8 a9 a7), (107, sv b7 b8 b6), (108, .bool (true)), (109, .bool (false)), (111, .bool (false)), (112, .bool (b0)), (113, .bool (b0))] (by kernel_rfl) ?_
       refine ED.as' [(1, .string a16), (3, sv A21 C22 l20), (18, pt a6 0), (19, pt a4 0), (81, sv (some ⟨a3, 0, none⟩) 4 a0), (82, ia (a0.length : Int)), (83, ia a1), (106, sv a8 a9 a7), (107, sv b7 b8 b6), (108, .bool (true)), (109, .bool (false)), (111, .bool (false)), (112, .bool (false)), (113, .bool (false))] (by simp only [sv, (Bool.eq_false_iff.2 j4), Bool.not_true, Bool.not_false]) ?_
       refine ED.quick hN hF hC [12, 13, 14, 15, 16, 17, 18, 19, 20, 21] [1, 3, 81, 82, 83, 106, 107, 108, 109, 112, 113, 114, 115, 116, 117, 118, 119, 120, 121, 122, 123] 0 [(1, .string a16), (3, sv A21 C22 l20), (81, sv (some ⟨a3, 0, none⟩) 4 a0), (82, ia (a0.length : Int)), (83, ia a1), (106, sv a8 a9 a7), (107, sv b7 b8 b6), (108, .bool (true)), (109, .bool (false)), (112, .bool (false)), (113, .bool (false)), (114, undef), (115, undef), (116, undef), (117, undef), (118, undef), (119, undef), (120, undef), (121, undef), (122, .bool (false)), (123, .bool (false))] (bm 22 4194303) (by kernel_rfl) (by kernel_rfl) ?_
       refine ED.done (by kernel_rfl) ?_
       refine EQ.to ?_
       refine EQ.keep [1, 3, 81, 82, 83, 123] [(1, .string a16), (3, sv A21 C22 l20), (81, sv (some ⟨a3, 0, none⟩) 4 a0), (82, ia (a0.length : Int)), (83, ia a1), (123, .bool (false))] (by kernel_rfl) ?_
       exact fun a ha => ⟨c7, e3, false, d0, d1, ha, (hS.re [2, 1, 2] [] rfl (sub_cons 4 rfl (sub_cons 4 rfl (sub_cons 2 rfl (sub_cons 3 rfl (sub_cons 5 rfl (sub_cons 6 rfl (sub_cons 7 rfl (sub_cons 8 rfl (sub_cons 9 rfl (sub_cons 10 rfl (sub_cons 11 rfl (sub_cons 12 rfl (sub_tail (sub_tail (sub_tail (sub_tail (sub_tail (sub_tail (sub_tail (sub_tail (sub_tail (sub_tail (sub_tail (sub_tail (sub_tail (sub_self))))))))))))))))))))))))))), H⟩
      rw [if_neg i6] at H
      have hS := hS.drew
      refine EW.dr (B := B) [Ass.box 50 a4 [sv c8 c9 c3, ia f3], Ass.box 80 a6 [sv d0 d1 c7, ia e3], Ass.own 22 (Kd.slice (Kd.int .u8)) (some ⟨a3, 0, none⟩) 4 a0] [Ro.sl (Kd.int .u8) c8 c9 c3, Ro.sl (Kd.int .u8) d5 d7 (a0.getD a1.toNat []), Ro.sl (Kd.int .u8) d0 d1 c7, Ro.sl (Kd.int .u8) e9 f0 e5, Ro.sl (Kd.int .u8) (some c2) b9 c6, Ro.sl (Kd.int .u8) d9 e0 d3, Ro.sl (Kd.int .u8) c1 c0 a5, Ro.sl (Kd.slice kS59) d4 d6 d2, Ro.sl (Kd.int .u8) A18 C19 l17, Ro.sl (Kd.int .u8) A14 C15 l13, Ro.sl (Kd.int .u8) A21 C22 l20] (by kernel_rfl) (by kernel_rfl) ?_
      have hN : Region.noSelect Cd5.r.r.r.r.r.r.l.r.l.l.r.r.l.l.r.r.r.r.l.ops = true := (by kernel_rfl)
      have hF : freeAll Cd5.r.r.r.r.r.r.l.r.l.l.r.r.l.l.r.r.r.r.l.ops = true := (by kernel_rfl)
      have hC : Core B [Ass.box 50 a4 [sv c8 c9 c3, ia f3], Ass.box 80 a6 [sv d0 d1 c7, ia e3], Ass.own 22 (Kd.slice (Kd.int .u8)) (some ⟨a3, 0, none⟩) 4 a0] [Ro.sl (Kd.int .u8) c8 c9 c3, Ro.sl (Kd.int .u8) d5 d7 (a0.getD a1.toNat []), Ro.sl (Kd.int .u8) d0 d1 c7, Ro.sl (Kd.int .u8) e9 f0 e5, Ro.sl (Kd.int .u8) (some c2) b9 c6, Ro.sl (Kd.int .u8) d9 e0 d3, Ro.sl (Kd.int .u8) c1 c0 a5, Ro.sl (Kd.slice kS59) d4 d6 d2, Ro.sl (Kd.int .u8) A18 C19 l17, Ro.sl (Kd.int .u8) A14 C15 l13, Ro.sl (Kd.int .u8) A21 C22 l20] _ := ⟨_, _, hS.re [4, 3, 2] [] rfl sub_self⟩
      refine ED.quick hN hF hC [0, 1, 2, 3] [1, 3, 18, 19, 20, 21, 22, 81, 82, 83, 105] 18 [(1, .string a16), (3, sv A21 C22 l20), (18, pt a6 0), (19, pt a4 0), (20, sv a8 a9 a7), (21, .bool (b0)), (22, sv b7 b8 b6), (81, sv (some ⟨a3, 0, none⟩) 4 a0), (82, ia (a0.length : Int)), (83, ia a1), (105, .bool (!((b0 == f4))))] (bm 22 15) (by kernel_rfl) (by kernel_rfl) ?_
      refine ED.keep [1, 3, 18, 19, 20, 21, 22, 81, 82, 83, 105] [(1, .string a16), (3, sv A21 C22 l20), (18, pt a6 0), (19, pt a4 0), (20, sv a8 a9 a7), (21, .bool (b0)), (22, sv b7 b8 b6), (81, sv (some ⟨a3, 0, none⟩) 4 a0), (82, ia (a0.length : Int)), (83, ia a1), (105, .bool (!((b0 == f4))))] (by kernel_rfl) ?_
      refine ED.as' [(1, .string a16), (3, sv A21 C22 l20), (18, pt a6 0), (19, pt a4 0), (20, sv a8 a9 a7), (21, .bool (b0)), (22, sv b7 b8 b6), (81, sv (some ⟨a3, 0, none⟩) 4 a0), (82, ia (a0.length : Int)), (83, ia a1), (105, .bool (false))] (by simp only [sv, g6, Bool.not_true, Bool.not_false]) ?_
      refine ED.quick hN hF hC [4, 5] [1, 3, 18, 19, 21, 81, 82, 83, 105, 106, 107] 16 [(1, .string a16), (3, sv A21 C22 l20), (18, pt a6 0), (19, pt a4 0), (21, .bool (b0)), (81, sv (some ⟨a3, 0, none⟩) 4 a0), (82, ia (a0.length : Int)), (83, ia a1), (105, .bool (false)), (106, sv a8 a9 a7), (107, sv b7 b8 b6)] (bm 22 63) (by kernel_rfl) (by kernel_rfl) ?_
      have hS := St.frDeep hS 3 rfl
      have hS := St.frDeep hS 1 rfl
      have hS : St B _ (Ass.box 50 a4 [sv c8 c9 c3, ia f3] :: Ass.box 80 a6 [sv d0 d1 c7, ia e3] :: Ass.own 22 (Kd.slice (Kd.int .u8)) (some ⟨a3, 0, none⟩) 4 a0 :: os) (Ro.sl (Kd.slice kS59) a8 a9 a7 :: Ro.sl (Kd.slice kS59) b7 b8 b6 :: Ro.sl (Kd.int .u8) c8 c9 c3 :: Ro.sl (Kd.int .u8) d5 d7 (a0.getD a1.toNat []) :: Ro.sl (Kd.int .u8) d0 d1 c7 :: Ro.sl (Kd.int .u8) e9 f0 e5 :: Ro.sl (Kd.int .u8) (some c2) b9 c6 :: Ro.sl (Kd.int .u8) d9 e0 d3 :: Ro.sl (Kd.int .u8) c1 c0 a5 :: Ro.sl (Kd.slice kS59) d4 d6 d2 :: Ro.sl (Kd.int .u8) A18 C19 l17 :: Ro.sl (Kd.int .u8) A14 C15 l13 :: Ro.sl (Kd.int .u8) A21 C22 l20 :: rs) := hS.re [] [] rfl (sub_cons 1 rfl (sub_cons 0 rfl (sub_tail (sub_tail (sub_self)))))
      have hq := confidantref5_Same.calls m4 hS
      refine ED.one 6 15 (bm 22 127) (by kernel_rfl) (by kernel_rfl) (by kernel_rfl) (EO.callD 15 [sv a8 a9 a7, sv b7 b8 b6] _ 108 (by kernel_rfl) (by kernel_rfl) (by kernel_rfl) hq ?_)
      rintro v w ⟨rfl, hS⟩
      have hC := hC.again ⟨_, _, hS.re [2, 2, 2] [] rfl (sub_cons 2 rfl (sub_cons 3 rfl (sub_cons 4 rfl (sub_cons 5 rfl (sub_cons 6 rfl (sub_cons 7 rfl (sub_cons 8 rfl (sub_cons 9 rfl (sub_cons 10 rfl (sub_cons 11 rfl (sub_cons 12 rfl sub_self)))))))))))⟩
      refine ⟨hC, ?_⟩
      refine ED.quick hN hF hC [7, 8, 9] [1, 3, 18, 19, 21, 81, 82, 83, 106, 107, 108, 109, 111] 12 [(1, .string a16), (3, sv A21 C22 l20), (18, pt a6 0), (19, pt a4 0), (21, .bool (b0)), (81, sv (some ⟨a3, 0, none⟩) 4 a0), (82, ia (a0.length : Int)), (83, ia a1), (106, sv a8 a9 a7), (107, sv b7 b8 b6), (108, .bool (e2)), (109, .bool (!(e2))), (111, .bool (!(e2)))] (bm 22 1023) (by kernel_rfl) (by kernel_rfl) ?_
      refine ED.keep [1, 3, 18, 19, 21, 81, 82, 83, 106, 107, 108, 109, 111] [(1, .string a16), (3, sv A21 C22 l20), (18, pt a6 0), (19, pt a4 0), (21, .bool (b0)), (81, sv (some ⟨a3, 0, none⟩) 4 a0), (82, ia (a0.length : Int)), (83, ia a1), (106, sv a8 a9 a7), (107, sv b7 b8 b6), (108, .bool (e2)), (109, .bool (!(e2))), (111, .bool (!(e2)))] (by kernel_rfl) ?_
      refine ED.as' [(1, .string a16), (3, sv A21 C22 l20), (18, pt a6 0), (19, pt a4 0), (21, .bool (b0)), (81, sv (some ⟨a3, 0, none⟩) 4 a0), (82, ia (a0.length : Int)), (83, ia a1), (106, sv a8 a9 a7), (107, sv b7 b8 b6), (108, .bool (false)), (109, .bool (true)), (111, .bool (true))] (by simp only [sv, (Bool.eq_false_iff.2 i6), Bool.not_true, Bool.not_false]) ?_
      refine ED.quick hN hF hC [10, 11, 12, 13, 14, 15, 16, 17, 18, 19, 20, 21] [1, 3, 81, 82, 83, 106, 107, 108, 109, 112, 113, 114, 115, 116, 117, 118, 119, 120, 121, 122, 123] 0 [(1, .string a16), (3, sv A21 C22 l20), (81, sv (some ⟨a3, 0, none⟩) 4 a0), (82, ia (a0.length : Int)), (83, ia a1), (106, sv a8 a9 a7), (107, sv b7 b8 b6), (108, .bool (false)), (109, .bool (true)), (112, undef), (113, undef), (114, undef), (115, undef), (116, undef), (117, undef), (118, undef), (119, undef), (120, undef), (121, undef), (122, undef), (123, .bool (true))] (bm 22 4194303) (by kernel_rfl) (by kernel_rfl) ?_
      refine ED.done (by kernel_rfl) ?_
      refine EQ.to ?_
      refine EQ.keep [1, 3, 81, 82, 83, 123] [(1, .string a16), (3, sv A21 C22 l20), (81, sv (some ⟨a3, 0, none⟩) 4 a0), (82, ia (a0.length : Int)), (83, ia a1), (123, .bool (true))] (by kernel_rfl) ?_
      exact fun a ha => ⟨c7, e3, true, d0, d1, ha, (hS.re [2, 1, 2] [] rfl (sub_cons 4 rfl (sub_cons 4 rfl (sub_cons 2 rfl (sub_cons 3 rfl (sub_cons 5 rfl (sub_cons 6 rfl (sub_cons 7 rfl (sub_cons 8 rfl (sub_cons 9 rfl (sub_cons 10 rfl (sub_cons 11 rfl (sub_cons 12 rfl (sub_tail (sub_tail (sub_tail (sub_tail (sub_tail (sub_tail (sub_tail (sub_tail (sub_tail (sub_tail (sub_tail (sub_tail (sub_tail (sub_self))))))))))))))))))))))))))), H⟩
     rw [if_neg g6] at H
     have hS := hS.drew
     refine EW.dr (B := B) [Ass.box 50 a4 [sv c8 c9 c3, ia f3], Ass.deep 56 59 kS59 b7 b8 b6, Ass.box 80 a6 [sv d0 d1 c7, ia e3], Ass.deep 56 59 kS59 a8 a9 a7, Ass.own 22 (Kd.slice (Kd.int .u8)) (some ⟨a3, 0, none⟩) 4 a0] [Ro.sl (Kd.int .u8) c8 c9 c3, Ro.sl (Kd.int .u8) d5 d7 (a0.getD a1.toNat []), Ro.sl (Kd.int .u8) d0 d1 c7, Ro.sl (Kd.int .u8) e9 f0 e5, Ro.sl (Kd.int .u8) (some c2) b9 c6, Ro.sl (Kd.int .u8) d9 e0 d3, Ro.sl (Kd.int .u8) c1 c0 a5, Ro.sl (Kd.slice kS59) d4 d6 d2, Ro.sl (Kd.int .u8) A18 C19 l17, Ro.sl (Kd.int .u8) A14 C15 l13, Ro.sl (Kd.int .u8) A21 C22 l20] (by kernel_rfl) (by kernel_rfl) ?_
     have hN : Region.noSelect Cd5.r.r.r.r.r.r.l.r.l.l.r.r.l.l.r.r.r.r.l.ops = true := (by kernel_rfl)
     have hF : freeAll Cd5.r.r.r.r.r.r.l.r.l.l.r.r.l.l.r.r.r.r.l.ops = true := (by kernel_rfl)
     have hC : Core B [Ass.box 50 a4 [sv c8 c9 c3, ia f3], Ass.deep 56 59 kS59 b7 b8 b6, Ass.box 80 a6 [sv d0 d1 c7, ia e3], Ass.deep 56 59 kS59 a8 a9 a7, Ass.own 22 (Kd.slice (Kd.int .u8)) (some ⟨a3, 0, none⟩) 4 a0] [Ro.sl (Kd.int .u8) c8 c9 c3, Ro.sl (Kd.int .u8) d5 d7 (a0.getD a1.toNat []), Ro.sl (Kd.int .u8) d0 d1 c7, Ro.sl (Kd.int .u8) e9 f0 e5, Ro.sl (Kd.int .u8) (some c2) b9 c6, Ro.sl (Kd.int .u8) d9 e0 d3, Ro.sl (Kd.int .u8) c1 c0 a5, Ro.sl (Kd.slice kS59) d4 d6 d2, Ro.sl (Kd.int .u8) A18 C19 l17, Ro.sl (Kd.int .u8) A14 C15 l13, Ro.sl (Kd.int .u8) A21 C22 l20] _ := ⟨_, _, hS⟩
     refine ED.quick hN hF hC [0, 1, 2, 3] [1, 3, 18, 19, 20, 21, 22, 81, 82, 83, 105] 18 [(1, .string a16), (3, sv A21 C22 l20), (18, pt a6 0), (19, pt a4 0), (20, sv a8 a9 a7), (21, .bool (b0)), (22, sv b7 b8 b6), (81, sv (some ⟨a3, 0, none⟩) 4 a0), (82, ia (a0.length : Int)), (83, ia a1), (105, .bool (!((b0 == f4))))] (bm 22 15) (by kernel_rfl) (by kernel_rfl) ?_
     refine ED.keep [1, 3, 18, 19, 20, 21, 22, 81, 82, 83, 105] [(1, .string a16), (3, sv A21 C22 l20), (18, pt a6 0), (19, pt a4 0), (20, sv a8 a9 a7), (21, .bool (b0)), (22, sv b7 b8 b6), (81, sv (some ⟨a3, 0, none⟩) 4 a0), (82, ia (a0.length : Int)), (83, ia a1), (105, .bool (!((b0 == f4))))] (by kernel_rfl) ?_
     refine ED.as' [(1, .string a16), (3, sv A21 C22 l20), (18, pt a6 0), (19, pt a4 0), (20, sv a8 a9 a7), (21, .bool (b0)), (22, sv b7 b8 b6), (81, sv (some ⟨a3, 0, none⟩) 4 a0), (82, ia (a0.length : Int)), (83, ia a1), (105, .bool (true))] (by simp only [sv, (Bool.eq_false_iff.2 g6), Bool.not_true, Bool.not_false]) ?_
     refine ED.quick hN hF hC [4, 5, 6, 7, 8, 9, 10, 11, 12, 13, 14, 15, 16, 17, 18, 19, 20, 21] [1, 3, 81, 82, 83, 106, 107, 108, 109, 112, 113, 114, 115, 116, 117, 118, 119, 120, 121, 122, 123] 0 [(1, .string a16), (3, sv A21 C22 l20), (81, sv (some ⟨a3, 0, none⟩) 4 a0), (82, ia (a0.length : Int)), (83, ia a1), (106, undef), (107, undef), (108, undef), (109, undef), (112, undef), (113, undef), (114, undef), (115, undef), (116, undef), (117, undef), (118, undef), (119, undef), (120, undef), (121, undef), (122, undef), (123, .bool (true))] (bm 22 4194303) (by kernel_rfl) (by kernel_rfl) ?_
     refine ED.done (by kernel_rfl) ?_
     refine EQ.to ?_
     refine EQ.keep [1, 3, 81, 82, 83, 123] [(1, .string a16), (3, sv A21 C22 l20), (81, sv (some ⟨a3, 0, none⟩) 4 a0), (82, ia (a0.length : Int)), (83, ia a1), (123, .bool (true))] (by kernel_rfl) ?_
     exact fun a ha => ⟨c7, e3, true, d0, d1, ha, (hS.re [4, 1, 3] [3, 3] rfl (sub_cons 2 rfl (sub_cons 2 rfl (sub_cons 0 rfl (sub_cons 1 rfl (sub_cons 3 rfl (sub_cons 4 rfl (sub_cons 5 rfl (sub_cons 6 rfl (sub_cons 7 rfl (sub_cons 8 rfl (sub_cons 9 rfl (sub_cons 10 rfl (sub_tail (sub_tail (sub_tail (sub_tail (sub_tail (sub_tail (sub_tail (sub_tail (sub_tail (sub_tail (sub_tail (sub_self))))))))))))))))))))))))), H⟩
    obtain ⟨j0, j7, i0, j8, j9, ha, hS, H⟩ := hI
    rw [p3] at H
    (try dsimp only at H)
    refine EW.at ?_ a ha
    clear ha a
    refine EW.cdP' (i0) (by kernel_rfl) (by kernel_rfl) (fun m2 => ?_) (fun m2 => ?_)
    ·rw [if_pos m2] at H
     refine EW.sq (by kernel_rfl) ?_
     refine EW.rg (by kernel_rfl) ?_
     refine EL.quick 1 [12] [(12, .bool (false))] (by kernel_rfl) ?_
     refine EL.done (by kernel_rfl) ?_
     refine EQ.code ?_
     refine EW.ret (by kernel_rfl) ?_
     refine EQ.ret ?_
     refine EQ.ret ?_
     refine EQ.ret ?_
     refine EQ.ret ?_
     refine EQ.ret ?_
     obtain rfl := Option.some.inj H
     exact EQ.leave (.bool (false)) (by kernel_rfl) ⟨_, rfl, rfl, (hS.re [] [0, 0, 0] rfl (sub_cons 10 rfl (sub_cons 9 rfl (sub_cons 11 rfl (sub_tail (sub_tail (sub_tail (sub_tail (sub_tail (sub_tail (sub_tail (sub_tail (sub_tail (sub_tail (sub_tail (sub_tail (sub_self)))))))))))))))))⟩
    rw [if_neg m2] at H
    refine EW.skip (by kernel_rfl) ?_
    refine EQ.pop ?_
    refine EQ.code ?_
    refine EW.rg (by kernel_rfl) ?_
    refine EL.quick 2 [1, 3, 81, 82, 83] [(1, .string a16), (3, sv A21 C22 l20), (81, sv (some ⟨a3, 0, none⟩) 4 a0), (82, ia (a0.length : Int)), (83, ia (IntKind.i64.wrap (a1 + 1)))] (by kernel_rfl) ?_
    refine EL.done (by kernel_rfl) ?_
    refine EQ.to ?_
    refine EQ.keep [1, 3, 81, 82, 83] [(1, .string a16), (3, sv A21 C22 l20), (81, sv (some ⟨a3, 0, none⟩) 4 a0), (82, ia (a0.length : Int)), (83, ia (IntKind.i64.wrap (a1 + 1)))] (by kernel_rfl) ?_
    exact fun a ha => ⟨n, Nat.lt_succ_self n, IntKind.i64.wrap (a1 + 1), ha, (hS.re [2] [1, 1] rfl (sub_cons 5 rfl (sub_cons 6 rfl (sub_cons 7 rfl (sub_cons 8 rfl (sub_cons 9 rfl (sub_cons 10 rfl (sub_cons 11 rfl (sub_tail (sub_tail (sub_tail (sub_tail (sub_tail (sub_tail (sub_tail (sub_tail (sub_tail (sub_tail (sub_tail (sub_tail (sub_self))))))))))))))))))))), H⟩
   rw [if_neg i5] at H
   refine EW.exit (id := 0) (by kernel_rfl) ?_
   refine EQ.exitCode ?_
   refine EQ.exitTo ?_
   refine EQ.exitHere ?_
   refine EQ.to ?_
   refine EQ.keep [1, 3] [(1, .string a16), (3, sv A21 C22 l20)] (by kernel_rfl) ?_
   exact fun a ha => ⟨a0, (some ⟨a3, 0, none⟩), 4, ha, (hS.re [0] [] rfl (sub_cons 0 rfl (sub_cons 2 rfl (sub_cons 3 rfl (sub_cons 4 rfl (sub_cons 5 rfl (sub_cons 6 rfl (sub_tail (sub_tail (sub_tail (sub_tail (sub_tail (sub_tail (sub_tail (sub_self))))))))))))))), H⟩
  obtain ⟨f7, g0, g1, ha, hS, H⟩ := hI
  rw [p2] at H
  (try dsimp only at H)
  refine EW.at ?_ a ha
  clear ha a
  refine EW.sq (by kernel_rfl) ?_
  refine EW.sq (by kernel_rfl) ?_
  refine EW.rg (by kernel_rfl) ?_
  refine EL.quick 2 [3, 125, 126] [(3, sv A21 C22 l20), (125, .string a16), (126, sv A21 C22 l20)] (by kernel_rfl) ?_
  have hS : St B _ (Ass.own 22 (Kd.slice (Kd.int .u8)) g0 g1 f7 :: os) (Ro.sl (Kd.int .u8) A21 C22 l20 :: Ro.sl (Kd.int .u8) (some c2) b9 c6 :: Ro.sl (Kd.int .u8) c1 c0 a5 :: Ro.sl (Kd.slice kS59) d4 d6 d2 :: Ro.sl (Kd.int .u8) A18 C19 l17 :: Ro.sl (Kd.int .u8) A14 C15 l13 :: rs) := hS.re [] [] rfl (sub_cons 5 rfl (sub_cons 0 rfl (sub_cons 1 rfl (sub_cons 2 rfl (sub_cons 3 rfl (sub_cons 4 rfl (sub_tail (sub_tail (sub_tail (sub_tail (sub_tail (sub_tail (sub_self)))))))))))))
  obtain ⟨g3, o6, H⟩ := b1_out H
  have hq := confidantlaw7_some.calls o6 hS
  refine EL.of (EO.callD 20 [sv A21 C22 l20] _ 127 (by kernel_rfl) (by kernel_rfl) (by kernel_rfl) hq ?_)
  rintro v w ⟨rfl, hS⟩
  refine EL.quick 1 [125, 127, 128] [(125, .string a16), (127, .string g3), (128, sv A21 C22 l20)] (by kernel_rfl) ?_
  have hS : St B _ (Ass.own 22 (Kd.slice (Kd.int .u8)) g0 g1 f7 :: os) (Ro.sl (Kd.int .u8) A21 C22 l20 :: Ro.sl (Kd.int .u8) (some c2) b9 c6 :: Ro.sl (Kd.int .u8) c1 c0 a5 :: Ro.sl (Kd.slice kS59) d4 d6 d2 :: Ro.sl (Kd.int .u8) A18 C19 l17 :: Ro.sl (Kd.int .u8) A14 C15 l13 :: rs) := hS.re [] [] rfl (sub_cons 0 rfl (sub_tail (sub_self)))
  obtain ⟨f5, o7, H⟩ := b1_out H
  have hq := confidantlaw7_some.calls o7 hS
  refine EL.of (EO.callD 20 [sv A21 C22 l20] _ 129 (by kernel_rfl) (by kernel_rfl) (by kernel_rfl) hq ?_)
  rintro v w ⟨rfl, hS⟩
  obtain ⟨n8, H⟩ := ite_in H
  refine EL.of (EO.Y (YO.strCat (⟨#[102, 117, 110, 99, 10]⟩ : ByteArray) f5 130 (by kernel_rfl) (by kernel_rfl) (by kernel_rfl) n8) ?_)
  obtain ⟨a2, n2, H⟩ := lt_out H
  refine EL.of (EO.lit hS Kd.str 9 28 3 #[(0, .string a16), (1, .string g3), (2, .string ((⟨#[102, 117, 110, 99, 10]⟩ : ByteArray) ++ f5))] [.string a16, .string g3, .string ((⟨#[102, 117, 110, 99, 10]⟩ : ByteArray) ++ f5)] a2 131 (by kernel_rfl) (by kernel_rfl) (by kernel_rfl) (fun _ => (by kernel_rfl)) (by rw [n2]; rfl) (by kernel_rfl) (fun w G hr => (by rw [n2]; exact ⟨[.string a16], [.string g3, .string ((⟨#[102, 117, 110, 99, 10]⟩ : ByteArray) ++ f5)], rfl, rfl, ⟨[.string g3], [.string ((⟨#[102, 117, 110, 99, 10]⟩ : ByteArray) ++ f5)], rfl, rfl, ⟨[.string ((⟨#[102, 117, 110, 99, 10]⟩ : ByteArray) ++ f5)], [], rfl, rfl, rfl⟩⟩⟩)) ?_)
  intro c5 w hS
  refine EL.quick 2 [131, 132, 133] [(131, sv (some ⟨c5, 0, none⟩) 3 a2), (132, ia (a2.length : Int)), (133, ia 0)] (by kernel_rfl) ?_
  refine EL.done (by kernel_rfl) ?_
  refine EQ.code ?_
  refine EW.bl 2 (by kernel_rfl) ?_
  refine EW.lp (fun n a w => ∃ b5 : Int, Sat 164 [(131, sv (some ⟨c5, 0, none⟩) 3 a2), (132, ia (a2.length : Int)), (133, ia b5)] a ∧ St B w (Ass.own 9 Kd.str (some ⟨c5, 0, none⟩) 3 a2 :: Ass.own 22 (Kd.slice (Kd.int .u8)) g0 g1 f7 :: os) (Ro.sl (Kd.int .u8) A21 C22 l20 :: Ro.sl (Kd.int .u8) (some c2) b9 c6 :: Ro.sl (Kd.int .u8) c1 c0 a5 :: Ro.sl (Kd.slice kS59) d4 d6 d2 :: Ro.sl (Kd.int .u8) A18 C19 l17 :: Ro.sl (Kd.int .u8) A14 C15 l13 :: rs) ∧ confidantlaw7_ImageReads.l1 K a2 n b5 = some f9) K (by kernel_rfl) ?_ (fun n a w hI => ?_)
  ·refine EQ.keep [131, 132, 133] [(131, sv (some ⟨c5, 0, none⟩) 3 a2), (132, ia (a2.length : Int)), (133, ia 0)] (by kernel_rfl) ?_
   exact fun a ha => ⟨0, ha, (hS.re [1, 1] [] rfl (sub_cons 0 rfl (sub_cons 1 rfl (sub_cons 2 rfl (sub_cons 3 rfl (sub_cons 4 rfl (sub_cons 5 rfl (sub_tail (sub_tail (sub_tail (sub_tail (sub_tail (sub_tail (sub_self)))))))))))))), H⟩
  obtain ⟨b5, ha, hS, H⟩ := hI
  obtain _ | n := n
  ·simp [confidantlaw7_ImageReads.l1] at H
  rw [confidantlaw7_ImageReads.l1.eq_2] at H
  refine EW.at ?_ a ha
  clear ha a
  refine EW.sq (by kernel_rfl) ?_
  refine EW.rg (by kernel_rfl) ?_
  refine EL.quick 1 [131, 132, 133, 134] [(131, sv (some ⟨c5, 0, none⟩) 3 a2), (132, ia (a2.length : Int)), (133, ia b5), (134, .bool (decide (b5 < (a2.length : Int))))] (by kernel_rfl) ?_
  refine EL.done (by kernel_rfl) ?_
  refine EQ.code ?_
  refine EW.sq (by kernel_rfl) ?_
  refine EW.cdP (b5 < (a2.length : Int)) (by kernel_rfl) (by kernel_rfl) (fun i7 => ?_) (fun i7 => ?_)
  ·rw [if_pos i7] at H
   refine EW.skip (by kernel_rfl) ?_
   refine EQ.code ?_
   refine EW.sq (by kernel_rfl) ?_
   refine EW.bl 3 (by kernel_rfl) ?_
   refine EW.sq (by kernel_rfl) ?_
   refine EW.rg (by kernel_rfl) ?_
   obtain ⟨m9, H⟩ := ite_in H
   refine EL.of (EO.Y (YO.idx 28 1 ⟨c5, 0, none⟩ a2.length 3 .i64 b5 135 (by kernel_rfl) (by kernel_rfl) (by kernel_rfl) (by kernel_rfl) m9 i7) ?_)
   refine EL.of (EO.Y (YO.loadEl hS Kd.str ⟨c5, 0, none⟩ 3 a2 (Rd.own 0 9 rfl) ⟨#[]⟩ encS encS_of b5 m9 i7 9 1 0 1 rfl (.string (a2.getD b5.toNat ⟨#[]⟩)) 136 (by kernel_rfl) (by kernel_rfl) (by kernel_rfl) (by kernel_rfl)) ?_)
   refine EL.quick 1 [25, 131, 132, 133] [(25, .string (a2.getD b5.toNat ⟨#[]⟩)), (131, sv (some ⟨c5, 0, none⟩) 3 a2), (132, ia (a2.length : Int)), (133, ia b5)] (by kernel_rfl) ?_
   refine EL.done (by kernel_rfl) ?_
   refine EQ.code ?_
   refine EW.sq (by kernel_rfl) ?_
   refine EW.rg (by kernel_rfl) ?_
   refine EL.quick 1 [25, 131, 132, 133, 138] [(25, .string (a2.getD b5.toNat ⟨#[]⟩)), (131, sv (some ⟨c5, 0, none⟩) 3 a2), (132, ia (a2.length : Int)), (133, ia b5), (138, .string (a2.getD b5.toNat ⟨#[]⟩))] (by kernel_rfl) ?_
   obtain ⟨e4, d8, f6, o8, H⟩ := b3_out H
   have hq := image_Parse.calls o8 hS gB
   refine EL.of (EO.callD 9 [.string (a2.getD b5.toNat ⟨#[]⟩)] _ 139 (by kernel_rfl) (by kernel_rfl) (by kernel_rfl) hq ?_)
   rintro v w ⟨e6, e7, rfl, hS⟩
   refine EL.quick 7 [25, 26, 27, 28, 131, 132, 133] [(25, .string (a2.getD b5.toNat ⟨#[]⟩)), (26, sv e6 e7 e4), (27, ia d8), (28, ia f6), (131, sv (some ⟨c5, 0, none⟩) 3 a2), (132, ia (a2.length : Int)), (133, ia b5)] (by kernel_rfl) ?_
   refine EL.done (by kernel_rfl) ?_
   refine EQ.code ?_
   refine EW.sq (by kernel_rfl) ?_
   refine EW.rg (by kernel_rfl) ?_
   refine EL.quick 1 [26, 27, 28, 131, 132, 133, 144] [(26, sv e6 e7 e4), (27, ia d8), (28, ia f6), (131, sv (some ⟨c5, 0, none⟩) 3 a2), (132, ia (a2.length : Int)), (133, ia b5), (144, .string (a2.getD b5.toNat ⟨#[]⟩))] (by kernel_rfl) ?_
   obtain ⟨e8, e1, g4, o9, H⟩ := b3_out H
   have hq := confidantref5_ImageParse.calls o9 hS
   refine EL.of (EO.callD 21 [.string (a2.getD b5.toNat ⟨#[]⟩)] _ 145 (by kernel_rfl) (by kernel_rfl) (by kernel_rfl) hq ?_)
   rintro v w ⟨f1, f2, rfl, hS⟩
   refine EL.quick 7 [26, 27, 28, 29, 30, 31, 131, 132, 133] [(26, sv e6 e7 e4), (27, ia d8), (28, ia f6), (29, sv f1 f2 e8), (30, ia e1), (31, ia g4), (131, sv (some ⟨c5, 0, none⟩) 3 a2), (132, ia (a2.length : Int)), (133, ia b5)] (by kernel_rfl) ?_
   refine EL.done (by kernel_rfl) ?_
   refine EQ.code ?_
   obtain ⟨i8, p4, H⟩ := lt_out H
   refine EW.ct (fun a w => ∃ i1 : Bool, Sat 164 [(131, sv (some ⟨c5, 0, none⟩) 3 a2), (132, ia (a2.length : Int)), (133, ia b5), (162, .bool (i1))] a ∧ St B w (Ass.own 9 Kd.str (some ⟨c5, 0, none⟩) 3 a2 :: Ass.own 22 (Kd.slice (Kd.int .u8)) g0 g1 f7 :: os) (Ro.sl (Kd.int .u8) A21 C22 l20 :: Ro.sl (Kd.int .u8) (some c2) b9 c6 :: Ro.sl (Kd.int .u8) c1 c0 a5 :: Ro.sl (Kd.slice kS59) d4 d6 d2 :: Ro.sl (Kd.int .u8) A18 C19 l17 :: Ro.sl (Kd.int .u8) A14 C15 l13 :: rs) ∧ i8 i1 = some f9) (by kernel_rfl) ?_ (fun a w hI => ?_)
   ·refine EW.rg (by kernel_rfl) ?_
    refine EL.quick 4 [26, 27, 29, 30, 131, 132, 133, 152] [(26, sv e6 e7 e4), (27, ia d8), (29, sv f1 f2 e8), (30, ia e1), (131, sv (some ⟨c5, 0, none⟩) 3 a2), (132, ia (a2.length : Int)), (133, ia b5), (152, .bool (!(decide (f6 = g4))))] (by kernel_rfl) ?_
    by_cases j5 : f6 = g4
    ·rw [if_pos j5] at H
     refine EL.keep [26, 27, 29, 30, 131, 132, 133, 152] [(26, sv e6 e7 e4), (27, ia d8), (29, sv f1 f2 e8), (30, ia e1), (131, sv (some ⟨c5, 0, none⟩) 3 a2), (132, ia (a2.length : Int)), (133, ia b5), (152, .bool (!(decide (f6 = g4))))] (by kernel_rfl) ?_
     refine EL.as' [(26, sv e6 e7 e4), (27, ia d8), (29, sv f1 f2 e8), (30, ia e1), (131, sv (some ⟨c5, 0, none⟩) 3 a2), (132, ia (a2.length : Int)), (133, ia b5), (152, .bool (false))] (by simp only [sv, dec_t j5, Bool.not_true, Bool.not_false]) ?_
     refine EL.quick 5 [26, 29, 131, 132, 133, 153, 154, 155, 157] [(26, sv e6 e7 e4), (29, sv f1 f2 e8), (131, sv (some ⟨c5, 0, none⟩) 3 a2), (132, ia (a2.length : Int)), (133, ia b5), (153, ia d8), (154, ia e1), (155, .bool (!(decide (d8 = e1)))), (157, .bool (!(decide (d8 = e1))))] (by kernel_rfl) ?_
     by_cases j6 : d8 = e1
     ·rw [if_pos j6] at H
      refine EL.keep [26, 29, 131, 132, 133, 153, 154, 155, 157] [(26, sv e6 e7 e4), (29, sv f1 f2 e8), (131, sv (some ⟨c5, 0, none⟩) 3 a2), (132, ia (a2.length : Int)), (133, ia b5), (153, ia d8), (154, ia e1), (155, .bool (!(decide (d8 = e1)))), (157, .bool (!(decide (d8 = e1))))] (by kernel_rfl) ?_
      refine EL.as' [(26, sv e6 e7 e4), (29, sv f1 f2 e8), (131, sv (some ⟨c5, 0, none⟩) 3 a2), (132, ia (a2.length : Int)), (133, ia b5), (153, ia d8), (154, ia e1), (155, .bool (false)), (157, .bool (false))] (by simp only [sv, dec_t j6, Bool.not_true, Bool.not_false]) ?_
      refine EL.quick 2 [131, 132, 133, 153, 154, 155, 157, 158, 159] [(131, sv (some ⟨c5, 0, none⟩) 3 a2), (132, ia (a2.length : Int)), (133, ia b5), (153, ia d8), (154, ia e1), (155, .bool (false)), (157, .bool (false)), (158, sv e6 e7 e4), (159, sv f1 f2 e8)] (by kernel_rfl) ?_
      have hS := St.frDeep hS 1 rfl
      have hS := St.frDeep hS 0 rfl
      have hS : St B _ (Ass.own 9 Kd.str (some ⟨c5, 0, none⟩) 3 a2 :: Ass.own 22 (Kd.slice (Kd.int .u8)) g0 g1 f7 :: os) (Ro.sl (Kd.slice kS59) e6 e7 e4 :: Ro.sl (Kd.slice kS59) f1 f2 e8 :: Ro.sl (Kd.int .u8) A21 C22 l20 :: Ro.sl (Kd.int .u8) (some c2) b9 c6 :: Ro.sl (Kd.int .u8) c1 c0 a5 :: Ro.sl (Kd.slice kS59) d4 d6 d2 :: Ro.sl (Kd.int .u8) A18 C19 l17 :: Ro.sl (Kd.int .u8) A14 C15 l13 :: rs) := hS.re [] [] rfl (sub_cons 1 rfl (sub_cons 0 rfl (sub_tail (sub_tail (sub_self)))))
      obtain ⟨g5, p0, H⟩ := b1_out H
      have hq := confidantref5_Same.calls p0 hS
      refine EL.of (EO.callD 15 [sv e6 e7 e4, sv f1 f2 e8] _ 160 (by kernel_rfl) (by kernel_rfl) (by kernel_rfl) hq ?_)
      rintro v w ⟨rfl, hS⟩
      refine EL.quick 2 [131, 132, 133, 153, 154, 155, 158, 159, 160, 161, 162] [(131, sv (some ⟨c5, 0, none⟩) 3 a2), (132, ia (a2.length : Int)), (133, ia b5), (153, ia d8), (154, ia e1), (155, .bool (false)), (158, sv e6 e7 e4), (159, sv f1 f2 e8), (160, .bool (g5)), (161, .bool (!(g5))), (162, .bool (!(g5)))] (by kernel_rfl) ?_
      refine EL.done (by kernel_rfl) ?_
      refine EQ.to ?_
      refine EQ.keep [131, 132, 133, 162] [(131, sv (some ⟨c5, 0, none⟩) 3 a2), (132, ia (a2.length : Int)), (133, ia b5), (162, .bool (!(g5)))] (by kernel_rfl) ?_
      exact fun a ha => ⟨!(g5), ha, (hS.re [1, 1] [] rfl (sub_cons 2 rfl (sub_cons 3 rfl (sub_cons 4 rfl (sub_cons 5 rfl (sub_cons 6 rfl (sub_cons 7 rfl (sub_tail (sub_tail (sub_tail (sub_tail (sub_tail (sub_tail (sub_tail (sub_tail (sub_self)))))))))))))))), H⟩
     rw [if_neg j6] at H
     refine EL.keep [26, 29, 131, 132, 133, 153, 154, 155, 157] [(26, sv e6 e7 e4), (29, sv f1 f2 e8), (131, sv (some ⟨c5, 0, none⟩) 3 a2), (132, ia (a2.length : Int)), (133, ia b5), (153, ia d8), (154, ia e1), (155, .bool (!(decide (d8 = e1)))), (157, .bool (!(decide (d8 = e1))))] (by kernel_rfl) ?_
     refine EL.as' [(26, sv e6 e7 e4), (29, sv f1 f2 e8), (131, sv (some ⟨c5, 0, none⟩) 3 a2), (132, ia (a2.length : Int)), (133, ia b5), (153, ia d8), (154, ia e1), (155, .bool (true)), (157, .bool (true))] (by simp only [sv, dec_f j6, Bool.not_true, Bool.not_false]) ?_
     refine EL.quick 5 [131, 132, 133, 153, 154, 155, 162] [(131, sv (some ⟨c5, 0, none⟩) 3 a2), (132, ia (a2.length : Int)), (133, ia b5), (153, ia d8), (154, ia e1), (155, .bool (true)), (162, .bool (true))] (by kernel_rfl) ?_
     refine EL.done (by kernel_rfl) ?_
     refine EQ.to ?_
     refine EQ.keep [131, 132, 133, 162] [(131, sv (some ⟨c5, 0, none⟩) 3 a2), (132, ia (a2.length : Int)), (133, ia b5), (162, .bool (true))] (by kernel_rfl) ?_
     exact fun a ha => ⟨true, ha, (hS.re [3, 3] [2, 2] rfl (sub_cons 0 rfl (sub_cons 1 rfl (sub_cons 2 rfl (sub_cons 3 rfl (sub_cons 4 rfl (sub_cons 5 rfl (sub_tail (sub_tail (sub_tail (sub_tail (sub_tail (sub_tail (sub_self)))))))))))))), H⟩
    rw [if_neg j5] at H
    refine EL.keep [26, 27, 29, 30, 131, 132, 133, 152] [(26, sv e6 e7 e4), (27, ia d8), (29, sv f1 f2 e8), (30, ia e1), (131, sv (some ⟨c5, 0, none⟩) 3 a2), (132, ia (a2.length : Int)), (133, ia b5), (152, .bool (!(decide (f6 = g4))))] (by kernel_rfl) ?_
    refine EL.as' [(26, sv e6 e7 e4), (27, ia d8), (29, sv f1 f2 e8), (30, ia e1), (131, sv (some ⟨c5, 0, none⟩) 3 a2), (132, ia (a2.length : Int)), (133, ia b5), (152, .bool (true))] (by simp only [sv, dec_f j5, Bool.not_true, Bool.not_false]) ?_
    refine EL.quick 10 [131, 132, 133, 162] [(131, sv (some ⟨c5, 0, none⟩) 3 a2), (132, ia (a2.length : Int)), (133, ia b5), (162, .bool (true))] (by kernel_rfl) ?_
    refine EL.done (by kernel_rfl) ?_
    refine EQ.to ?_
    refine EQ.keep [131, 132, 133, 162] [(131, sv (some ⟨c5, 0, none⟩) 3 a2), (132, ia (a2.length : Int)), (133, ia b5), (162, .bool (true))] (by kernel_rfl) ?_
    exact fun a ha => ⟨true, ha, (hS.re [3, 3] [2, 2] rfl (sub_cons 0 rfl (sub_cons 1 rfl (sub_cons 2 rfl (sub_cons 3 rfl (sub_cons 4 rfl (sub_cons 5 rfl (sub_tail (sub_tail (sub_tail (sub_tail (sub_tail (sub_tail (sub_self)))))))))))))), H⟩
   obtain ⟨i1, ha, hS, H⟩ := hI
   rw [p4] at H
   (try dsimp only at H)
   refine EW.at ?_ a ha
   clear ha a
   refine EW.cdP' (i1) (by kernel_rfl) (by kernel_rfl) (fun m3 => ?_) (fun m3 => ?_)
   ·rw [if_pos m3] at H
    refine EW.sq (by kernel_rfl) ?_
    refine EW.rg (by kernel_rfl) ?_
    refine EL.quick 1 [12] [(12, .bool (false))] (by kernel_rfl) ?_
    refine EL.done (by kernel_rfl) ?_
    refine EQ.code ?_
    refine EW.ret (by kernel_rfl) ?_
    refine EQ.ret ?_
    refine EQ.ret ?_
    refine EQ.ret ?_
    refine EQ.ret ?_
    refine EQ.ret ?_
    obtain rfl := Option.some.inj H
    exact EQ.leave (.bool (false)) (by kernel_rfl) ⟨_, rfl, rfl, (hS.re [] [0, 0] rfl (sub_cons 5 rfl (sub_cons 4 rfl (sub_cons 0 rfl (sub_tail (sub_tail (sub_tail (sub_tail (sub_tail (sub_tail (sub_self)))))))))))⟩
   rw [if_neg m3] at H
   refine EW.skip (by kernel_rfl) ?_
   refine EQ.pop ?_
   refine EQ.code ?_
   refine EW.rg (by kernel_rfl) ?_
   refine EL.quick 2 [131, 132, 133] [(131, sv (some ⟨c5, 0, none⟩) 3 a2), (132, ia (a2.length : Int)), (133, ia (IntKind.i64.wrap (b5 + 1)))] (by kernel_rfl) ?_
   refine EL.done (by kernel_rfl) ?_
   refine EQ.to ?_
   refine EQ.keep [131, 132, 133] [(131, sv (some ⟨c5, 0, none⟩) 3 a2), (132, ia (a2.length : Int)), (133, ia (IntKind.i64.wrap (b5 + 1)))] (by kernel_rfl) ?_
   exact fun a ha => ⟨n, Nat.lt_succ_self n, IntKind.i64.wrap (b5 + 1), ha, (hS.re [1, 1] [] rfl (sub_cons 0 rfl (sub_cons 1 rfl (sub_cons 2 rfl (sub_cons 3 rfl (sub_cons 4 rfl (sub_cons 5 rfl (sub_tail (sub_tail (sub_tail (sub_tail (sub_tail (sub_tail (sub_self)))))))))))))), H⟩
  rw [if_neg i7] at H
  refine EW.exit (id := 2) (by kernel_rfl) ?_
  refine EQ.exitCode ?_
  refine EQ.exitTo ?_
  refine EQ.exitHere ?_
  refine EQ.code ?_
  refine EW.sq (by kernel_rfl) ?_
  refine EW.rg (by kernel_rfl) ?_
  refine EL.quick 1 [12] [(12, .bool (true))] (by kernel_rfl) ?_
  refine EL.done (by kernel_rfl) ?_
  refine EQ.code ?_
  refine EW.ret (by kernel_rfl) ?_
  obtain rfl := Option.some.inj H
  exact EQ.leave (.bool (true)) (by kernel_rfl) ⟨_, rfl, rfl, (hS.re [] [0, 0] rfl (sub_cons 5 rfl (sub_cons 4 rfl (sub_cons 0 rfl (sub_tail (sub_tail (sub_tail (sub_tail (sub_tail (sub_tail (sub_self)))))))))))⟩
 rw [if_neg m0] at H
 refine EW.sq (by kernel_rfl) ?_
 refine EW.rg (by kernel_rfl) ?_
 refine EL.quick 1 [12] [(12, .bool (false))] (by kernel_rfl) ?_
 refine EL.done (by kernel_rfl) ?_
 refine EQ.code ?_
 refine EW.ret (by kernel_rfl) ?_
 refine EQ.ret ?_
 obtain rfl := Option.some.inj H
 exact EQ.leave (.bool (false)) (by kernel_rfl) ⟨_, rfl, rfl, (hS.re [] [] rfl (sub_self))⟩

def confidantlaw7_ImageReads.Pure : Prop := ∀ (l13 : List Int) (a16 : ByteArray) (l17 : List Int) (l20 : List Int) (a23 : Int) (a24 : Int), l13.length * 1 ≤ 140737488351232 → (∀ x ∈ l13, (Lit.int .u8 x).wf = true) → a16.size ≤ 140737488351232 → l17.length * 1 ≤ 140737488351232 → (∀ x ∈ l17, (Lit.int .u8 x).wf = true) → l20.length * 1 ≤ 140737488351232 → (∀ x ∈ l20, (Lit.int .u8 x).wf = true) → (Lit.int .u16 a23).wf = true → (Lit.int .u8 a24).wf = true → ∃ K, confidantlaw7_ImageReads.f K l13 a16 l17 l20 a23 a24 = some true

end Go.Proofs.YtiilloijkbabbaaGreatDoor.G
