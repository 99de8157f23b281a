import Derived.Test.YtiilloijkbabbaaGreatDoorProg
import Derived.Test.YtiilloijkbabbaaGreatDoorFwShort
import Derived.Test.YtiilloijkbabbaaGreatDoorFwOpen
import Derived.Test.YtiilloijkbabbaaGreatDoorFwStr
import Derived.Test.YtiilloijkbabbaaGreatDoorG0
import Derived.Test.YtiilloijkbabbaaGreatDoorG3
namespace Go.Proofs.YtiilloijkbabbaaGreatDoor.G
open Go Go.Fw Go.RowKit Go.Proofs
set_option linter.unusedVariables false
set_option linter.unusedSimpArgs false

noncomputable def Cd4 : Code := bodyOf Tryz.f4

noncomputable def Cd7 : Code := bodyOf Tryz.f7

noncomputable def Cd10 : Code := bodyOf Tryz.f10

/-! ### confidant/confidanthelp.SmallImage: function 10 -/
def confidanthelp_SmallImage.l0 (K : Nat) (l33 : List (List S59)) : Nat → Int → Option Bool
 | 0, _ => none
 | n + 1, a0 => if a0 < (l33.length : Int) then (if 0 ≤ a0 then (if ((l33.getD a0.toNat []).length : Int) > 40 then (some false) else (confidanthelp_SmallImage.l0 K l33 n (IntKind.i64.wrap (a0 + 1)))) else none) else (some true)
def confidanthelp_SmallImage.f (K : Nat) (l33 : List (List S59)) : Option Bool := if (l33.length : Int) > 8 then (some false) else (confidanthelp_SmallImage.l0 K l33 K 0)
set_option maxRecDepth 100000 in
theorem confidanthelp_SmallImage.calls {K : Nat} {l33 : List (List S59)} {A34 : Option Addr} {C35 : Nat} {x99 : Bool} {B w : World} {os : List Ass} {rs : List Ro} (H : confidanthelp_SmallImage.f K l33 = some x99) (hS : St B w (os) (Ro.sl (Kd.slice kS59) A34 C35 l33 :: rs)) :
  Calls Tryz.prog 10 [sv A34 C35 l33].toArray w (fun en w' => ∃ v, en = .returned v ∧ v = .bool (x99) ∧ St B w' (os) (Ro.sl (Kd.slice kS59) A34 C35 l33 :: rs)) := by
 unfold confidanthelp_SmallImage.f at H
 refine calls_of_EW (args := [sv A34 C35 l33]) (c := Cd10) 19 Tryz.func10 (by kernel_rfl) (by kernel_rfl) (by kernel_rfl) ?_
 refine EW.sq (by kernel_rfl) ?_
 refine EW.rg (by kernel_rfl) ?_
 refine EL.quick 1 [0] [(0, sv A34 C35 l33)] (by kernel_rfl) ?_
 refine EL.done (by kernel_rfl) ?_
 refine EQ.code ?_
 refine EW.sq (by kernel_rfl) ?_
 refine EW.sq (by kernel_rfl) ?_
 refine EW.rg (by kernel_rfl) ?_
 refine EL.quick 3 [0, 6] [(0, sv A34 C35 l33), (6, .bool (decide ((l33.length : Int) > 8)))] (by kernel_rfl) ?_
 refine EL.done (by kernel_rfl) ?_
 refine EQ.code ?_
 refine EW.cdP ((l33.length : Int) > 8) (by kernel_rfl) (by kernel_rfl) (fun a3 => ?_) (fun a3 => ?_)
 ·rw [if_pos a3] at H
  refine EW.sq (by kernel_rfl) ?_
  refine EW.rg (by kernel_rfl) ?_
  refine EL.quick 1 [2] [(2, .bool (false))] (by kernel_rfl) ?_
  refine EL.done (by kernel_rfl) ?_
  refine EQ.code ?_
  refine EW.ret (by kernel_rfl) ?_
  refine EQ.ret ?_
  obtain rfl := Option.some.inj H
  exact EQ.leave (.bool (false)) (by kernel_rfl) ⟨_, rfl, rfl, (hS.re [] [] rfl (sub_self))⟩
 rw [if_neg a3] at H
 refine EW.skip (by kernel_rfl) ?_
 refine EQ.code ?_
 refine EW.sq (by kernel_rfl) ?_
 refine EW.sq (by kernel_rfl) ?_
 refine EW.rg (by kernel_rfl) ?_
 refine EL.quick 1 [0, 3] [(0, sv A34 C35 l33), (3, ia 0)] (by kernel_rfl) ?_
 refine EL.done (by kernel_rfl) ?_
 refine EQ.code ?_
 refine EW.bl 0 (by kernel_rfl) ?_
 refine EW.lp (fun n a w => ∃ a0 : Int, Sat 19 [(0, sv A34 C35 l33), (3, ia a0)] a ∧ St B w (os) (Ro.sl (Kd.slice kS59) A34 C35 l33 :: rs) ∧ confidanthelp_SmallImage.l0 K l33 n a0 = some x99) K (by kernel_rfl) ?_ (fun n a w hI => ?_)
 ·refine EQ.keep [0, 3] [(0, sv A34 C35 l33), (3, ia 0)] (by kernel_rfl) ?_
  exact fun a ha => ⟨0, ha, (hS.re [] [] rfl (sub_cons 0 rfl (sub_tail (sub_self)))), H⟩
 obtain ⟨a0, ha, hS, H⟩ := hI
 obtain _ | n := n
 ·simp [confidanthelp_SmallImage.l0] at H
 rw [confidanthelp_SmallImage.l0.eq_2] at H
 refine EW.at ?_ a ha
 clear ha a
 refine EW.sq (by kernel_rfl) ?_
 refine EW.sq (by kernel_rfl) ?_
 refine EW.rg (by kernel_rfl) ?_
 refine EL.quick 4 [0, 3, 10] [(0, sv A34 C35 l33), (3, ia a0), (10, .bool (decide (a0 < (l33.length : Int))))] (by kernel_rfl) ?_
 refine EL.done (by kernel_rfl) ?_
 refine EQ.code ?_
 refine EW.cdP (a0 < (l33.length : Int)) (by kernel_rfl) (by kernel_rfl) (fun a1 => ?_) (fun a1 => ?_)
 ·rw [if_pos a1] at H
  refine EW.skip (by kernel_rfl) ?_
  refine EQ.code ?_
  refine EW.sq (by kernel_rfl) ?_
  refine EW.bl 1 (by kernel_rfl) ?_
  refine EW.sq (by kernel_rfl) ?_
  refine EW.rg (by kernel_rfl) ?_
  refine EL.quick 2 [0, 3, 13, 14] [(0, sv A34 C35 l33), (3, ia a0), (13, sv A34 C35 l33), (14, ia a0)] (by kernel_rfl) ?_
  obtain ⟨a4, H⟩ := ite_in H
  obtain ⟨a2, rfl⟩ := St.rd_some hS (Rd.ro 0 rfl) a4 a1
  refine EL.of (EO.Y (YO.idx 26 1 a2 l33.length C35 .i64 a0 15 (by kernel_rfl) (by kernel_rfl) (by kernel_rfl) (by kernel_rfl) a4 a1) ?_)
  refine EL.of (EO.loadSl hS kS59 a2 C35 l33 (Rd.ro 0 rfl) a0 a4 a1 56 16 (by kernel_rfl) (by kernel_rfl) (by kernel_rfl) (by kernel_rfl) ?_)
  intro a6 a7 hS
  refine EL.quick 2 [0, 3, 18] [(0, sv (some a2) C35 l33), (3, ia a0), (18, .bool (decide (((l33.getD a0.toNat []).length : Int) > 40)))] (by kernel_rfl) ?_
  refine EL.done (by kernel_rfl) ?_
  refine EQ.code ?_
  refine EW.cdP (((l33.getD a0.toNat []).length : Int) > 40) (by kernel_rfl) (by kernel_rfl) (fun a5 => ?_) (fun a5 => ?_)
  ·rw [if_pos a5] at H
   refine EW.sq (by kernel_rfl) ?_
   refine EW.rg (by kernel_rfl) ?_
   refine EL.quick 1 [2] [(2, .bool (false))] (by kernel_rfl) ?_
   refine EL.done (by kernel_rfl) ?_
   refine EQ.code ?_
   refine EW.ret (by kernel_rfl) ?_
   refine EQ.ret ?_
   refine EQ.ret ?_
   refine EQ.ret ?_
   refine EQ.ret ?_
   refine EQ.ret ?_
   obtain rfl := Option.some.inj H
   exact EQ.leave (.bool (false)) (by kernel_rfl) ⟨_, rfl, rfl, (hS.re [] [] rfl (sub_tail (sub_self)))⟩
  rw [if_neg a5] at H
  refine EW.skip (by kernel_rfl) ?_
  refine EQ.pop ?_
  refine EQ.code ?_
  refine EW.rg (by kernel_rfl) ?_
  refine EL.quick 3 [0, 3] [(0, sv (some a2) C35 l33), (3, ia (IntKind.i64.wrap (a0 + 1)))] (by kernel_rfl) ?_
  refine EL.done (by kernel_rfl) ?_
  refine EQ.to ?_
  refine EQ.keep [0, 3] [(0, sv (some a2) C35 l33), (3, ia (IntKind.i64.wrap (a0 + 1)))] (by kernel_rfl) ?_
  exact fun a ha => ⟨n, Nat.lt_succ_self n, IntKind.i64.wrap (a0 + 1), ha, (hS.re [] [] rfl (sub_cons 1 rfl (sub_tail (sub_tail (sub_self))))), H⟩
 rw [if_neg a1] at H
 refine EW.exit (id := 0) (by kernel_rfl) ?_
 refine EQ.exitCode ?_
 refine EQ.exitTo ?_
 refine EQ.exitHere ?_
 refine EQ.code ?_
 refine EW.sq (by kernel_rfl) ?_
 refine EW.rg (by kernel_rfl) ?_
 refine EL.quick 1 [2] [(2, .bool (true))] (by kernel_rfl) ?_
 refine EL.done (by kernel_rfl) ?_
 refine EQ.code ?_
 refine EW.ret (by kernel_rfl) ?_
 obtain rfl := Option.some.inj H
 exact EQ.leave (.bool (true)) (by kernel_rfl) ⟨_, rfl, rfl, (hS.re [] [] rfl (sub_self))⟩

/-! ### confidant/confidantref5.ImageText: function 7 -/
def confidantref5_ImageText.l1 (K : Nat) (a1 : Int) (a0 : List (List S59)) (b2 : ByteArray → Option ByteArray) : Nat → ByteArray → Int → Option ByteArray
 | 0, _, _ => none
 | n + 1, a5, a3 => if 0 ≤ a1 then (if a3 < ((a0.getD a1.toNat []).length : Int) then (if 0 ≤ a3 then (b1 (confidantref5_Text.f K (((a0.getD a1.toNat []).getD a3.toNat zS59).f0) (((a0.getD a1.toNat []).getD a3.toNat zS59).f1)) fun (a8 : ByteArray) => (if a5.size + a8.size ≤ 9223372036854775807 then (if (a5 ++ a8).size + (⟨#[10]⟩ : ByteArray).size ≤ 9223372036854775807 then (confidantref5_ImageText.l1 K a1 a0 b2 n ((a5 ++ a8) ++ (⟨#[10]⟩ : ByteArray)) (IntKind.i64.wrap (a3 + 1))) else none) else none)) else none) else (b2 a5)) else none
def confidantref5_ImageText.l0 (K : Nat) (a0 : List (List S59)) : Nat → ByteArray → Int → Option ByteArray
 | 0, _, _ => none
 | n + 1, a6, a1 => if a1 < (a0.length : Int) then (lt (fun (b0 : ByteArray) => (confidantref5_ImageText.l0 K a0 n b0 (IntKind.i64.wrap (a1 + 1)))) fun b2 => (if a6.size + (⟨#[102, 117, 110, 99, 10]⟩ : ByteArray).size ≤ 9223372036854775807 then (confidantref5_ImageText.l1 K a1 a0 b2 K (a6 ++ (⟨#[102, 117, 110, 99, 10]⟩ : ByteArray)) 0) else none)) else (some a6)
def confidantref5_ImageText.f (K : Nat) (a0 : List (List S59)) : Option ByteArray := confidantref5_ImageText.l0 K a0 K (⟨#[]⟩ : ByteArray) 0
set_option maxRecDepth 100000 in
theorem confidantref5_ImageText.calls {K : Nat} {a0 : List (List S59)} {a4 : Option Addr} {a2 : Nat} {b5 : ByteArray} {B w : World} {os : List Ass} {rs : List Ro} (H : confidantref5_ImageText.f K a0 = some b5) (hS : St B w (os) (Ro.sl (Kd.slice kS59) a4 a2 a0 :: rs)) :
  Calls Tryz.prog 7 [sv a4 a2 a0].toArray w (fun en w' => ∃ v, en = .returned v ∧ v = .string b5 ∧ St B w' (os) (Ro.sl (Kd.slice kS59) a4 a2 a0 :: rs)) := by
 unfold confidantref5_ImageText.f at H
 refine calls_of_EW (args := [sv a4 a2 a0]) (c := Cd7) 35 Tryz.func7 (by kernel_rfl) (by kernel_rfl) (by kernel_rfl) ?_
 refine EW.sq (by kernel_rfl) ?_
 refine EW.rg (by kernel_rfl) ?_
 refine EL.quick 1 [0] [(0, sv a4 a2 a0)] (by kernel_rfl) ?_
 refine EL.done (by kernel_rfl) ?_
 refine EQ.code ?_
 refine EW.sq (by kernel_rfl) ?_
 refine EW.rg (by kernel_rfl) ?_
 refine EL.quick 1 [0, 3] [(0, sv a4 a2 a0), (3, .string (⟨#[]⟩ : ByteArray))] (by kernel_rfl) ?_
 refine EL.done (by kernel_rfl) ?_
 refine EQ.code ?_
 refine EW.sq (by kernel_rfl) ?_
 refine EW.sq (by kernel_rfl) ?_
 refine EW.rg (by kernel_rfl) ?_
 refine EL.quick 1 [0, 3, 4] [(0, sv a4 a2 a0), (3, .string (⟨#[]⟩ : ByteArray)), (4, ia 0)] (by kernel_rfl) ?_
 refine EL.done (by kernel_rfl) ?_
 refine EQ.code ?_
 refine EW.bl 0 (by kernel_rfl) ?_
 refine EW.lp (fun n a w => ∃ a6 : ByteArray, ∃ a1 : Int, Sat 35 [(0, sv a4 a2 a0), (3, .string a6), (4, ia a1)] a ∧ St B w (os) (Ro.sl (Kd.slice kS59) a4 a2 a0 :: rs) ∧ confidantref5_ImageText.l0 K a0 n a6 a1 = some b5) K (by kernel_rfl) ?_ (fun n a w hI => ?_)
 ·refine EQ.keep [0, 3, 4] [(0, sv a4 a2 a0), (3, .string (⟨#[]⟩ : ByteArray)), (4, ia 0)] (by kernel_rfl) ?_
  exact fun a ha => ⟨(⟨#[]⟩ : ByteArray), 0, ha, (hS.re [] [] rfl (sub_cons 0 rfl (sub_tail (sub_self)))), H⟩
 obtain ⟨a6, a1, ha, hS, H⟩ := hI
 obtain _ | n := n
 ·simp [confidantref5_ImageText.l0] at H
 rw [confidantref5_ImageText.l0.eq_2] at H
 refine EW.at ?_ a ha
 clear ha a
 refine EW.sq (by kernel_rfl) ?_
 refine EW.sq (by kernel_rfl) ?_
 refine EW.rg (by kernel_rfl) ?_
 refine EL.quick 4 [0, 3, 4, 9] [(0, sv a4 a2 a0), (3, .string a6), (4, ia a1), (9, .bool (decide (a1 < (a0.length : Int))))] (by kernel_rfl) ?_
 refine EL.done (by kernel_rfl) ?_
 refine EQ.code ?_
 refine EW.cdP (a1 < (a0.length : Int)) (by kernel_rfl) (by kernel_rfl) (fun a9 => ?_) (fun a9 => ?_)
 ·rw [if_pos a9] at H
  refine EW.skip (by kernel_rfl) ?_
  refine EQ.code ?_
  obtain ⟨b2, c4, H⟩ := lt_out H
  refine EW.ct (fun a w => ∃ b0 : ByteArray, Sat 35 [(0, sv a4 a2 a0), (3, .string b0), (4, ia a1)] a ∧ St B w (os) (Ro.sl (Kd.slice kS59) a4 a2 a0 :: rs) ∧ b2 b0 = some b5) (by kernel_rfl) ?_ (fun a w hI => ?_)
  ·refine EW.bl 1 (by kernel_rfl) ?_
   refine EW.sq (by kernel_rfl) ?_
   refine EW.rg (by kernel_rfl) ?_
   refine EL.quick 1 [0, 4, 12] [(0, sv a4 a2 a0), (4, ia a1), (12, .string a6)] (by kernel_rfl) ?_
   obtain ⟨c0, H⟩ := ite_in H
   refine EL.of (EO.Y (YO.strCat a6 (⟨#[102, 117, 110, 99, 10]⟩ : ByteArray) 13 (by kernel_rfl) (by kernel_rfl) (by kernel_rfl) c0) ?_)
   refine EL.quick 1 [0, 3, 4] [(0, sv a4 a2 a0), (3, .string (a6 ++ (⟨#[102, 117, 110, 99, 10]⟩ : ByteArray))), (4, ia a1)] (by kernel_rfl) ?_
   refine EL.done (by kernel_rfl) ?_
   refine EQ.code ?_
   refine EW.sq (by kernel_rfl) ?_
   refine EW.rg (by kernel_rfl) ?_
   refine EL.quick 1 [0, 3, 4, 5] [(0, sv a4 a2 a0), (3, .string (a6 ++ (⟨#[102, 117, 110, 99, 10]⟩ : ByteArray))), (4, ia a1), (5, ia 0)] (by kernel_rfl) ?_
   refine EL.done (by kernel_rfl) ?_
   refine EQ.code ?_
   refine EW.bl 2 (by kernel_rfl) ?_
   refine EW.lp (fun n a w => ∃ a5 : ByteArray, ∃ a3 : Int, Sat 35 [(0, sv a4 a2 a0), (3, .string a5), (4, ia a1), (5, ia a3)] a ∧ St B w (os) (Ro.sl (Kd.slice kS59) a4 a2 a0 :: rs) ∧ confidantref5_ImageText.l1 K a1 a0 b2 n a5 a3 = some b5) K (by kernel_rfl) ?_ (fun n a w hI => ?_)
   ·refine EQ.keep [0, 3, 4, 5] [(0, sv a4 a2 a0), (3, .string (a6 ++ (⟨#[102, 117, 110, 99, 10]⟩ : ByteArray))), (4, ia a1), (5, ia 0)] (by kernel_rfl) ?_
    exact fun a ha => ⟨(a6 ++ (⟨#[102, 117, 110, 99, 10]⟩ : ByteArray)), 0, ha, (hS.re [] [] rfl (sub_cons 0 rfl (sub_tail (sub_self)))), H⟩
   obtain ⟨a5, a3, ha, hS, H⟩ := hI
   obtain _ | n := n
   ·simp [confidantref5_ImageText.l1] at H
   rw [confidantref5_ImageText.l1.eq_2] at H
   refine EW.at ?_ a ha
   clear ha a
   refine EW.sq (by kernel_rfl) ?_
   refine EW.sq (by kernel_rfl) ?_
   refine EW.rg (by kernel_rfl) ?_
   refine EL.quick 3 [0, 3, 4, 5, 14, 15, 16] [(0, sv a4 a2 a0), (3, .string a5), (4, ia a1), (5, ia a3), (14, ia a3), (15, sv a4 a2 a0), (16, ia a1)] (by kernel_rfl) ?_
   obtain ⟨b4, H⟩ := ite_in H
   obtain ⟨a7, rfl⟩ := St.rd_some hS (Rd.ro 0 rfl) b4 a9
   refine EL.of (EO.Y (YO.idx 26 1 a7 a0.length a2 .i64 a1 17 (by kernel_rfl) (by kernel_rfl) (by kernel_rfl) (by kernel_rfl) b4 a9) ?_)
   refine EL.of (EO.loadSl hS kS59 a7 a2 a0 (Rd.ro 0 rfl) a1 b4 a9 56 18 (by kernel_rfl) (by kernel_rfl) (by kernel_rfl) (by kernel_rfl) ?_)
   intro c5 c6 hS
   refine EL.quick 2 [0, 3, 4, 5, 20] [(0, sv (some a7) a2 a0), (3, .string a5), (4, ia a1), (5, ia a3), (20, .bool (decide (a3 < ((a0.getD a1.toNat []).length : Int))))] (by kernel_rfl) ?_
   refine EL.done (by kernel_rfl) ?_
   refine EQ.code ?_
   refine EW.cdP (a3 < ((a0.getD a1.toNat []).length : Int)) (by kernel_rfl) (by kernel_rfl) (fun b3 => ?_) (fun b3 => ?_)
   ·rw [if_pos b3] at H
    refine EW.skip (by kernel_rfl) ?_
    refine EQ.code ?_
    refine EW.sq (by kernel_rfl) ?_
    refine EW.bl 3 (by kernel_rfl) ?_
    refine EW.rg (by kernel_rfl) ?_
    refine EL.quick 3 [0, 4, 5, 23, 24, 25] [(0, sv (some a7) a2 a0), (4, ia a1), (5, ia a3), (23, .string a5), (24, sv (some a7) a2 a0), (25, ia a1)] (by kernel_rfl) ?_
    refine EL.of (EO.Y (YO.idx 26 1 a7 a0.length a2 .i64 a1 26 (by kernel_rfl) (by kernel_rfl) (by kernel_rfl) (by kernel_rfl) b4 a9) ?_)
    refine EL.of (EO.loadSl hS kS59 a7 a2 a0 (Rd.ro 1 rfl) a1 b4 a9 56 27 (by kernel_rfl) (by kernel_rfl) (by kernel_rfl) (by kernel_rfl) ?_)
    intro b9 b6 hS
    refine EL.quick 1 [0, 4, 5, 23, 27, 28] [(0, sv (some a7) a2 a0), (4, ia a1), (5, ia a3), (23, .string a5), (27, sv b9 b6 (a0.getD a1.toNat [])), (28, ia a3)] (by kernel_rfl) ?_
    obtain ⟨b7, H⟩ := ite_in H
    obtain ⟨b8, rfl⟩ := St.rd_some hS (Rd.ro 0 rfl) b7 b3
    refine EL.of (EO.Y (YO.idx 56 2 b8 (a0.getD a1.toNat []).length b6 .i64 a3 29 (by kernel_rfl) (by kernel_rfl) (by kernel_rfl) (by kernel_rfl) b7 b3) ?_)
    refine EL.of (EO.Y (YO.loadEl hS kS59 b8 b6 (a0.getD a1.toNat []) (Rd.ro 0 rfl) zS59 encS59 encS59_of a3 b7 b3 59 2 0 2 rfl (ag [ia (((a0.getD a1.toNat []).getD a3.toNat zS59).f0), ib (((a0.getD a1.toNat []).getD a3.toNat zS59).f1)]) 30 (by kernel_rfl) (by kernel_rfl) (by kernel_rfl) (by kernel_rfl)) ?_)
    obtain ⟨a8, c3, H⟩ := b1_out H
    have hq := confidantref5_Text.calls c3 hS
    refine EL.of (EO.callD 22 [ag [ia (((a0.getD a1.toNat []).getD a3.toNat zS59).f0), ib (((a0.getD a1.toNat []).getD a3.toNat zS59).f1)]] _ 31 (by kernel_rfl) (by kernel_rfl) (by kernel_rfl) hq ?_)
    rintro v w ⟨rfl, hS⟩
    obtain ⟨c1, H⟩ := ite_in H
    refine EL.of (EO.Y (YO.strCat a5 a8 32 (by kernel_rfl) (by kernel_rfl) (by kernel_rfl) c1) ?_)
    obtain ⟨c2, H⟩ := ite_in H
    refine EL.of (EO.Y (YO.strCat (a5 ++ a8) (⟨#[10]⟩ : ByteArray) 33 (by kernel_rfl) (by kernel_rfl) (by kernel_rfl) c2) ?_)
    refine EL.quick 1 [0, 3, 4, 5] [(0, sv (some a7) a2 a0), (3, .string ((a5 ++ a8) ++ (⟨#[10]⟩ : ByteArray))), (4, ia a1), (5, ia a3)] (by kernel_rfl) ?_
    refine EL.done (by kernel_rfl) ?_
    refine EQ.pop ?_
    refine EQ.code ?_
    refine EW.rg (by kernel_rfl) ?_
    refine EL.quick 3 [0, 3, 4, 5] [(0, sv (some a7) a2 a0), (3, .string ((a5 ++ a8) ++ (⟨#[10]⟩ : ByteArray))), (4, ia a1), (5, ia (IntKind.i64.wrap (a3 + 1)))] (by kernel_rfl) ?_
    refine EL.done (by kernel_rfl) ?_
    refine EQ.to ?_
    refine EQ.keep [0, 3, 4, 5] [(0, sv (some a7) a2 a0), (3, .string ((a5 ++ a8) ++ (⟨#[10]⟩ : ByteArray))), (4, ia a1), (5, ia (IntKind.i64.wrap (a3 + 1)))] (by kernel_rfl) ?_
    exact fun a ha => ⟨n, Nat.lt_succ_self n, ((a5 ++ a8) ++ (⟨#[10]⟩ : ByteArray)), IntKind.i64.wrap (a3 + 1), ha, (hS.re [] [] rfl (sub_cons 2 rfl (sub_tail (sub_tail (sub_tail (sub_self)))))), H⟩
   rw [if_neg b3] at H
   refine EW.exit (id := 2) (by kernel_rfl) ?_
   refine EQ.exitCode ?_
   refine EQ.exitTo ?_
   refine EQ.exitHere ?_
   refine EQ.pop ?_
   refine EQ.to ?_
   refine EQ.keep [0, 3, 4] [(0, sv (some a7) a2 a0), (3, .string a5), (4, ia a1)] (by kernel_rfl) ?_
   exact fun a ha => ⟨a5, ha, (hS.re [] [] rfl (sub_cons 1 rfl (sub_tail (sub_tail (sub_self))))), H⟩
  obtain ⟨b0, ha, hS, H⟩ := hI
  rw [c4] at H
  (try dsimp only at H)
  refine EW.at ?_ a ha
  clear ha a
  refine EW.rg (by kernel_rfl) ?_
  refine EL.quick 3 [0, 3, 4] [(0, sv a4 a2 a0), (3, .string b0), (4, ia (IntKind.i64.wrap (a1 + 1)))] (by kernel_rfl) ?_
  refine EL.done (by kernel_rfl) ?_
  refine EQ.to ?_
  refine EQ.keep [0, 3, 4] [(0, sv a4 a2 a0), (3, .string b0), (4, ia (IntKind.i64.wrap (a1 + 1)))] (by kernel_rfl) ?_
  exact fun a ha => ⟨n, Nat.lt_succ_self n, b0, IntKind.i64.wrap (a1 + 1), ha, (hS.re [] [] rfl (sub_cons 0 rfl (sub_tail (sub_self)))), H⟩
 rw [if_neg a9] at H
 refine EW.exit (id := 0) (by kernel_rfl) ?_
 refine EQ.exitCode ?_
 refine EQ.exitTo ?_
 refine EQ.exitHere ?_
 refine EQ.code ?_
 refine EW.sq (by kernel_rfl) ?_
 refine EW.rg (by kernel_rfl) ?_
 refine EL.quick 2 [2] [(2, .string a6)] (by kernel_rfl) ?_
 refine EL.done (by kernel_rfl) ?_
 refine EQ.code ?_
 refine EW.ret (by kernel_rfl) ?_
 obtain rfl := Option.some.inj H
 exact EQ.leave (.string a6) (by kernel_rfl) ⟨_, rfl, rfl, (hS.re [] [] rfl (sub_self))⟩

end Go.Proofs.YtiilloijkbabbaaGreatDoor.G
