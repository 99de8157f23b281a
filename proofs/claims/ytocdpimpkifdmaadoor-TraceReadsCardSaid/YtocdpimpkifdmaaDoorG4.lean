import Derived.Test.YtocdpimpkifdmaaDoorProg
import Derived.Test.YtocdpimpkifdmaaDoorFwShort
import Derived.Test.YtocdpimpkifdmaaDoorFwOpen
import Derived.Test.YtocdpimpkifdmaaDoorDoor
import Derived.Test.YtocdpimpkifdmaaDoorG0
import Derived.Test.YtocdpimpkifdmaaDoorG1
import Derived.Test.YtocdpimpkifdmaaDoorG3
namespace Go.Proofs.YtocdpimpkifdmaaDoor.G
open Go Go.Fw Go.RowKit Go.Proofs
set_option linter.unusedVariables false
set_option linter.unusedSimpArgs false

/-! ### confidant/confidantlaw23.TraceParts: function 5 -/
def confidantlaw23_TraceParts.l0 (K : Nat) (a0 : List S28) (a1 : List S28) (a9 : Int) (a10 : Int) (d9 : Int → Option Bool) : Nat → Int → Int → Option Bool
 | 0, _, _ => none
 | n + 1, a4, a2 => if a2 < (a0.length : Int) then (lt (fun (d6 : Int) => (confidantlaw23_TraceParts.l0 K a0 a1 a9 a10 d9 n d6 (IntKind.i64.wrap (a2 + 1)))) fun i0 => (lt (fun (f7 : Bool) => (if f7 = true then (lt (fun (f8 : Bool) => (if f8 = true then (some false) else (i0 (IntKind.i64.wrap (a4 + 1))))) fun i2 => (if a4 ≥ (a1.length : Int) then (i2 true) else (if 0 ≤ a4 then (if a4 < (a1.length : Int) then (if 0 ≤ a2 then (i2 (!(((((a1.getD a4.toNat zS28).f0) == ((a0.getD a2.toNat zS28).f0)) && ((((a1.getD a4.toNat zS28).f1) == ((a0.getD a2.toNat zS28).f1)) && ((((a1.getD a4.toNat zS28).f2) == ((a0.getD a2.toNat zS28).f2)) && ((((a1.getD a4.toNat zS28).f3) == ((a0.getD a2.toNat zS28).f3)) && ((((a1.getD a4.toNat zS28).f4) == ((a0.getD a2.toNat zS28).f4)) && ((((a1.getD a4.toNat zS28).f5) == ((a0.getD a2.toNat zS28).f5)) && ((((a1.getD a4.toNat zS28).f6) == ((a0.getD a2.toNat zS28).f6)) && true)))))))))) else none) else none) else none))) else (i0 a4))) fun i1 => (if 0 ≤ a2 then (if ((a0.getD a2.toNat zS28).f1) = (IntKind.i64.wrap (Int.tmod a9 16)) then (i1 (decide (((a0.getD a2.toNat zS28).f2) = (IntKind.i64.wrap ((IntKind.i64.wrap (Int.tmod a10 11)) + 1))))) else (i1 false)) else none))) else (d9 a4)
def confidantlaw23_TraceParts.f (K : Nat) (l6 : List S50) (a9 : Int) (a10 : Int) : Option Bool := b1 (confidantlaw23_known.f K) fun (g3 : Bool) => (if g3 = true then (if (l6.length : Int) > 30 then (some true) else (b1 (confidantlaw23_some.f K l6) fun (a0 : List S28) => (lt ([IntKind.i64.wrap (Int.tmod a9 16)] : List Int) fun b6 => (b1 (trace_Of.f K a0 b6) fun (b8 : List S28) => (lt ([IntKind.i64.wrap ((IntKind.i64.wrap (Int.tmod a10 11)) + 1)] : List Int) fun b7 => (b1 (trace_Kinds.f K b8 b7) fun (a1 : List S28) => (lt ([IntKind.i64.wrap ((IntKind.i64.wrap (Int.tmod a10 11)) + 1)] : List Int) fun b9 => (b1 (trace_Kinds.f K a0 b9) fun (c4 : List S28) => (lt ([IntKind.i64.wrap (Int.tmod a9 16)] : List Int) fun c3 => (b1 (trace_Of.f K c4 c3) fun (a7 : List S28) => (lt (fun (d2 : Int) => (b1 (trace_New.f K) fun (i3 : List S28) => (if 0 ≤ (IntKind.i64.wrap (Int.tdiv (a0.length : Int) 2)) then (if (IntKind.i64.wrap (Int.tdiv (a0.length : Int) 2)) ≤ (a0.length : Int) then (lt (a0.take ((IntKind.i64.wrap (Int.tdiv (a0.length : Int) 2)).toNat)) fun d4 => (b1 (trace_Trace_Add.f K i3 d4) fun (i4 : List S28) => (lt (a0.drop ((IntKind.i64.wrap (Int.tdiv (a0.length : Int) 2)).toNat)) fun d5 => (b1 (trace_Trace_Add.f K i4 d5) fun (i5 : List S28) => (if d2 = (a1.length : Int) then (b1 (confidantref21_SameEvents.f K a1 a7) fun (e8 : Bool) => (if e8 = true then (b2 (trace_Trace_All.f K i5) fun (e0 : List S28) (e1 : List S28) => (b1 (confidantref21_SameEvents.f K e1 a0) fun (e9 : Bool) => (if e9 = true then (b1 (trace_Of.f K a0 ([] : List Int)) fun (e2 : List S28) => (if (e2.length : Int) = 0 then (lt ([0, 12] : List Int) fun g2 => (b1 (trace_Kinds.f K a0 g2) fun (i6 : List S28) => (some (decide ((i6.length : Int) = 0))))) else (some false))) else (some false)))) else (some false))) else (some false)))))) else none) else none))) fun d9 => (confidantlaw23_TraceParts.l0 K a0 a1 a9 a10 d9 K 0 0)))))))))))) else (some false))
set_option maxRecDepth 100000 in
theorem confidantlaw23_TraceParts.calls {K : Nat} {l6 : List S50} {a9 : Int} {a10 : Int} {A7 : Option Addr} {C8 : Nat} {e3 : Bool} {B w : World} {os : List Ass} {rs : List Ro} (H : confidantlaw23_TraceParts.f K l6 a9 a10 = some e3) (hS : St B w (os) (Ro.sl kS50 A7 C8 l6 :: rs)) (gB : Glob B) :
  Calls Tryd.prog 5 [sv A7 C8 l6, ig a9, ig a10].toArray w (fun en w' => ∃ v, en = .returned v ∧ v = .bool (e3) ∧ St B w' (os) (Ro.sl kS50 A7 C8 l6 :: rs)) := by
 unfold confidantlaw23_TraceParts.f at H
 refine calls_of_EW (args := [sv A7 C8 l6, ig a9, ig a10]) (c := Cd5) 125 Tryd.func5 (by kernel_rfl) (by kernel_rfl) (by kernel_rfl) ?_
 refine EW.sq (by kernel_rfl) ?_
 refine EW.rg (by kernel_rfl) ?_
 refine EL.quick 1 [0, 1, 2] [(0, sv A7 C8 l6), (1, ig a9), (2, ig a10)] (by kernel_rfl) ?_
 refine EL.done (by kernel_rfl) ?_
 refine EQ.code ?_
 refine EW.sq (by kernel_rfl) ?_
 refine EW.sq (by kernel_rfl) ?_
 refine EW.rg (by kernel_rfl) ?_
 obtain ⟨g3, m8, H⟩ := b1_out H
 have hq := confidantlaw23_known.calls m8 hS gB
 refine EL.of (EO.callD 11 [] _ 15 (by kernel_rfl) (by kernel_rfl) (by kernel_rfl) hq ?_)
 rintro v w ⟨rfl, hS⟩
 refine EL.quick 1 [0, 1, 2, 16] [(0, sv A7 C8 l6), (1, ig a9), (2, ig a10), (16, .bool (!(g3)))] (by kernel_rfl) ?_
 refine EL.done (by kernel_rfl) ?_
 refine EQ.code ?_
 refine EW.cdQ (b := !(g3)) (g3 = true) (false) (by kernel_rfl) (by kernel_rfl) ⟨fun h => (by rw [h] <;> rfl), fun h => (by rw [Bool.eq_false_iff.2 h] <;> rfl)⟩ (fun i7 => ?_) (fun i7 => ?_)
 ·rw [if_pos i7] at H
  refine EW.skip (by kernel_rfl) ?_
  refine EQ.code ?_
  refine EW.sq (by kernel_rfl) ?_
  refine EW.sq (by kernel_rfl) ?_
  refine EW.rg (by kernel_rfl) ?_
  refine EL.quick 3 [0, 1, 2, 19] [(0, sv A7 C8 l6), (1, ig a9), (2, ig a10), (19, .bool (decide ((l6.length : Int) > 30)))] (by kernel_rfl) ?_
  refine EL.done (by kernel_rfl) ?_
  refine EQ.code ?_
  refine EW.cdP ((l6.length : Int) > 30) (by kernel_rfl) (by kernel_rfl) (fun i8 => ?_) (fun i8 => ?_)
  ·rw [if_pos i8] at H
   refine EW.sq (by kernel_rfl) ?_
   refine EW.rg (by kernel_rfl) ?_
   refine EL.quick 1 [6] [(6, .bool (true))] (by kernel_rfl) ?_
   refine EL.done (by kernel_rfl) ?_
   refine EQ.code ?_
   refine EW.ret (by kernel_rfl) ?_
   refine EQ.ret ?_
   obtain rfl := Option.some.inj H
   exact EQ.leave (.bool (true)) (by kernel_rfl) ⟨_, rfl, rfl, (hS.re [] [] rfl (sub_self))⟩
  rw [if_neg i8] at H
  refine EW.skip (by kernel_rfl) ?_
  refine EQ.code ?_
  refine EW.sq (by kernel_rfl) ?_
  refine EW.rg (by kernel_rfl) ?_
  refine EL.quick 1 [1, 2, 20] [(1, ig a9), (2, ig a10), (20, sv A7 C8 l6)] (by kernel_rfl) ?_
  have hS : St B _ (os) (Ro.sl kS50 A7 C8 l6 :: rs) := hS.re [] [] rfl (sub_cons 0 rfl (sub_tail (sub_self)))
  obtain ⟨a0, m9, H⟩ := b1_out H
  have hq := confidantlaw23_some.calls m9 hS
  refine EL.of (EO.callD 12 [sv A7 C8 l6] _ 21 (by kernel_rfl) (by kernel_rfl) (by kernel_rfl) hq ?_)
  rintro v w ⟨a5, a3, rfl, hS⟩
  refine EL.quick 1 [1, 2, 7] [(1, ig a9), (2, ig a10), (7, sv a5 a3 a0)] (by kernel_rfl) ?_
  refine EL.done (by kernel_rfl) ?_
  refine EQ.code ?_
  refine EW.sq (by kernel_rfl) ?_
  refine EW.rg (by kernel_rfl) ?_
  refine EL.quick 9 [7, 8, 9] [(7, sv a5 a3 a0), (8, ia (IntKind.i64.wrap (Int.tmod a9 16))), (9, ia (IntKind.i64.wrap ((IntKind.i64.wrap (Int.tmod a10 11)) + 1)))] (by kernel_rfl) ?_
  refine EL.done (by kernel_rfl) ?_
  refine EQ.code ?_
  refine EW.sq (by kernel_rfl) ?_
  refine EW.rg (by kernel_rfl) ?_
  refine EL.quick 2 [7, 8, 9, 29, 30] [(7, sv a5 a3 a0), (8, ia (IntKind.i64.wrap (Int.tmod a9 16))), (9, ia (IntKind.i64.wrap ((IntKind.i64.wrap (Int.tmod a10 11)) + 1))), (29, sv a5 a3 a0), (30, ia (IntKind.i64.wrap (Int.tmod a9 16)))] (by kernel_rfl) ?_
  obtain ⟨b6, m1, H⟩ := lt_out H
  refine EL.of (EO.lit hS (Kd.int .i64) 3 24 1 #[(0, ia (IntKind.i64.wrap (Int.tmod a9 16)))] [ia (IntKind.i64.wrap (Int.tmod a9 16))] b6 31 (by kernel_rfl) (by kernel_rfl) (by kernel_rfl) (fun _ => (by kernel_rfl)) (by rw [m1]; rfl) (by kernel_rfl) (fun w G hr => (by rw [m1]; exact ⟨[ia (IntKind.i64.wrap (Int.tmod a9 16))], [], rfl, rfl, rfl⟩)) ?_)
  intro c2 w hS
  have hS := St.fr hS 1 rfl
  have hS := St.fr hS 0 rfl
  have hS : St B _ (os) (Ro.sl kS28 a5 a3 a0 :: Ro.sl (Kd.int .i64) (some ⟨c2, 0, none⟩) 1 b6 :: Ro.sl kS50 A7 C8 l6 :: rs) := hS.re [] [] rfl (sub_cons 1 rfl (sub_cons 0 rfl (sub_tail (sub_tail (sub_self)))))
  obtain ⟨b8, n0, H⟩ := b1_out H
  have hq := trace_Of.calls n0 hS
  refine EL.of (EO.callD 19 [sv a5 a3 a0, sv (some ⟨c2, 0, none⟩) 1 b6] _ 32 (by kernel_rfl) (by kernel_rfl) (by kernel_rfl) hq ?_)
  rintro v w ⟨c0, c1, rfl, hS⟩
  refine EL.quick 1 [7, 8, 9, 32, 33] [(7, sv a5 a3 a0), (8, ia (IntKind.i64.wrap (Int.tmod a9 16))), (9, ia (IntKind.i64.wrap ((IntKind.i64.wrap (Int.tmod a10 11)) + 1))), (32, sv c0 c1 b8), (33, ia (IntKind.i64.wrap ((IntKind.i64.wrap (Int.tmod a10 11)) + 1)))] (by kernel_rfl) ?_
  obtain ⟨b7, m2, H⟩ := lt_out H
  refine EL.of (EO.lit hS (Kd.int .i64) 3 24 1 #[(0, ia (IntKind.i64.wrap ((IntKind.i64.wrap (Int.tmod a10 11)) + 1)))] [ia (IntKind.i64.wrap ((IntKind.i64.wrap (Int.tmod a10 11)) + 1))] b7 34 (by kernel_rfl) (by kernel_rfl) (by kernel_rfl) (fun _ => (by kernel_rfl)) (by rw [m2]; rfl) (by kernel_rfl) (fun w G hr => (by rw [m2]; exact ⟨[ia (IntKind.i64.wrap ((IntKind.i64.wrap (Int.tmod a10 11)) + 1))], [], rfl, rfl, rfl⟩)) ?_)
  intro c5 w hS
  have hS := St.fr hS 1 rfl
  have hS := St.fr hS 0 rfl
  have hS : St B _ (os) (Ro.sl kS28 c0 c1 b8 :: Ro.sl (Kd.int .i64) (some ⟨c5, 0, none⟩) 1 b7 :: Ro.sl kS28 a5 a3 a0 :: Ro.sl (Kd.int .i64) (some ⟨c2, 0, none⟩) 1 b6 :: Ro.sl kS50 A7 C8 l6 :: rs) := hS.re [] [] rfl (sub_cons 1 rfl (sub_cons 0 rfl (sub_tail (sub_tail (sub_self)))))
  obtain ⟨a1, n1, H⟩ := b1_out H
  have hq := trace_Kinds.calls n1 hS
  refine EL.of (EO.callD 21 [sv c0 c1 b8, sv (some ⟨c5, 0, none⟩) 1 b7] _ 35 (by kernel_rfl) (by kernel_rfl) (by kernel_rfl) hq ?_)
  rintro v w ⟨b3, a6, rfl, hS⟩
  refine EL.quick 1 [7, 8, 9, 10] [(7, sv a5 a3 a0), (8, ia (IntKind.i64.wrap (Int.tmod a9 16))), (9, ia (IntKind.i64.wrap ((IntKind.i64.wrap (Int.tmod a10 11)) + 1))), (10, sv b3 a6 a1)] (by kernel_rfl) ?_
  refine EL.done (by kernel_rfl) ?_
  refine EQ.code ?_
  refine EW.sq (by kernel_rfl) ?_
  refine EW.rg (by kernel_rfl) ?_
  refine EL.quick 2 [7, 8, 9, 10, 36, 37] [(7, sv a5 a3 a0), (8, ia (IntKind.i64.wrap (Int.tmod a9 16))), (9, ia (IntKind.i64.wrap ((IntKind.i64.wrap (Int.tmod a10 11)) + 1))), (10, sv b3 a6 a1), (36, sv a5 a3 a0), (37, ia (IntKind.i64.wrap ((IntKind.i64.wrap (Int.tmod a10 11)) + 1)))] (by kernel_rfl) ?_
  obtain ⟨b9, m3, H⟩ := lt_out H
  refine EL.of (EO.lit hS (Kd.int .i64) 3 24 1 #[(0, ia (IntKind.i64.wrap ((IntKind.i64.wrap (Int.tmod a10 11)) + 1)))] [ia (IntKind.i64.wrap ((IntKind.i64.wrap (Int.tmod a10 11)) + 1))] b9 38 (by kernel_rfl) (by kernel_rfl) (by kernel_rfl) (fun _ => (by kernel_rfl)) (by rw [m3]; rfl) (by kernel_rfl) (fun w G hr => (by rw [m3]; exact ⟨[ia (IntKind.i64.wrap ((IntKind.i64.wrap (Int.tmod a10 11)) + 1))], [], rfl, rfl, rfl⟩)) ?_)
  intro c8 w hS
  have hS := St.fr hS 0 rfl
  have hS : St B _ (Ass.own 28 kS28 b3 a6 a1 :: os) (Ro.sl kS28 a5 a3 a0 :: Ro.sl (Kd.int .i64) (some ⟨c8, 0, none⟩) 1 b9 :: Ro.sl kS28 c0 c1 b8 :: Ro.sl (Kd.int .i64) (some ⟨c5, 0, none⟩) 1 b7 :: Ro.sl (Kd.int .i64) (some ⟨c2, 0, none⟩) 1 b6 :: Ro.sl kS50 A7 C8 l6 :: rs) := hS.re [] [] rfl (sub_cons 3 rfl (sub_cons 0 rfl (sub_cons 1 rfl (sub_cons 2 rfl (sub_tail (sub_tail (sub_tail (sub_tail (sub_self)))))))))
  obtain ⟨c4, n2, H⟩ := b1_out H
  have hq := trace_Kinds.calls n2 hS
  refine EL.of (EO.callD 21 [sv a5 a3 a0, sv (some ⟨c8, 0, none⟩) 1 b9] _ 39 (by kernel_rfl) (by kernel_rfl) (by kernel_rfl) hq ?_)
  rintro v w ⟨c6, c7, rfl, hS⟩
  refine EL.quick 1 [7, 8, 9, 10, 39, 40] [(7, sv a5 a3 a0), (8, ia (IntKind.i64.wrap (Int.tmod a9 16))), (9, ia (IntKind.i64.wrap ((IntKind.i64.wrap (Int.tmod a10 11)) + 1))), (10, sv b3 a6 a1), (39, sv c6 c7 c4), (40, ia (IntKind.i64.wrap (Int.tmod a9 16)))] (by kernel_rfl) ?_
  obtain ⟨c3, m4, H⟩ := lt_out H
  refine EL.of (EO.lit hS (Kd.int .i64) 3 24 1 #[(0, ia (IntKind.i64.wrap (Int.tmod a9 16)))] [ia (IntKind.i64.wrap (Int.tmod a9 16))] c3 41 (by kernel_rfl) (by kernel_rfl) (by kernel_rfl) (fun _ => (by kernel_rfl)) (by rw [m4]; rfl) (by kernel_rfl) (fun w G hr => (by rw [m4]; exact ⟨[ia (IntKind.i64.wrap (Int.tmod a9 16))], [], rfl, rfl, rfl⟩)) ?_)
  intro c9 w hS
  have hS := St.fr hS 1 rfl
  have hS := St.fr hS 0 rfl
  have hS : St B _ (Ass.own 28 kS28 b3 a6 a1 :: os) (Ro.sl kS28 c6 c7 c4 :: Ro.sl (Kd.int .i64) (some ⟨c9, 0, none⟩) 1 c3 :: Ro.sl kS28 a5 a3 a0 :: Ro.sl (Kd.int .i64) (some ⟨c8, 0, none⟩) 1 b9 :: Ro.sl kS28 c0 c1 b8 :: Ro.sl (Kd.int .i64) (some ⟨c5, 0, none⟩) 1 b7 :: Ro.sl (Kd.int .i64) (some ⟨c2, 0, none⟩) 1 b6 :: Ro.sl kS50 A7 C8 l6 :: rs) := hS.re [] [] rfl (sub_cons 1 rfl (sub_cons 0 rfl (sub_tail (sub_tail (sub_self)))))
  obtain ⟨a7, n3, H⟩ := b1_out H
  have hq := trace_Of.calls n3 hS
  refine EL.of (EO.callD 19 [sv c6 c7 c4, sv (some ⟨c9, 0, none⟩) 1 c3] _ 42 (by kernel_rfl) (by kernel_rfl) (by kernel_rfl) hq ?_)
  rintro v w ⟨a8, b0, rfl, hS⟩
  refine EL.quick 1 [7, 8, 9, 10, 11] [(7, sv a5 a3 a0), (8, ia (IntKind.i64.wrap (Int.tmod a9 16))), (9, ia (IntKind.i64.wrap ((IntKind.i64.wrap (Int.tmod a10 11)) + 1))), (10, sv b3 a6 a1), (11, sv a8 b0 a7)] (by kernel_rfl) ?_
  refine EL.done (by kernel_rfl) ?_
  refine EQ.code ?_
  refine EW.sq (by kernel_rfl) ?_
  refine EW.rg (by kernel_rfl) ?_
  refine EL.quick 1 [7, 8, 9, 10, 11, 12] [(7, sv a5 a3 a0), (8, ia (IntKind.i64.wrap (Int.tmod a9 16))), (9, ia (IntKind.i64.wrap ((IntKind.i64.wrap (Int.tmod a10 11)) + 1))), (10, sv b3 a6 a1), (11, sv a8 b0 a7), (12, ia 0)] (by kernel_rfl) ?_
  refine EL.done (by kernel_rfl) ?_
  refine EQ.code ?_
  obtain ⟨d9, o2, H⟩ := lt_out H
  refine EW.ct (fun a w => ∃ d2 : Int, Sat 125 [(7, sv a5 a3 a0), (10, sv b3 a6 a1), (11, sv a8 b0 a7), (12, ia d2)] a ∧ St B w (Ass.own 28 kS28 a8 b0 a7 :: Ass.own 28 kS28 b3 a6 a1 :: os) (Ro.sl kS28 c6 c7 c4 :: Ro.sl (Kd.int .i64) (some ⟨c9, 0, none⟩) 1 c3 :: Ro.sl kS28 a5 a3 a0 :: Ro.sl (Kd.int .i64) (some ⟨c8, 0, none⟩) 1 b9 :: Ro.sl kS28 c0 c1 b8 :: Ro.sl (Kd.int .i64) (some ⟨c5, 0, none⟩) 1 b7 :: Ro.sl (Kd.int .i64) (some ⟨c2, 0, none⟩) 1 b6 :: Ro.sl kS50 A7 C8 l6 :: rs) ∧ d9 d2 = some e3) (by kernel_rfl) ?_ (fun a w hI => ?_)
  ·refine EW.sq (by kernel_rfl) ?_
   refine EW.rg (by kernel_rfl) ?_
   refine EL.quick 1 [7, 8, 9, 10, 11, 12, 13] [(7, sv a5 a3 a0), (8, ia (IntKind.i64.wrap (Int.tmod a9 16))), (9, ia (IntKind.i64.wrap ((IntKind.i64.wrap (Int.tmod a10 11)) + 1))), (10, sv b3 a6 a1), (11, sv a8 b0 a7), (12, ia 0), (13, ia 0)] (by kernel_rfl) ?_
   refine EL.done (by kernel_rfl) ?_
   refine EQ.code ?_
   refine EW.bl 0 (by kernel_rfl) ?_
   refine EW.lp (fun n a w => ∃ a4 : Int, ∃ a2 : Int, Sat 125 [(7, sv a5 a3 a0), (8, ia (IntKind.i64.wrap (Int.tmod a9 16))), (9, ia (IntKind.i64.wrap ((IntKind.i64.wrap (Int.tmod a10 11)) + 1))), (10, sv b3 a6 a1), (11, sv a8 b0 a7), (12, ia a4), (13, ia a2)] a ∧ St B w (Ass.own 28 kS28 a8 b0 a7 :: Ass.own 28 kS28 b3 a6 a1 :: os) (Ro.sl kS28 c6 c7 c4 :: Ro.sl (Kd.int .i64) (some ⟨c9, 0, none⟩) 1 c3 :: Ro.sl kS28 a5 a3 a0 :: Ro.sl (Kd.int .i64) (some ⟨c8, 0, none⟩) 1 b9 :: Ro.sl kS28 c0 c1 b8 :: Ro.sl (Kd.int .i64) (some ⟨c5, 0, none⟩) 1 b7 :: Ro.sl (Kd.int .i64) (some ⟨c2, 0, none⟩) 1 b6 :: Ro.sl kS50 A7 C8 l6 :: rs) ∧ confidantlaw23_TraceParts.l0 K a0 a1 a9 a10 d9 n a4 a2 = some e3) K (by kernel_rfl) ?_ (fun n a w hI => ?_)
   ·refine EQ.keep [7, 8, 9, 10, 11, 12, 13] [(7, sv a5 a3 a0), (8, ia (IntKind.i64.wrap (Int.tmod a9 16))), (9, ia (IntKind.i64.wrap ((IntKind.i64.wrap (Int.tmod a10 11)) + 1))), (10, sv b3 a6 a1), (11, sv a8 b0 a7), (12, ia 0), (13, ia 0)] (by kernel_rfl) ?_
    exact fun a ha => ⟨0, 0, ha, (hS.re [1, 1] [] rfl (sub_cons 0 rfl (sub_cons 1 rfl (sub_cons 2 rfl (sub_cons 3 rfl (sub_cons 4 rfl (sub_cons 5 rfl (sub_cons 6 rfl (sub_cons 7 rfl (sub_tail (sub_tail (sub_tail (sub_tail (sub_tail (sub_tail (sub_tail (sub_tail (sub_self)))))))))))))))))), H⟩
   obtain ⟨a4, a2, ha, hS, H⟩ := hI
   obtain _ | n := n
   ·simp [confidantlaw23_TraceParts.l0] at H
   rw [confidantlaw23_TraceParts.l0.eq_2] at H
   refine EW.at ?_ a ha
   clear ha a
   refine EW.sq (by kernel_rfl) ?_
   refine EW.sq (by kernel_rfl) ?_
   refine EW.rg (by kernel_rfl) ?_
   refine EL.quick 4 [7, 8, 9, 10, 11, 12, 13, 46] [(7, sv a5 a3 a0), (8, ia (IntKind.i64.wrap (Int.tmod a9 16))), (9, ia (IntKind.i64.wrap ((IntKind.i64.wrap (Int.tmod a10 11)) + 1))), (10, sv b3 a6 a1), (11, sv a8 b0 a7), (12, ia a4), (13, ia a2), (46, .bool (decide (a2 < (a0.length : Int))))] (by kernel_rfl) ?_
   refine EL.done (by kernel_rfl) ?_
   refine EQ.code ?_
   refine EW.cdP (a2 < (a0.length : Int)) (by kernel_rfl) (by kernel_rfl) (fun d3 => ?_) (fun d3 => ?_)
   ·rw [if_pos d3] at H
    refine EW.skip (by kernel_rfl) ?_
    refine EQ.code ?_
    obtain ⟨i0, o3, H⟩ := lt_out H
    refine EW.ct (fun a w => ∃ d6 : Int, Sat 125 [(7, sv a5 a3 a0), (8, ia (IntKind.i64.wrap (Int.tmod a9 16))), (9, ia (IntKind.i64.wrap ((IntKind.i64.wrap (Int.tmod a10 11)) + 1))), (10, sv b3 a6 a1), (11, sv a8 b0 a7), (12, ia d6), (13, ia a2)] a ∧ St B w (Ass.own 28 kS28 a8 b0 a7 :: Ass.own 28 kS28 b3 a6 a1 :: os) (Ro.sl kS28 c6 c7 c4 :: Ro.sl (Kd.int .i64) (some ⟨c9, 0, none⟩) 1 c3 :: Ro.sl kS28 a5 a3 a0 :: Ro.sl (Kd.int .i64) (some ⟨c8, 0, none⟩) 1 b9 :: Ro.sl kS28 c0 c1 b8 :: Ro.sl (Kd.int .i64) (some ⟨c5, 0, none⟩) 1 b7 :: Ro.sl (Kd.int .i64) (some ⟨c2, 0, none⟩) 1 b6 :: Ro.sl kS50 A7 C8 l6 :: rs) ∧ i0 d6 = some e3) (by kernel_rfl) ?_ (fun a w hI => ?_)
    ·refine EW.bl 1 (by kernel_rfl) ?_
     obtain ⟨i1, o4, H⟩ := lt_out H
     refine EW.ct (fun a w => ∃ f7 : Bool, Sat 125 [(7, sv a5 a3 a0), (8, ia (IntKind.i64.wrap (Int.tmod a9 16))), (9, ia (IntKind.i64.wrap ((IntKind.i64.wrap (Int.tmod a10 11)) + 1))), (10, sv b3 a6 a1), (11, sv a8 b0 a7), (12, ia a4), (13, ia a2), (64, .bool (f7))] a ∧ St B w (Ass.own 28 kS28 a8 b0 a7 :: Ass.own 28 kS28 b3 a6 a1 :: os) (Ro.sl kS28 c6 c7 c4 :: Ro.sl (Kd.int .i64) (some ⟨c9, 0, none⟩) 1 c3 :: Ro.sl kS28 a5 a3 a0 :: Ro.sl (Kd.int .i64) (some ⟨c8, 0, none⟩) 1 b9 :: Ro.sl kS28 c0 c1 b8 :: Ro.sl (Kd.int .i64) (some ⟨c5, 0, none⟩) 1 b7 :: Ro.sl (Kd.int .i64) (some ⟨c2, 0, none⟩) 1 b6 :: Ro.sl kS50 A7 C8 l6 :: rs) ∧ i1 f7 = some e3) (by kernel_rfl) ?_ (fun a w hI => ?_)
     ·refine EW.rg (by kernel_rfl) ?_
      refine EL.quick 2 [7, 8, 9, 10, 11, 12, 13, 49, 50] [(7, sv a5 a3 a0), (8, ia (IntKind.i64.wrap (Int.tmod a9 16))), (9, ia (IntKind.i64.wrap ((IntKind.i64.wrap (Int.tmod a10 11)) + 1))), (10, sv b3 a6 a1), (11, sv a8 b0 a7), (12, ia a4), (13, ia a2), (49, sv a5 a3 a0), (50, ia a2)] (by kernel_rfl) ?_
      obtain ⟨g1, H⟩ := ite_in H
      obtain ⟨b5, rfl⟩ := St.rd_some hS (Rd.ro 2 rfl) g1 d3
      refine EL.of (EO.Y (YO.idx 22 7 b5 a0.length a3 .i64 a2 51 (by kernel_rfl) (by kernel_rfl) (by kernel_rfl) (by kernel_rfl) g1 d3) ?_)
      refine EL.quick 1 [7, 8, 9, 10, 11, 12, 13, 52] [(7, sv (some b5) a3 a0), (8, ia (IntKind.i64.wrap (Int.tmod a9 16))), (9, ia (IntKind.i64.wrap ((IntKind.i64.wrap (Int.tmod a10 11)) + 1))), (10, sv b3 a6 a1), (11, sv a8 b0 a7), (12, ia a4), (13, ia a2), (52, .pointer (some ((b5.add (a2.toNat * 7)).add 1)))] (by kernel_rfl) ?_
      refine EL.of (EO.Y (YO.loadEl hS kS28 b5 a3 a0 (Rd.ro 2 rfl) zS28 encS28 encS28_of a2 g1 d3 3 7 1 1 rfl (ia ((a0.getD a2.toNat zS28).f1)) 53 (by kernel_rfl) (by kernel_rfl) (by kernel_rfl) (by kernel_rfl)) ?_)
      refine EL.quick 3 [7, 8, 9, 10, 11, 12, 13, 56] [(7, sv (some b5) a3 a0), (8, ia (IntKind.i64.wrap (Int.tmod a9 16))), (9, ia (IntKind.i64.wrap ((IntKind.i64.wrap (Int.tmod a10 11)) + 1))), (10, sv b3 a6 a1), (11, sv a8 b0 a7), (12, ia a4), (13, ia a2), (56, .bool (decide (((a0.getD a2.toNat zS28).f1) = (IntKind.i64.wrap (Int.tmod a9 16)))))] (by kernel_rfl) ?_
      by_cases g4 : ((a0.getD a2.toNat zS28).f1) = (IntKind.i64.wrap (Int.tmod a9 16))
      ·rw [if_pos g4] at H
       refine EL.keep [7, 8, 9, 10, 11, 12, 13, 56] [(7, sv (some b5) a3 a0), (8, ia (IntKind.i64.wrap (Int.tmod a9 16))), (9, ia (IntKind.i64.wrap ((IntKind.i64.wrap (Int.tmod a10 11)) + 1))), (10, sv b3 a6 a1), (11, sv a8 b0 a7), (12, ia a4), (13, ia a2), (56, .bool (decide (((a0.getD a2.toNat zS28).f1) = (IntKind.i64.wrap (Int.tmod a9 16)))))] (by kernel_rfl) ?_
       refine EL.as' [(7, sv (some b5) a3 a0), (8, ia (IntKind.i64.wrap (Int.tmod a9 16))), (9, ia (IntKind.i64.wrap ((IntKind.i64.wrap (Int.tmod a10 11)) + 1))), (10, sv b3 a6 a1), (11, sv a8 b0 a7), (12, ia a4), (13, ia a2), (56, .bool (true))] (by simp only [encS28, sv, dec_t g4, Bool.not_true, Bool.not_false]) ?_
       refine EL.quick 2 [7, 8, 9, 10, 11, 12, 13, 56, 57, 58] [(7, sv (some b5) a3 a0), (8, ia (IntKind.i64.wrap (Int.tmod a9 16))), (9, ia (IntKind.i64.wrap ((IntKind.i64.wrap (Int.tmod a10 11)) + 1))), (10, sv b3 a6 a1), (11, sv a8 b0 a7), (12, ia a4), (13, ia a2), (56, .bool (true)), (57, sv (some b5) a3 a0), (58, ia a2)] (by kernel_rfl) ?_
       refine EL.of (EO.Y (YO.idx 22 7 b5 a0.length a3 .i64 a2 59 (by kernel_rfl) (by kernel_rfl) (by kernel_rfl) (by kernel_rfl) g1 d3) ?_)
       refine EL.quick 1 [7, 8, 9, 10, 11, 12, 13, 56, 57, 58, 59, 60] [(7, sv (some b5) a3 a0), (8, ia (IntKind.i64.wrap (Int.tmod a9 16))), (9, ia (IntKind.i64.wrap ((IntKind.i64.wrap (Int.tmod a10 11)) + 1))), (10, sv b3 a6 a1), (11, sv a8 b0 a7), (12, ia a4), (13, ia a2), (56, .bool (true)), (57, sv (some b5) a3 a0), (58, ia a2), (59, .pointer (some ((b5.add (a2.toNat * 7)).add 0))), (60, .pointer (some ((b5.add (a2.toNat * 7)).add 2)))] (by kernel_rfl) ?_
       refine EL.of (EO.Y (YO.loadEl hS kS28 b5 a3 a0 (Rd.ro 2 rfl) zS28 encS28 encS28_of a2 g1 d3 3 7 2 1 rfl (ia ((a0.getD a2.toNat zS28).f2)) 61 (by kernel_rfl) (by kernel_rfl) (by kernel_rfl) (by kernel_rfl)) ?_)
       refine EL.quick 3 [7, 8, 9, 10, 11, 12, 13, 57, 58, 59, 60, 61, 62, 63, 64] [(7, sv (some b5) a3 a0), (8, ia (IntKind.i64.wrap (Int.tmod a9 16))), (9, ia (IntKind.i64.wrap ((IntKind.i64.wrap (Int.tmod a10 11)) + 1))), (10, sv b3 a6 a1), (11, sv a8 b0 a7), (12, ia a4), (13, ia a2), (57, sv (some b5) a3 a0), (58, ia a2), (59, .pointer (some ((b5.add (a2.toNat * 7)).add 0))), (60, .pointer (some ((b5.add (a2.toNat * 7)).add 2))), (61, ia ((a0.getD a2.toNat zS28).f2)), (62, ia (IntKind.i64.wrap ((IntKind.i64.wrap (Int.tmod a10 11)) + 1))), (63, .bool (decide (((a0.getD a2.toNat zS28).f2) = (IntKind.i64.wrap ((IntKind.i64.wrap (Int.tmod a10 11)) + 1))))), (64, .bool (decide (((a0.getD a2.toNat zS28).f2) = (IntKind.i64.wrap ((IntKind.i64.wrap (Int.tmod a10 11)) + 1)))))] (by kernel_rfl) ?_
       refine EL.done (by kernel_rfl) ?_
       refine EQ.to ?_
       refine EQ.keep [7, 8, 9, 10, 11, 12, 13, 64] [(7, sv (some b5) a3 a0), (8, ia (IntKind.i64.wrap (Int.tmod a9 16))), (9, ia (IntKind.i64.wrap ((IntKind.i64.wrap (Int.tmod a10 11)) + 1))), (10, sv b3 a6 a1), (11, sv a8 b0 a7), (12, ia a4), (13, ia a2), (64, .bool (decide (((a0.getD a2.toNat zS28).f2) = (IntKind.i64.wrap ((IntKind.i64.wrap (Int.tmod a10 11)) + 1)))))] (by kernel_rfl) ?_
       exact fun a ha => ⟨decide (((a0.getD a2.toNat zS28).f2) = (IntKind.i64.wrap ((IntKind.i64.wrap (Int.tmod a10 11)) + 1))), ha, (hS.re [1, 1] [] rfl (sub_cons 0 rfl (sub_cons 1 rfl (sub_cons 2 rfl (sub_cons 3 rfl (sub_cons 4 rfl (sub_cons 5 rfl (sub_cons 6 rfl (sub_cons 7 rfl (sub_tail (sub_tail (sub_tail (sub_tail (sub_tail (sub_tail (sub_tail (sub_tail (sub_self)))))))))))))))))), H⟩
      rw [if_neg g4] at H
      refine EL.keep [7, 8, 9, 10, 11, 12, 13, 56] [(7, sv (some b5) a3 a0), (8, ia (IntKind.i64.wrap (Int.tmod a9 16))), (9, ia (IntKind.i64.wrap ((IntKind.i64.wrap (Int.tmod a10 11)) + 1))), (10, sv b3 a6 a1), (11, sv a8 b0 a7), (12, ia a4), (13, ia a2), (56, .bool (decide (((a0.getD a2.toNat zS28).f1) = (IntKind.i64.wrap (Int.tmod a9 16)))))] (by kernel_rfl) ?_
      refine EL.as' [(7, sv (some b5) a3 a0), (8, ia (IntKind.i64.wrap (Int.tmod a9 16))), (9, ia (IntKind.i64.wrap ((IntKind.i64.wrap (Int.tmod a10 11)) + 1))), (10, sv b3 a6 a1), (11, sv a8 b0 a7), (12, ia a4), (13, ia a2), (56, .bool (false))] (by simp only [encS28, sv, dec_f g4, Bool.not_true, Bool.not_false]) ?_
      refine EL.quick 8 [7, 8, 9, 10, 11, 12, 13, 64] [(7, sv (some b5) a3 a0), (8, ia (IntKind.i64.wrap (Int.tmod a9 16))), (9, ia (IntKind.i64.wrap ((IntKind.i64.wrap (Int.tmod a10 11)) + 1))), (10, sv b3 a6 a1), (11, sv a8 b0 a7), (12, ia a4), (13, ia a2), (64, .bool (false))] (by kernel_rfl) ?_
      refine EL.done (by kernel_rfl) ?_
      refine EQ.to ?_
      refine EQ.keep [7, 8, 9, 10, 11, 12, 13, 64] [(7, sv (some b5) a3 a0), (8, ia (IntKind.i64.wrap (Int.tmod a9 16))), (9, ia (IntKind.i64.wrap ((IntKind.i64.wrap (Int.tmod a10 11)) + 1))), (10, sv b3 a6 a1), (11, sv a8 b0 a7), (12, ia a4), (13, ia a2), (64, .bool (false))] (by kernel_rfl) ?_
      exact fun a ha => ⟨false, ha, (hS.re [1, 1] [] rfl (sub_cons 0 rfl (sub_cons 1 rfl (sub_cons 2 rfl (sub_cons 3 rfl (sub_cons 4 rfl (sub_cons 5 rfl (sub_cons 6 rfl (sub_cons 7 rfl (sub_tail (sub_tail (sub_tail (sub_tail (sub_tail (sub_tail (sub_tail (sub_tail (sub_self)))))))))))))))))), H⟩
     obtain ⟨f7, ha, hS, H⟩ := hI
     rw [o4] at H
     (try dsimp only at H)
     refine EW.at ?_ a ha
     clear ha a
     refine EW.cdP' (f7) (by kernel_rfl) (by kernel_rfl) (fun i9 => ?_) (fun i9 => ?_)
     ·rw [if_pos i9] at H
      refine EW.sq (by kernel_rfl) ?_
      obtain ⟨i2, o5, H⟩ := lt_out H
      refine EW.ct (fun a w => ∃ f8 : Bool, Sat 125 [(7, sv a5 a3 a0), (8, ia (IntKind.i64.wrap (Int.tmod a9 16))), (9, ia (IntKind.i64.wrap ((IntKind.i64.wrap (Int.tmod a10 11)) + 1))), (10, sv b3 a6 a1), (11, sv a8 b0 a7), (12, ia a4), (13, ia a2), (79, .bool (f8))] a ∧ St B w (Ass.own 28 kS28 a8 b0 a7 :: Ass.own 28 kS28 b3 a6 a1 :: os) (Ro.sl kS28 c6 c7 c4 :: Ro.sl (Kd.int .i64) (some ⟨c9, 0, none⟩) 1 c3 :: Ro.sl kS28 a5 a3 a0 :: Ro.sl (Kd.int .i64) (some ⟨c8, 0, none⟩) 1 b9 :: Ro.sl kS28 c0 c1 b8 :: Ro.sl (Kd.int .i64) (some ⟨c5, 0, none⟩) 1 b7 :: Ro.sl (Kd.int .i64) (some ⟨c2, 0, none⟩) 1 b6 :: Ro.sl kS50 A7 C8 l6 :: rs) ∧ i2 f8 = some e3) (by kernel_rfl) ?_ (fun a w hI => ?_)
      ·by_cases g5 : a4 ≥ (a1.length : Int)
       ·rw [if_pos g5] at H
        have hS := hS.drew
        refine EW.dr (B := B) [Ass.own 28 kS28 a8 b0 a7, Ass.own 28 kS28 b3 a6 a1] [Ro.sl kS28 c6 c7 c4, Ro.sl (Kd.int .i64) (some ⟨c9, 0, none⟩) 1 c3, Ro.sl kS28 a5 a3 a0, Ro.sl (Kd.int .i64) (some ⟨c8, 0, none⟩) 1 b9, Ro.sl kS28 c0 c1 b8, Ro.sl (Kd.int .i64) (some ⟨c5, 0, none⟩) 1 b7, Ro.sl (Kd.int .i64) (some ⟨c2, 0, none⟩) 1 b6, Ro.sl kS50 A7 C8 l6] (by kernel_rfl) (by kernel_rfl) ?_
        have hN : Region.noSelect Cd5.r.r.r.r.r.r.r.r.l.r.l.l.r.l.l.r.l.l.l.ops = true := (by kernel_rfl)
        have hF : freeAll Cd5.r.r.r.r.r.r.r.r.l.r.l.l.r.l.l.r.l.l.l.ops = true := (by kernel_rfl)
        have hC : Core B [Ass.own 28 kS28 a8 b0 a7, Ass.own 28 kS28 b3 a6 a1] [Ro.sl kS28 c6 c7 c4, Ro.sl (Kd.int .i64) (some ⟨c9, 0, none⟩) 1 c3, Ro.sl kS28 a5 a3 a0, Ro.sl (Kd.int .i64) (some ⟨c8, 0, none⟩) 1 b9, Ro.sl kS28 c0 c1 b8, Ro.sl (Kd.int .i64) (some ⟨c5, 0, none⟩) 1 b7, Ro.sl (Kd.int .i64) (some ⟨c2, 0, none⟩) 1 b6, Ro.sl kS50 A7 C8 l6] _ := ⟨_, _, hS⟩
        refine ED.quick hN hF hC [0, 1, 2, 3, 4] [7, 8, 9, 10, 11, 12, 13, 69] 10 [(7, sv a5 a3 a0), (8, ia (IntKind.i64.wrap (Int.tmod a9 16))), (9, ia (IntKind.i64.wrap ((IntKind.i64.wrap (Int.tmod a10 11)) + 1))), (10, sv b3 a6 a1), (11, sv a8 b0 a7), (12, ia a4), (13, ia a2), (69, .bool (decide (a4 ≥ (a1.length : Int))))] (bm 15 31) (by kernel_rfl) (by kernel_rfl) ?_
        refine ED.keep [7, 8, 9, 10, 11, 12, 13, 69] [(7, sv a5 a3 a0), (8, ia (IntKind.i64.wrap (Int.tmod a9 16))), (9, ia (IntKind.i64.wrap ((IntKind.i64.wrap (Int.tmod a10 11)) + 1))), (10, sv b3 a6 a1), (11, sv a8 b0 a7), (12, ia a4), (13, ia a2), (69, .bool (decide (a4 ≥ (a1.length : Int))))] (by kernel_rfl) ?_
        refine ED.as' [(7, sv a5 a3 a0), (8, ia (IntKind.i64.wrap (Int.tmod a9 16))), (9, ia (IntKind.i64.wrap ((IntKind.i64.wrap (Int.tmod a10 11)) + 1))), (10, sv b3 a6 a1), (11, sv a8 b0 a7), (12, ia a4), (13, ia a2), (69, .bool (true))] (by simp only [encS28, sv, dec_t g5, Bool.not_true, Bool.not_false]) ?_
        refine ED.quick hN hF hC [5, 6, 7, 8, 9, 10, 11, 12, 13, 14] [7, 8, 9, 10, 11, 12, 13, 70, 71, 72, 73, 74, 75, 76, 77, 78, 79] 0 [(7, sv a5 a3 a0), (8, ia (IntKind.i64.wrap (Int.tmod a9 16))), (9, ia (IntKind.i64.wrap ((IntKind.i64.wrap (Int.tmod a10 11)) + 1))), (10, sv b3 a6 a1), (11, sv a8 b0 a7), (12, ia a4), (13, ia a2), (70, undef), (71, undef), (72, undef), (73, undef), (74, undef), (75, undef), (76, undef), (77, undef), (78, undef), (79, .bool (true))] (bm 15 32767) (by kernel_rfl) (by kernel_rfl) ?_
        refine ED.done (by kernel_rfl) ?_
        refine EQ.to ?_
        refine EQ.keep [7, 8, 9, 10, 11, 12, 13, 79] [(7, sv a5 a3 a0), (8, ia (IntKind.i64.wrap (Int.tmod a9 16))), (9, ia (IntKind.i64.wrap ((IntKind.i64.wrap (Int.tmod a10 11)) + 1))), (10, sv b3 a6 a1), (11, sv a8 b0 a7), (12, ia a4), (13, ia a2), (79, .bool (true))] (by kernel_rfl) ?_
        exact fun a ha => ⟨true, ha, (hS.re [1, 1] [] rfl (sub_cons 0 rfl (sub_cons 1 rfl (sub_cons 2 rfl (sub_cons 3 rfl (sub_cons 4 rfl (sub_cons 5 rfl (sub_cons 6 rfl (sub_cons 7 rfl (sub_tail (sub_tail (sub_tail (sub_tail (sub_tail (sub_tail (sub_tail (sub_tail (sub_self)))))))))))))))))), H⟩
       rw [if_neg g5] at H
       obtain ⟨j0, H⟩ := ite_in H
       obtain ⟨j1, H⟩ := ite_in H
       obtain ⟨d0, rfl⟩ := St.rd_some hS (Rd.own 1 28 rfl) j0 j1
       obtain ⟨j2, H⟩ := ite_in H
       obtain ⟨d1, rfl⟩ := St.rd_some hS (Rd.ro 2 rfl) j2 d3
       have hS := hS.drew
       refine EW.dr (B := B) [Ass.own 28 kS28 a8 b0 a7, Ass.own 28 kS28 (some d0) a6 a1] [Ro.sl kS28 c6 c7 c4, Ro.sl (Kd.int .i64) (some ⟨c9, 0, none⟩) 1 c3, Ro.sl kS28 (some d1) a3 a0, Ro.sl (Kd.int .i64) (some ⟨c8, 0, none⟩) 1 b9, Ro.sl kS28 c0 c1 b8, Ro.sl (Kd.int .i64) (some ⟨c5, 0, none⟩) 1 b7, Ro.sl (Kd.int .i64) (some ⟨c2, 0, none⟩) 1 b6, Ro.sl kS50 A7 C8 l6] (by kernel_rfl) (by kernel_rfl) ?_
       have hN : Region.noSelect Cd5.r.r.r.r.r.r.r.r.l.r.l.l.r.l.l.r.l.l.l.ops = true := (by kernel_rfl)
       have hF : freeAll Cd5.r.r.r.r.r.r.r.r.l.r.l.l.r.l.l.r.l.l.l.ops = true := (by kernel_rfl)
       have hC : Core B [Ass.own 28 kS28 a8 b0 a7, Ass.own 28 kS28 (some d0) a6 a1] [Ro.sl kS28 c6 c7 c4, Ro.sl (Kd.int .i64) (some ⟨c9, 0, none⟩) 1 c3, Ro.sl kS28 (some d1) a3 a0, Ro.sl (Kd.int .i64) (some ⟨c8, 0, none⟩) 1 b9, Ro.sl kS28 c0 c1 b8, Ro.sl (Kd.int .i64) (some ⟨c5, 0, none⟩) 1 b7, Ro.sl (Kd.int .i64) (some ⟨c2, 0, none⟩) 1 b6, Ro.sl kS50 A7 C8 l6] _ := ⟨_, _, hS⟩
       refine ED.quick hN hF hC [0, 1, 2, 3, 4] [7, 8, 9, 10, 11, 12, 13, 69] 10 [(7, sv (some d1) a3 a0), (8, ia (IntKind.i64.wrap (Int.tmod a9 16))), (9, ia (IntKind.i64.wrap ((IntKind.i64.wrap (Int.tmod a10 11)) + 1))), (10, sv (some d0) a6 a1), (11, sv a8 b0 a7), (12, ia a4), (13, ia a2), (69, .bool (decide (a4 ≥ (a1.length : Int))))] (bm 15 31) (by kernel_rfl) (by kernel_rfl) ?_
       refine ED.keep [7, 8, 9, 10, 11, 12, 13, 69] [(7, sv (some d1) a3 a0), (8, ia (IntKind.i64.wrap (Int.tmod a9 16))), (9, ia (IntKind.i64.wrap ((IntKind.i64.wrap (Int.tmod a10 11)) + 1))), (10, sv (some d0) a6 a1), (11, sv a8 b0 a7), (12, ia a4), (13, ia a2), (69, .bool (decide (a4 ≥ (a1.length : Int))))] (by kernel_rfl) ?_
       refine ED.as' [(7, sv (some d1) a3 a0), (8, ia (IntKind.i64.wrap (Int.tmod a9 16))), (9, ia (IntKind.i64.wrap ((IntKind.i64.wrap (Int.tmod a10 11)) + 1))), (10, sv (some d0) a6 a1), (11, sv a8 b0 a7), (12, ia a4), (13, ia a2), (69, .bool (false))] (by simp only [encS28, sv, dec_f g5, Bool.not_true, Bool.not_false]) ?_
       refine ED.quick hN hF hC [5, 6, 9, 10] [7, 8, 9, 10, 11, 12, 13, 69, 70, 71, 74, 75] 6 [(7, sv (some d1) a3 a0), (8, ia (IntKind.i64.wrap (Int.tmod a9 16))), (9, ia (IntKind.i64.wrap ((IntKind.i64.wrap (Int.tmod a10 11)) + 1))), (10, sv (some d0) a6 a1), (11, sv a8 b0 a7), (12, ia a4), (13, ia a2), (69, .bool (false)), (70, sv (some d0) a6 a1), (71, ia a4), (74, sv (some d1) a3 a0), (75, ia a2)] (bm 15 1663) (by kernel_rfl) (by kernel_rfl) ?_
       refine ED.Y hN hF hC 7 5 (bm 15 1791) (by kernel_rfl) (by kernel_rfl) rfl (fun _ _ _ hS => YO.idx 22 7 d0 a1.length a6 .i64 a4 72 (by kernel_rfl) (by kernel_rfl) (by kernel_rfl) (by kernel_rfl) j0 j1) ?_
       refine ED.Y hN hF hC 8 4 (bm 15 2047) (by kernel_rfl) (by kernel_rfl) rfl (fun _ _ _ hS => YO.loadEl hS kS28 d0 a6 a1 (Rd.own 1 28 rfl) zS28 encS28 encS28_of a4 j0 j1 28 7 0 7 rfl (ag (encS28 (a1.getD a4.toNat zS28))) 73 (by kernel_rfl) (by kernel_rfl) (by kernel_rfl) (by kernel_rfl)) ?_
       refine ED.Y hN hF hC 11 3 (bm 15 4095) (by kernel_rfl) (by kernel_rfl) rfl (fun _ _ _ hS => YO.idx 22 7 d1 a0.length a3 .i64 a2 76 (by kernel_rfl) (by kernel_rfl) (by kernel_rfl) (by kernel_rfl) j2 d3) ?_
       refine ED.Y hN hF hC 12 2 (bm 15 8191) (by kernel_rfl) (by kernel_rfl) rfl (fun _ _ _ hS => YO.loadEl hS kS28 d1 a3 a0 (Rd.ro 2 rfl) zS28 encS28 encS28_of a2 j2 d3 28 7 0 7 rfl (ag (encS28 (a0.getD a2.toNat zS28))) 77 (by kernel_rfl) (by kernel_rfl) (by kernel_rfl) (by kernel_rfl)) ?_
       refine ED.Y hN hF hC 13 1 (bm 15 16383) (by kernel_rfl) (by kernel_rfl) rfl (fun _ _ _ hS => YO.eqAg .neq 28 (.tmp 73) (.tmp 77) #[ia ((a1.getD a4.toNat zS28).f0), ia ((a1.getD a4.toNat zS28).f1), ia ((a1.getD a4.toNat zS28).f2), ia ((a1.getD a4.toNat zS28).f3), ib ((a1.getD a4.toNat zS28).f4), ib ((a1.getD a4.toNat zS28).f5), ib ((a1.getD a4.toNat zS28).f6)] #[ia ((a0.getD a2.toNat zS28).f0), ia ((a0.getD a2.toNat zS28).f1), ia ((a0.getD a2.toNat zS28).f2), ia ((a0.getD a2.toNat zS28).f3), ib ((a0.getD a2.toNat zS28).f4), ib ((a0.getD a2.toNat zS28).f5), ib ((a0.getD a2.toNat zS28).f6)] ((((a1.getD a4.toNat zS28).f0) == ((a0.getD a2.toNat zS28).f0)) && ((((a1.getD a4.toNat zS28).f1) == ((a0.getD a2.toNat zS28).f1)) && ((((a1.getD a4.toNat zS28).f2) == ((a0.getD a2.toNat zS28).f2)) && ((((a1.getD a4.toNat zS28).f3) == ((a0.getD a2.toNat zS28).f3)) && ((((a1.getD a4.toNat zS28).f4) == ((a0.getD a2.toNat zS28).f4)) && ((((a1.getD a4.toNat zS28).f5) == ((a0.getD a2.toNat zS28).f5)) && ((((a1.getD a4.toNat zS28).f6) == ((a0.getD a2.toNat zS28).f6)) && true))))))) (!(((((a1.getD a4.toNat zS28).f0) == ((a0.getD a2.toNat zS28).f0)) && ((((a1.getD a4.toNat zS28).f1) == ((a0.getD a2.toNat zS28).f1)) && ((((a1.getD a4.toNat zS28).f2) == ((a0.getD a2.toNat zS28).f2)) && ((((a1.getD a4.toNat zS28).f3) == ((a0.getD a2.toNat zS28).f3)) && ((((a1.getD a4.toNat zS28).f4) == ((a0.getD a2.toNat zS28).f4)) && ((((a1.getD a4.toNat zS28).f5) == ((a0.getD a2.toNat zS28).f5)) && ((((a1.getD a4.toNat zS28).f6) == ((a0.getD a2.toNat zS28).f6)) && true))))))))) 78 (by kernel_rfl) (by kernel_rfl) (by kernel_rfl) (by kernel_rfl) (by kernel_rfl) (.inr ⟨rfl, rfl⟩)) ?_
       refine ED.quick hN hF hC [14] [7, 8, 9, 10, 11, 12, 13, 70, 71, 72, 73, 74, 75, 76, 77, 78, 79] 0 [(7, sv (some d1) a3 a0), (8, ia (IntKind.i64.wrap (Int.tmod a9 16))), (9, ia (IntKind.i64.wrap ((IntKind.i64.wrap (Int.tmod a10 11)) + 1))), (10, sv (some d0) a6 a1), (11, sv a8 b0 a7), (12, ia a4), (13, ia a2), (70, sv (some d0) a6 a1), (71, ia a4), (72, .pointer (some ((d0.add (a4.toNat * 7)).add 0))), (73, ag (encS28 (a1.getD a4.toNat zS28))), (74, sv (some d1) a3 a0), (75, ia a2), (76, .pointer (some ((d1.add (a2.toNat * 7)).add 0))), (77, ag (encS28 (a0.getD a2.toNat zS28))), (78, .bool (!(((((a1.getD a4.toNat zS28).f0) == ((a0.getD a2.toNat zS28).f0)) && ((((a1.getD a4.toNat zS28).f1) == ((a0.getD a2.toNat zS28).f1)) && ((((a1.getD a4.toNat zS28).f2) == ((a0.getD a2.toNat zS28).f2)) && ((((a1.getD a4.toNat zS28).f3) == ((a0.getD a2.toNat zS28).f3)) && ((((a1.getD a4.toNat zS28).f4) == ((a0.getD a2.toNat zS28).f4)) && ((((a1.getD a4.toNat zS28).f5) == ((a0.getD a2.toNat zS28).f5)) && ((((a1.getD a4.toNat zS28).f6) == ((a0.getD a2.toNat zS28).f6)) && true)))))))))), (79, .bool (!(((((a1.getD a4.toNat zS28).f0) == ((a0.getD a2.toNat zS28).f0)) && ((((a1.getD a4.toNat zS28).f1) == ((a0.getD a2.toNat zS28).f1)) && ((((a1.getD a4.toNat zS28).f2) == ((a0.getD a2.toNat zS28).f2)) && ((((a1.getD a4.toNat zS28).f3) == ((a0.getD a2.toNat zS28).f3)) && ((((a1.getD a4.toNat zS28).f4) == ((a0.getD a2.toNat zS28).f4)) && ((((a1.getD a4.toNat zS28).f5) == ((a0.getD a2.toNat zS28).f5)) && ((((a1.getD a4.toNat zS28).f6) == ((a0.getD a2.toNat zS28).f6)) && true))))))))))] (bm 15 32767) (by kernel_rfl) (by kernel_rfl) ?_
       refine ED.done (by kernel_rfl) ?_
       refine EQ.to ?_
       refine EQ.keep [7, 8, 9, 10, 11, 12, 13, 79] [(7, sv (some d1) a3 a0), (8, ia (IntKind.i64.wrap (Int.tmod a9 16))), (9, ia (IntKind.i64.wrap ((IntKind.i64.wrap (Int.tmod a10 11)) + 1))), (10, sv (some d0) a6 a1), (11, sv a8 b0 a7), (12, ia a4), (13, ia a2), (79, .bool (!(((((a1.getD a4.toNat zS28).f0) == ((a0.getD a2.toNat zS28).f0)) && ((((a1.getD a4.toNat zS28).f1) == ((a0.getD a2.toNat zS28).f1)) && ((((a1.getD a4.toNat zS28).f2) == ((a0.getD a2.toNat zS28).f2)) && ((((a1.getD a4.toNat zS28).f3) == ((a0.getD a2.toNat zS28).f3)) && ((((a1.getD a4.toNat zS28).f4) == ((a0.getD a2.toNat zS28).f4)) && ((((a1.getD a4.toNat zS28).f5) == ((a0.getD a2.toNat zS28).f5)) && ((((a1.getD a4.toNat zS28).f6) == ((a0.getD a2.toNat zS28).f6)) && true))))))))))] (by kernel_rfl) ?_
       exact fun a ha => ⟨!(((((a1.getD a4.toNat zS28).f0) == ((a0.getD a2.toNat zS28).f0)) && ((((a1.getD a4.toNat zS28).f1) == ((a0.getD a2.toNat zS28).f1)) && ((((a1.getD a4.toNat zS28).f2) == ((a0.getD a2.toNat zS28).f2)) && ((((a1.getD a4.toNat zS28).f3) == ((a0.getD a2.toNat zS28).f3)) && ((((a1.getD a4.toNat zS28).f4) == ((a0.getD a2.toNat zS28).f4)) && ((((a1.getD a4.toNat zS28).f5) == ((a0.getD a2.toNat zS28).f5)) && ((((a1.getD a4.toNat zS28).f6) == ((a0.getD a2.toNat zS28).f6)) && true)))))))), ha, (hS.re [1, 1] [] rfl (sub_cons 0 rfl (sub_cons 1 rfl (sub_cons 2 rfl (sub_cons 3 rfl (sub_cons 4 rfl (sub_cons 5 rfl (sub_cons 6 rfl (sub_cons 7 rfl (sub_tail (sub_tail (sub_tail (sub_tail (sub_tail (sub_tail (sub_tail (sub_tail (sub_self)))))))))))))))))), H⟩
      obtain ⟨f8, ha, hS, H⟩ := hI
      rw [o5] at H
      (try dsimp only at H)
      refine EW.at ?_ a ha
      clear ha a
      refine EW.cdP' (f8) (by kernel_rfl) (by kernel_rfl) (fun j3 => ?_) (fun j3 => ?_)
      ·rw [if_pos j3] at H
       refine EW.sq (by kernel_rfl) ?_
       refine EW.rg (by kernel_rfl) ?_
       refine EL.quick 1 [6] [(6, .bool (false))] (by kernel_rfl) ?_
       refine EL.done (by kernel_rfl) ?_
       refine EQ.code ?_
       refine EW.ret (by kernel_rfl) ?_
       refine EQ.ret ?_
       refine EQ.ret ?_
       refine EQ.ret ?_
       refine EQ.ret ?_
       refine EQ.ret ?_
       refine EQ.ret ?_
       obtain rfl := Option.some.inj H
       exact EQ.leave (.bool (false)) (by kernel_rfl) ⟨_, rfl, rfl, (hS.re [] [0, 0] rfl (sub_tail (sub_tail (sub_tail (sub_tail (sub_tail (sub_tail (sub_tail (sub_self)))))))))⟩
      rw [if_neg j3] at H
      refine EW.skip (by kernel_rfl) ?_
      refine EQ.code ?_
      refine EW.rg (by kernel_rfl) ?_
      refine EL.quick 3 [7, 8, 9, 10, 11, 12, 13] [(7, sv a5 a3 a0), (8, ia (IntKind.i64.wrap (Int.tmod a9 16))), (9, ia (IntKind.i64.wrap ((IntKind.i64.wrap (Int.tmod a10 11)) + 1))), (10, sv b3 a6 a1), (11, sv a8 b0 a7), (12, ia (IntKind.i64.wrap (a4 + 1))), (13, ia a2)] (by kernel_rfl) ?_
      refine EL.done (by kernel_rfl) ?_
      refine EQ.pop ?_
      refine EQ.to ?_
      refine EQ.keep [7, 8, 9, 10, 11, 12, 13] [(7, sv a5 a3 a0), (8, ia (IntKind.i64.wrap (Int.tmod a9 16))), (9, ia (IntKind.i64.wrap ((IntKind.i64.wrap (Int.tmod a10 11)) + 1))), (10, sv b3 a6 a1), (11, sv a8 b0 a7), (12, ia (IntKind.i64.wrap (a4 + 1))), (13, ia a2)] (by kernel_rfl) ?_
      exact fun a ha => ⟨IntKind.i64.wrap (a4 + 1), ha, (hS.re [1, 1] [] rfl (sub_cons 0 rfl (sub_cons 1 rfl (sub_cons 2 rfl (sub_cons 3 rfl (sub_cons 4 rfl (sub_cons 5 rfl (sub_cons 6 rfl (sub_cons 7 rfl (sub_tail (sub_tail (sub_tail (sub_tail (sub_tail (sub_tail (sub_tail (sub_tail (sub_self)))))))))))))))))), H⟩
     rw [if_neg i9] at H
     refine EW.skip (by kernel_rfl) ?_
     refine EQ.pop ?_
     refine EQ.to ?_
     refine EQ.keep [7, 8, 9, 10, 11, 12, 13] [(7, sv a5 a3 a0), (8, ia (IntKind.i64.wrap (Int.tmod a9 16))), (9, ia (IntKind.i64.wrap ((IntKind.i64.wrap (Int.tmod a10 11)) + 1))), (10, sv b3 a6 a1), (11, sv a8 b0 a7), (12, ia a4), (13, ia a2)] (by kernel_rfl) ?_
     exact fun a ha => ⟨a4, ha, (hS.re [1, 1] [] rfl (sub_cons 0 rfl (sub_cons 1 rfl (sub_cons 2 rfl (sub_cons 3 rfl (sub_cons 4 rfl (sub_cons 5 rfl (sub_cons 6 rfl (sub_cons 7 rfl (sub_tail (sub_tail (sub_tail (sub_tail (sub_tail (sub_tail (sub_tail (sub_tail (sub_self)))))))))))))))))), H⟩
    obtain ⟨d6, ha, hS, H⟩ := hI
    rw [o3] at H
    (try dsimp only at H)
    refine EW.at ?_ a ha
    clear ha a
    refine EW.rg (by kernel_rfl) ?_
    refine EL.quick 3 [7, 8, 9, 10, 11, 12, 13] [(7, sv a5 a3 a0), (8, ia (IntKind.i64.wrap (Int.tmod a9 16))), (9, ia (IntKind.i64.wrap ((IntKind.i64.wrap (Int.tmod a10 11)) + 1))), (10, sv b3 a6 a1), (11, sv a8 b0 a7), (12, ia d6), (13, ia (IntKind.i64.wrap (a2 + 1)))] (by kernel_rfl) ?_
    refine EL.done (by kernel_rfl) ?_
    refine EQ.to ?_
    refine EQ.keep [7, 8, 9, 10, 11, 12, 13] [(7, sv a5 a3 a0), (8, ia (IntKind.i64.wrap (Int.tmod a9 16))), (9, ia (IntKind.i64.wrap ((IntKind.i64.wrap (Int.tmod a10 11)) + 1))), (10, sv b3 a6 a1), (11, sv a8 b0 a7), (12, ia d6), (13, ia (IntKind.i64.wrap (a2 + 1)))] (by kernel_rfl) ?_
    exact fun a ha => ⟨n, Nat.lt_succ_self n, d6, IntKind.i64.wrap (a2 + 1), ha, (hS.re [1, 1] [] rfl (sub_cons 0 rfl (sub_cons 1 rfl (sub_cons 2 rfl (sub_cons 3 rfl (sub_cons 4 rfl (sub_cons 5 rfl (sub_cons 6 rfl (sub_cons 7 rfl (sub_tail (sub_tail (sub_tail (sub_tail (sub_tail (sub_tail (sub_tail (sub_tail (sub_self)))))))))))))))))), H⟩
   rw [if_neg d3] at H
   refine EW.exit (id := 0) (by kernel_rfl) ?_
   refine EQ.exitCode ?_
   refine EQ.exitTo ?_
   refine EQ.exitHere ?_
   refine EQ.to ?_
   refine EQ.keep [7, 10, 11, 12] [(7, sv a5 a3 a0), (10, sv b3 a6 a1), (11, sv a8 b0 a7), (12, ia a4)] (by kernel_rfl) ?_
   exact fun a ha => ⟨a4, ha, (hS.re [1, 1] [] rfl (sub_cons 0 rfl (sub_cons 1 rfl (sub_cons 2 rfl (sub_cons 3 rfl (sub_cons 4 rfl (sub_cons 5 rfl (sub_cons 6 rfl (sub_cons 7 rfl (sub_tail (sub_tail (sub_tail (sub_tail (sub_tail (sub_tail (sub_tail (sub_tail (sub_self)))))))))))))))))), H⟩
  obtain ⟨d2, ha, hS, H⟩ := hI
  rw [o2] at H
  (try dsimp only at H)
  refine EW.at ?_ a ha
  clear ha a
  refine EW.sq (by kernel_rfl) ?_
  refine EW.rg (by kernel_rfl) ?_
  obtain ⟨i3, n4, H⟩ := b1_out H
  have hq := trace_New.calls n4 hS
  refine EL.of (EO.callD 13 [] _ 82 (by kernel_rfl) (by kernel_rfl) (by kernel_rfl) hq ?_)
  rintro v w ⟨b4, j4, j7, rfl, hS⟩
  refine EL.quick 1 [7, 10, 11, 12, 14] [(7, sv a5 a3 a0), (10, sv b3 a6 a1), (11, sv a8 b0 a7), (12, ia d2), (14, pt b4 0)] (by kernel_rfl) ?_
  refine EL.done (by kernel_rfl) ?_
  refine EQ.code ?_
  refine EW.sq (by kernel_rfl) ?_
  refine EW.rg (by kernel_rfl) ?_
  refine EL.quick 5 [7, 10, 11, 12, 14, 83, 84, 87] [(7, sv a5 a3 a0), (10, sv b3 a6 a1), (11, sv a8 b0 a7), (12, ia d2), (14, pt b4 0), (83, pt b4 0), (84, sv a5 a3 a0), (87, ia (IntKind.i64.wrap (Int.tdiv (a0.length : Int) 2)))] (by kernel_rfl) ?_
  obtain ⟨p0, H⟩ := ite_in H
  obtain ⟨p1, H⟩ := ite_in H
  obtain ⟨d4, o6, H⟩ := lt_out H
  refine EL.of (EO.sliceRo hS kS28 a5 a3 a0 2 rfl none (some (ia (IntKind.i64.wrap (Int.tdiv (a0.length : Int) 2)))) none 0 ((IntKind.i64.wrap (Int.tdiv (a0.length : Int) 2)).toNat) a3 d4 (by rw [o6]; exact (slice_hi _ _)) 22 88 (by kernel_rfl) (by kernel_rfl) (by kernel_rfl) (by kernel_rfl) (rfl) ((Int.toNat_of_nonneg (by omega)).symm) ⟨rfl, fun h => by first | rfl | cases h⟩ (by omega) (by omega) (.inl rfl) ?_)
  intro d7 d8 hS
  have hS : St B _ (Ass.box 75 b4 [sv j4 j7 i3] :: Ass.own 28 kS28 j4 j7 i3 :: Ass.own 28 kS28 a8 b0 a7 :: Ass.own 28 kS28 b3 a6 a1 :: os) (Ro.sl kS28 d7 d8 d4 :: Ro.sl kS28 c6 c7 c4 :: Ro.sl (Kd.int .i64) (some ⟨c9, 0, none⟩) 1 c3 :: Ro.sl kS28 a5 a3 a0 :: Ro.sl (Kd.int .i64) (some ⟨c8, 0, none⟩) 1 b9 :: Ro.sl kS28 c0 c1 b8 :: Ro.sl (Kd.int .i64) (some ⟨c5, 0, none⟩) 1 b7 :: Ro.sl (Kd.int .i64) (some ⟨c2, 0, none⟩) 1 b6 :: Ro.sl kS50 A7 C8 l6 :: rs) := hS.re [1, 1] [] rfl (sub_cons 0 rfl (sub_tail (sub_self)))
  obtain ⟨i4, n5, H⟩ := b1_out H
  have hq := trace_Trace_Add.calls n5 hS
  refine EL.of (EO.callD 14 [pt b4 0, sv d7 d8 d4] _ 89 (by kernel_rfl) (by kernel_rfl) (by kernel_rfl) hq ?_)
  rintro v w ⟨j5, j8, rfl, hS⟩
  refine EL.done (by kernel_rfl) ?_
  refine EQ.code ?_
  refine EW.sq (by kernel_rfl) ?_
  refine EW.rg (by kernel_rfl) ?_
  refine EL.quick 5 [7, 10, 11, 12, 14, 90, 91, 94] [(7, sv a5 a3 a0), (10, sv b3 a6 a1), (11, sv a8 b0 a7), (12, ia d2), (14, pt b4 0), (90, pt b4 0), (91, sv a5 a3 a0), (94, ia (IntKind.i64.wrap (Int.tdiv (a0.length : Int) 2)))] (by kernel_rfl) ?_
  obtain ⟨d5, o7, H⟩ := lt_out H
  refine EL.of (EO.sliceRo hS kS28 a5 a3 a0 3 rfl (some (ia (IntKind.i64.wrap (Int.tdiv (a0.length : Int) 2)))) none none ((IntKind.i64.wrap (Int.tdiv (a0.length : Int) 2)).toNat) a0.length a3 d5 (by rw [o7]; exact (slice_lo _ _)) 22 95 (by kernel_rfl) (by kernel_rfl) (by kernel_rfl) (by kernel_rfl) ((Int.toNat_of_nonneg (by omega)).symm) (rfl) ⟨rfl, fun h => by first | rfl | cases h⟩ (by omega) (by omega) (.inl rfl) ?_)
  intro e4 e6 hS
  have hS : St B _ (Ass.box 75 b4 [sv j5 j8 i4] :: Ass.own 28 kS28 j5 j8 i4 :: Ass.own 28 kS28 a8 b0 a7 :: Ass.own 28 kS28 b3 a6 a1 :: os) (Ro.sl kS28 e4 e6 d5 :: Ro.sl kS28 d7 d8 d4 :: Ro.sl kS28 c6 c7 c4 :: Ro.sl (Kd.int .i64) (some ⟨c9, 0, none⟩) 1 c3 :: Ro.sl kS28 a5 a3 a0 :: Ro.sl (Kd.int .i64) (some ⟨c8, 0, none⟩) 1 b9 :: Ro.sl kS28 c0 c1 b8 :: Ro.sl (Kd.int .i64) (some ⟨c5, 0, none⟩) 1 b7 :: Ro.sl (Kd.int .i64) (some ⟨c2, 0, none⟩) 1 b6 :: Ro.sl kS50 A7 C8 l6 :: rs) := hS.re [1, 1] [] rfl (sub_cons 0 rfl (sub_tail (sub_self)))
  obtain ⟨i5, n6, H⟩ := b1_out H
  have hq := trace_Trace_Add.calls n6 hS
  refine EL.of (EO.callD 14 [pt b4 0, sv e4 e6 d5] _ 96 (by kernel_rfl) (by kernel_rfl) (by kernel_rfl) hq ?_)
  rintro v w ⟨j6, j9, rfl, hS⟩
  refine EL.done (by kernel_rfl) ?_
  refine EQ.code ?_
  refine EW.sq (by kernel_rfl) ?_
  refine EW.rg (by kernel_rfl) ?_
  refine EL.quick 5 [7, 10, 11, 14, 101] [(7, sv a5 a3 a0), (10, sv b3 a6 a1), (11, sv a8 b0 a7), (14, pt b4 0), (101, .bool (decide (d2 = (a1.length : Int))))] (by kernel_rfl) ?_
  by_cases g6 : d2 = (a1.length : Int)
  ·rw [if_pos g6] at H
   refine EL.keep [7, 10, 11, 14, 101] [(7, sv a5 a3 a0), (10, sv b3 a6 a1), (11, sv a8 b0 a7), (14, pt b4 0), (101, .bool (decide (d2 = (a1.length : Int))))] (by kernel_rfl) ?_
   refine EL.as' [(7, sv a5 a3 a0), (10, sv b3 a6 a1), (11, sv a8 b0 a7), (14, pt b4 0), (101, .bool (true))] (by simp only [encS28, sv, dec_t g6, Bool.not_true, Bool.not_false]) ?_
   refine EL.quick 2 [7, 14, 101, 102, 103] [(7, sv a5 a3 a0), (14, pt b4 0), (101, .bool (true)), (102, sv b3 a6 a1), (103, sv a8 b0 a7)] (by kernel_rfl) ?_
   have hS := St.fr hS 3 rfl
   have hS := St.fr hS 2 rfl
   have hS : St B _ (Ass.box 75 b4 [sv j6 j9 i5] :: Ass.own 28 kS28 j6 j9 i5 :: os) (Ro.sl kS28 b3 a6 a1 :: Ro.sl kS28 a8 b0 a7 :: Ro.sl kS28 e4 e6 d5 :: Ro.sl kS28 d7 d8 d4 :: Ro.sl kS28 c6 c7 c4 :: Ro.sl (Kd.int .i64) (some ⟨c9, 0, none⟩) 1 c3 :: Ro.sl kS28 a5 a3 a0 :: Ro.sl (Kd.int .i64) (some ⟨c8, 0, none⟩) 1 b9 :: Ro.sl kS28 c0 c1 b8 :: Ro.sl (Kd.int .i64) (some ⟨c5, 0, none⟩) 1 b7 :: Ro.sl (Kd.int .i64) (some ⟨c2, 0, none⟩) 1 b6 :: Ro.sl kS50 A7 C8 l6 :: rs) := hS.re [] [] rfl (sub_cons 1 rfl (sub_cons 0 rfl (sub_tail (sub_tail (sub_self)))))
   obtain ⟨e8, n7, H⟩ := b1_out H
   have hq := confidantref21_SameEvents.calls n7 hS
   refine EL.of (EO.callD 17 [sv b3 a6 a1, sv a8 b0 a7] _ 104 (by kernel_rfl) (by kernel_rfl) (by kernel_rfl) hq ?_)
   rintro v w ⟨rfl, hS⟩
   refine EL.quick 2 [7, 14, 106] [(7, sv a5 a3 a0), (14, pt b4 0), (106, .bool (e8))] (by kernel_rfl) ?_
   by_cases g7 : e8 = true
   ·rw [if_pos g7] at H
    refine EL.keep [7, 14, 106] [(7, sv a5 a3 a0), (14, pt b4 0), (106, .bool (e8))] (by kernel_rfl) ?_
    refine EL.as' [(7, sv a5 a3 a0), (14, pt b4 0), (106, .bool (true))] (by simp only [encS28, sv, g7, Bool.not_true, Bool.not_false]) ?_
    refine EL.quick 1 [7, 106, 107] [(7, sv a5 a3 a0), (106, .bool (true)), (107, pt b4 0)] (by kernel_rfl) ?_
    obtain ⟨e0, e1, n8, H⟩ := b2_out H
    have hq := trace_Trace_All.calls n8 hS
    refine EL.of (EO.callD 18 [pt b4 0] _ 108 (by kernel_rfl) (by kernel_rfl) (by kernel_rfl) hq ?_)
    rintro v w ⟨e5, e7, f9, g0, rfl, hS⟩
    refine EL.quick 1 [7, 106, 108, 109] [(7, sv a5 a3 a0), (106, .bool (true)), (108, sv f9 g0 e1), (109, sv a5 a3 a0)] (by kernel_rfl) ?_
    have hS := St.fr hS 1 rfl
    have hS : St B _ (Ass.box 75 b4 [sv e5 e7 e0] :: os) (Ro.sl kS28 f9 g0 e1 :: Ro.sl kS28 a5 a3 a0 :: Ro.sl kS28 e5 e7 e0 :: Ro.sl kS28 b3 a6 a1 :: Ro.sl kS28 a8 b0 a7 :: Ro.sl kS28 e4 e6 d5 :: Ro.sl kS28 d7 d8 d4 :: Ro.sl kS28 c6 c7 c4 :: Ro.sl (Kd.int .i64) (some ⟨c9, 0, none⟩) 1 c3 :: Ro.sl (Kd.int .i64) (some ⟨c8, 0, none⟩) 1 b9 :: Ro.sl kS28 c0 c1 b8 :: Ro.sl (Kd.int .i64) (some ⟨c5, 0, none⟩) 1 b7 :: Ro.sl (Kd.int .i64) (some ⟨c2, 0, none⟩) 1 b6 :: Ro.sl kS50 A7 C8 l6 :: rs) := hS.re [] [] rfl (sub_cons 0 rfl (sub_cons 8 rfl (sub_cons 1 rfl (sub_cons 2 rfl (sub_cons 3 rfl (sub_cons 4 rfl (sub_cons 5 rfl (sub_cons 6 rfl (sub_cons 7 rfl (sub_tail (sub_tail (sub_tail (sub_tail (sub_tail (sub_tail (sub_tail (sub_tail (sub_tail (sub_self)))))))))))))))))))
    obtain ⟨e9, n9, H⟩ := b1_out H
    have hq := confidantref21_SameEvents.calls n9 hS
    refine EL.of (EO.callD 17 [sv f9 g0 e1, sv a5 a3 a0] _ 110 (by kernel_rfl) (by kernel_rfl) (by kernel_rfl) hq ?_)
    rintro v w ⟨rfl, hS⟩
    refine EL.quick 2 [7, 112] [(7, sv a5 a3 a0), (112, .bool (e9))] (by kernel_rfl) ?_
    by_cases g8 : e9 = true
    ·rw [if_pos g8] at H
     refine EL.keep [7, 112] [(7, sv a5 a3 a0), (112, .bool (e9))] (by kernel_rfl) ?_
     refine EL.as' [(7, sv a5 a3 a0), (112, .bool (true))] (by simp only [encS28, sv, g8, Bool.not_true, Bool.not_false]) ?_
     refine EL.quick 1 [7, 112, 113] [(7, sv a5 a3 a0), (112, .bool (true)), (113, sv a5 a3 a0)] (by kernel_rfl) ?_
     have hS := St.nilR hS (Kd.int .i64)
     have hS : St B _ (Ass.box 75 b4 [sv e5 e7 e0] :: os) (Ro.sl kS28 a5 a3 a0 :: Ro.sl (Kd.int .i64) none 0 ([] : List Int) :: Ro.sl kS28 f9 g0 e1 :: Ro.sl kS28 e5 e7 e0 :: Ro.sl kS28 b3 a6 a1 :: Ro.sl kS28 a8 b0 a7 :: Ro.sl kS28 e4 e6 d5 :: Ro.sl kS28 d7 d8 d4 :: Ro.sl kS28 c6 c7 c4 :: Ro.sl (Kd.int .i64) (some ⟨c9, 0, none⟩) 1 c3 :: Ro.sl (Kd.int .i64) (some ⟨c8, 0, none⟩) 1 b9 :: Ro.sl kS28 c0 c1 b8 :: Ro.sl (Kd.int .i64) (some ⟨c5, 0, none⟩) 1 b7 :: Ro.sl (Kd.int .i64) (some ⟨c2, 0, none⟩) 1 b6 :: Ro.sl kS50 A7 C8 l6 :: rs) := hS.re [] [] rfl (sub_cons 2 rfl (sub_cons 0 rfl (sub_cons 1 rfl (sub_tail (sub_tail (sub_tail (sub_self)))))))
     obtain ⟨e2, o0, H⟩ := b1_out H
     have hq := trace_Of.calls o0 hS
     refine EL.of (EO.callD 19 [sv a5 a3 a0, sv none 0 ([] : List Int)] _ 114 (by kernel_rfl) (by kernel_rfl) (by kernel_rfl) hq ?_)
     rintro v w ⟨m6, m7, rfl, hS⟩
     refine EL.quick 4 [7, 118] [(7, sv a5 a3 a0), (118, .bool (decide ((e2.length : Int) = 0)))] (by kernel_rfl) ?_
     by_cases g9 : (e2.length : Int) = 0
     ·rw [if_pos g9] at H
      refine EL.keep [7, 118] [(7, sv a5 a3 a0), (118, .bool (decide ((e2.length : Int) = 0)))] (by kernel_rfl) ?_
      refine EL.as' [(7, sv a5 a3 a0), (118, .bool (true))] (by simp only [encS28, sv, dec_t g9, Bool.not_true, Bool.not_false]) ?_
      refine EL.quick 1 [118, 119] [(118, .bool (true)), (119, sv a5 a3 a0)] (by kernel_rfl) ?_
      obtain ⟨g2, m5, H⟩ := lt_out H
      refine EL.of (EO.lit hS (Kd.int .i64) 3 24 2 #[(0, ia 0), (1, ia 12)] [ia 0, ia 12] g2 120 (by kernel_rfl) (by kernel_rfl) (by kernel_rfl) (fun _ => (by kernel_rfl)) (by rw [m5]; rfl) (by kernel_rfl) (fun w G hr => (by rw [m5]; exact ⟨[ia 0], [ia 12], rfl, rfl, ⟨[ia 12], [], rfl, rfl, rfl⟩⟩)) ?_)
      intro m0 w hS
      have hS := St.fr hS 0 rfl
      have hS : St B _ (Ass.own 28 kS28 m6 m7 e2 :: Ass.box 75 b4 [sv e5 e7 e0] :: os) (Ro.sl kS28 a5 a3 a0 :: Ro.sl (Kd.int .i64) (some ⟨m0, 0, none⟩) 2 g2 :: Ro.sl (Kd.int .i64) none 0 ([] : List Int) :: Ro.sl kS28 f9 g0 e1 :: Ro.sl kS28 e5 e7 e0 :: Ro.sl kS28 b3 a6 a1 :: Ro.sl kS28 a8 b0 a7 :: Ro.sl kS28 e4 e6 d5 :: Ro.sl kS28 d7 d8 d4 :: Ro.sl kS28 c6 c7 c4 :: Ro.sl (Kd.int .i64) (some ⟨c9, 0, none⟩) 1 c3 :: Ro.sl (Kd.int .i64) (some ⟨c8, 0, none⟩) 1 b9 :: Ro.sl kS28 c0 c1 b8 :: Ro.sl (Kd.int .i64) (some ⟨c5, 0, none⟩) 1 b7 :: Ro.sl (Kd.int .i64) (some ⟨c2, 0, none⟩) 1 b6 :: Ro.sl kS50 A7 C8 l6 :: rs) := hS.re [] [] rfl (sub_cons 1 rfl (sub_cons 0 rfl (sub_tail (sub_tail (sub_self)))))
      obtain ⟨i6, o1, H⟩ := b1_out H
      have hq := trace_Kinds.calls o1 hS
      refine EL.of (EO.callD 21 [sv a5 a3 a0, sv (some ⟨m0, 0, none⟩) 2 g2] _ 121 (by kernel_rfl) (by kernel_rfl) (by kernel_rfl) hq ?_)
      rintro v w ⟨o8, o9, rfl, hS⟩
      refine EL.quick 4 [6] [(6, .bool (decide ((i6.length : Int) = 0)))] (by kernel_rfl) ?_
      refine EL.done (by kernel_rfl) ?_
      refine EQ.code ?_
      refine EW.ret (by kernel_rfl) ?_
      obtain rfl := Option.some.inj H
      exact EQ.leave (.bool (decide ((i6.length : Int) = 0))) (by kernel_rfl) ⟨_, rfl, rfl, (hS.re [] [0, 0, 0] rfl (sub_tail (sub_tail (sub_tail (sub_tail (sub_tail (sub_tail (sub_tail (sub_tail (sub_tail (sub_tail (sub_tail (sub_tail (sub_tail (sub_tail (sub_tail (sub_self)))))))))))))))))⟩
     rw [if_neg g9] at H
     refine EL.keep [7, 118] [(7, sv a5 a3 a0), (118, .bool (decide ((e2.length : Int) = 0)))] (by kernel_rfl) ?_
     refine EL.as' [(7, sv a5 a3 a0), (118, .bool (false))] (by simp only [encS28, sv, dec_f g9, Bool.not_true, Bool.not_false]) ?_
     refine EL.quick 7 [6] [(6, .bool (false))] (by kernel_rfl) ?_
     refine EL.done (by kernel_rfl) ?_
     refine EQ.code ?_
     refine EW.ret (by kernel_rfl) ?_
     obtain rfl := Option.some.inj H
     exact EQ.leave (.bool (false)) (by kernel_rfl) ⟨_, rfl, rfl, (hS.re [] [0, 0] rfl (sub_tail (sub_tail (sub_tail (sub_tail (sub_tail (sub_tail (sub_tail (sub_tail (sub_tail (sub_tail (sub_tail (sub_tail (sub_tail (sub_tail (sub_self))))))))))))))))⟩
    rw [if_neg g8] at H
    refine EL.keep [7, 112] [(7, sv a5 a3 a0), (112, .bool (e9))] (by kernel_rfl) ?_
    refine EL.as' [(7, sv a5 a3 a0), (112, .bool (false))] (by simp only [encS28, sv, (Bool.eq_false_iff.2 g8), Bool.not_true, Bool.not_false]) ?_
    refine EL.quick 13 [6] [(6, .bool (false))] (by kernel_rfl) ?_
    refine EL.done (by kernel_rfl) ?_
    refine EQ.code ?_
    refine EW.ret (by kernel_rfl) ?_
    obtain rfl := Option.some.inj H
    exact EQ.leave (.bool (false)) (by kernel_rfl) ⟨_, rfl, rfl, (hS.re [] [0] rfl (sub_tail (sub_tail (sub_tail (sub_tail (sub_tail (sub_tail (sub_tail (sub_tail (sub_tail (sub_tail (sub_tail (sub_tail (sub_tail (sub_self)))))))))))))))⟩
   rw [if_neg g7] at H
   refine EL.keep [7, 14, 106] [(7, sv a5 a3 a0), (14, pt b4 0), (106, .bool (e8))] (by kernel_rfl) ?_
   refine EL.as' [(7, sv a5 a3 a0), (14, pt b4 0), (106, .bool (false))] (by simp only [encS28, sv, (Bool.eq_false_iff.2 g7), Bool.not_true, Bool.not_false]) ?_
   refine EL.quick 19 [6] [(6, .bool (false))] (by kernel_rfl) ?_
   refine EL.done (by kernel_rfl) ?_
   refine EQ.code ?_
   refine EW.ret (by kernel_rfl) ?_
   obtain rfl := Option.some.inj H
   exact EQ.leave (.bool (false)) (by kernel_rfl) ⟨_, rfl, rfl, (hS.re [] [0, 0] rfl (sub_tail (sub_tail (sub_tail (sub_tail (sub_tail (sub_tail (sub_tail (sub_tail (sub_tail (sub_tail (sub_tail (sub_self)))))))))))))⟩
  rw [if_neg g6] at H
  refine EL.keep [7, 10, 11, 14, 101] [(7, sv a5 a3 a0), (10, sv b3 a6 a1), (11, sv a8 b0 a7), (14, pt b4 0), (101, .bool (decide (d2 = (a1.length : Int))))] (by kernel_rfl) ?_
  refine EL.as' [(7, sv a5 a3 a0), (10, sv b3 a6 a1), (11, sv a8 b0 a7), (14, pt b4 0), (101, .bool (false))] (by simp only [encS28, sv, dec_f g6, Bool.not_true, Bool.not_false]) ?_
  refine EL.quick 24 [6] [(6, .bool (false))] (by kernel_rfl) ?_
  refine EL.done (by kernel_rfl) ?_
  refine EQ.code ?_
  refine EW.ret (by kernel_rfl) ?_
  obtain rfl := Option.some.inj H
  exact EQ.leave (.bool (false)) (by kernel_rfl) ⟨_, rfl, rfl, (hS.re [] [0, 0, 0, 0] rfl (sub_tail (sub_tail (sub_tail (sub_tail (sub_tail (sub_tail (sub_tail (sub_tail (sub_tail (sub_self)))))))))))⟩
 rw [if_neg i7] at H
 refine EW.sq (by kernel_rfl) ?_
 refine EW.rg (by kernel_rfl) ?_
 refine EL.quick 1 [6] [(6, .bool (false))] (by kernel_rfl) ?_
 refine EL.done (by kernel_rfl) ?_
 refine EQ.code ?_
 refine EW.ret (by kernel_rfl) ?_
 refine EQ.ret ?_
 obtain rfl := Option.some.inj H
 exact EQ.leave (.bool (false)) (by kernel_rfl) ⟨_, rfl, rfl, (hS.re [] [] rfl (sub_self))⟩

def okS50 (s : S50) : Prop := ((Lit.int .u8 s.f0).wf = true) ∧ ((Lit.int .u8 s.f1).wf = true) ∧ ((Lit.int .u8 s.f2).wf = true) ∧ ((Lit.int .u8 s.f3).wf = true) ∧ True
theorem oS50 : Opens Tryd.prog 50 kS50 okS50 := Opens.array (fun s : S50 => (s.f0, s.f1, s.f2, s.f3, ())) (fun a => ⟨a.1, a.2.1, a.2.2.1, a.2.2.2.1⟩) (fun _ => rfl) Tryd.underlying50 (by kernel_rfl) (OpensA.cons (Opens.int Tryd.underlying5) (OpensA.cons (Opens.int Tryd.underlying5) (OpensA.cons (Opens.int Tryd.underlying5) (OpensA.cons (Opens.int Tryd.underlying5) OpensA.nil rfl) rfl) rfl) rfl) (by kernel_rfl)
def confidantlaw23_TraceParts.Pure : Prop := ∀ (l6 : List S50) (a9 : Int) (a10 : Int), l6.length * 4 ≤ 140737488351232 → (∀ x ∈ l6, okS50 x) → (Lit.int .u8 a9).wf = true → (Lit.int .u8 a10).wf = true → ∃ K, confidantlaw23_TraceParts.f K l6 a9 a10 = some true

end Go.Proofs.YtocdpimpkifdmaaDoor.G
