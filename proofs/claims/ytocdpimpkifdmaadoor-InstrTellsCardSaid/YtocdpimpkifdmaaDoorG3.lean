import Derived.Test.YtocdpimpkifdmaaDoorProg
import Derived.Test.YtocdpimpkifdmaaDoorFwShort
import Derived.Test.YtocdpimpkifdmaaDoorFwOpen
import Derived.Test.YtocdpimpkifdmaaDoorDoor
import Derived.Test.YtocdpimpkifdmaaDoorG0
import Derived.Test.YtocdpimpkifdmaaDoorG2
namespace Go.Proofs.YtocdpimpkifdmaaDoor.G
open Go Go.Fw Go.RowKit Go.Proofs
set_option linter.unusedVariables false
set_option linter.unusedSimpArgs false

/-! ### confidant/confidantlaw6.InstrTells: function 9 -/
def confidantlaw6_InstrTells.l0 (K : Nat) (a0 : List S54) (l14 : List Int) : Nat → Int → Option Bool
 | 0, _ => none
 | n + 1, a1 => if a1 < (a0.length : Int) then (lt (fun (g5 : List Int) => (confidantlaw6_InstrTells.l0 K a0 l14 n (IntKind.i64.wrap (a1 + 1)))) fun g4 => (if 0 ≤ a1 then (b1 (confidantref5_Put.f K ((a0.getD a1.toNat zS54).f0) ((a0.getD a1.toNat zS54).f1)) fun (a3 : List Int) => (lt (fun (e2 : Bool) => (if e2 = true then (some false) else (if (a3.length : Int) = 0 then (g4 a3) else (if (([] : List Int).length + a3.length) * 1 ≤ 140737488355328 then (lt (([] : List Int) ++ a3) fun d6 => (if (d6.length + l14.length) * 1 ≤ 140737488355328 then (lt (d6 ++ l14) fun d0 => (b2 (pack_New.f K d0) fun (e0 : List Int) (i6 : Int) => (b5 (instr_Take.f K e0 i6) fun (c4 : List Int) (c5 : Int) (a8 : Int) (b0 : Int) (c7 : Bool) => (b1 (instr_Text.f K ((a0.getD a1.toNat zS54).f0) ((a0.getD a1.toNat zS54).f1)) fun (i7 : ByteArray) => (b3 (instr_Parse.f K i7) fun (b8 : Int) (b9 : Int) (c1 : Bool) => (lt (fun (f4 : List Int) (g6 : Int) (e3 : Bool) => (if e3 = true then (some false) else (g4 a3))) fun d5 => (if c7 = true then (if ((a8 == ((a0.getD a1.toNat zS54).f0)) && ((b0 == ((a0.getD a1.toNat zS54).f1)) && true)) = true then (if c1 = true then (if ((b8 == ((a0.getD a1.toNat zS54).f0)) && ((b9 == ((a0.getD a1.toNat zS54).f1)) && true)) = true then (b3 (pack_Reader_Left.f K c4 c5) fun (i8 : List Int) (i9 : Int) (d9 : Int) => (d5 i8 i9 (!(decide (d9 = (l14.length : Int)))))) else (d5 c4 c5 true)) else (d5 c4 c5 true)) else (d5 c4 c5 true)) else (d5 c4 c5 true)))))))) else none)) else none)))) fun f2 => (b1 (instr_Right.f K ((a0.getD a1.toNat zS54).f0) ((a0.getD a1.toNat zS54).f1)) fun (d1 : Bool) => (b1 (confidantref5_Right.f K ((a0.getD a1.toNat zS54).f0) ((a0.getD a1.toNat zS54).f1)) fun (d2 : Bool) => (if (d1 == d2) = true then (b1 (instr_Put.f K ((a0.getD a1.toNat zS54).f0) ((a0.getD a1.toNat zS54).f1)) fun (b7 : List Int) => (if ((bStr b7).toList == (bStr a3).toList) = true then (b1 (instr_Text.f K ((a0.getD a1.toNat zS54).f0) ((a0.getD a1.toNat zS54).f1)) fun (d7 : ByteArray) => (b1 (confidantref5_Text.f K ((a0.getD a1.toNat zS54).f0) ((a0.getD a1.toNat zS54).f1)) fun (d8 : ByteArray) => (f2 (!((d7.toList == d8.toList)))))) else (f2 true))) else (f2 true)))))) else none)) else (some true)
def confidantlaw6_InstrTells.f (K : Nat) (a9 : Int) (a10 : Int) (a11 : Int) (a12 : Int) (a13 : Int) (l14 : List Int) : Option Bool := b1 (confidantlaw6_known.f K) fun (f3 : Bool) => (if f3 = true then (if (l14.length : Int) > 20 then (some true) else (b2 (confidantseat_Instr.f K a11 a12) fun (a7 : Int) (b6 : Int) => (lt ([(⟨a9, a10⟩ : S54), (⟨a7, b6⟩ : S54), (⟨a7, a13⟩ : S54), (⟨bA .i64 a9 31, a13⟩ : S54)] : List S54) fun a0 => (confidantlaw6_InstrTells.l0 K a0 l14 K 0)))) else (some false))
set_option maxRecDepth 100000 in
theorem confidantlaw6_InstrTells.calls {K : Nat} {a9 : Int} {a10 : Int} {a11 : Int} {a12 : Int} {a13 : Int} {l14 : List Int} {A15 : Option Addr} {C16 : Nat} {e1 : Bool} {B w : World} {os : List Ass} {rs : List Ro} (H : confidantlaw6_InstrTells.f K a9 a10 a11 a12 a13 l14 = some e1) (hS : St B w (os) (Ro.sl (Kd.int .u8) A15 C16 l14 :: rs)) (gB : Glob B) :
  Calls Tryd.prog 9 [ag [ia a9, ib a10], ig a11, ig a12, ib a13, sv A15 C16 l14].toArray w (fun en w' => ∃ v, en = .returned v ∧ v = .bool (e1) ∧ St B w' (os) (Ro.sl (Kd.int .u8) A15 C16 l14 :: rs)) := by
 unfold confidantlaw6_InstrTells.f at H
 refine calls_of_EW (args := [ag [ia a9, ib a10], ig a11, ig a12, ib a13, sv A15 C16 l14]) (c := Cd9) 110 Tryd.func9 (by kernel_rfl) (by kernel_rfl) (by kernel_rfl) ?_
 refine EW.sq (by kernel_rfl) ?_
 refine EW.rg (by kernel_rfl) ?_
 refine EL.of (EO.box hS 54 (ag [ia a9, ib a10]) [ia a9, ib a10] 5 (by kernel_rfl) (by kernel_rfl) (by kernel_rfl) (by first | rfl | kernel_rfl) ?_)
 intro c0 w hS
 refine EL.quick 1 [1, 2, 3, 4, 5] [(1, ig a11), (2, ig a12), (3, ib a13), (4, sv A15 C16 l14), (5, pt c0 0)] (by kernel_rfl) ?_
 refine EL.done (by kernel_rfl) ?_
 refine EQ.code ?_
 refine EW.sq (by kernel_rfl) ?_
 refine EW.sq (by kernel_rfl) ?_
 refine EW.rg (by kernel_rfl) ?_
 obtain ⟨f3, m0, H⟩ := b1_out H
 have hq := confidantlaw6_known.calls m0 hS gB
 refine EL.of (EO.callD 29 [] _ 20 (by kernel_rfl) (by kernel_rfl) (by kernel_rfl) hq ?_)
 rintro v w ⟨rfl, hS⟩
 refine EL.quick 1 [1, 2, 3, 4, 5, 21] [(1, ig a11), (2, ig a12), (3, ib a13), (4, sv A15 C16 l14), (5, pt c0 0), (21, .bool (!(f3)))] (by kernel_rfl) ?_
 refine EL.done (by kernel_rfl) ?_
 refine EQ.code ?_
 refine EW.cdQ (b := !(f3)) (f3 = true) (false) (by kernel_rfl) (by kernel_rfl) ⟨fun h => (by rw [h] <;> rfl), fun h => (by rw [Bool.eq_false_iff.2 h] <;> rfl)⟩ (fun g9 => ?_) (fun g9 => ?_)
 ·rw [if_pos g9] at H
  refine EW.skip (by kernel_rfl) ?_
  refine EQ.code ?_
  refine EW.sq (by kernel_rfl) ?_
  refine EW.sq (by kernel_rfl) ?_
  refine EW.rg (by kernel_rfl) ?_
  refine EL.quick 3 [1, 2, 3, 4, 5, 24] [(1, ig a11), (2, ig a12), (3, ib a13), (4, sv A15 C16 l14), (5, pt c0 0), (24, .bool (decide ((l14.length : Int) > 20)))] (by kernel_rfl) ?_
  refine EL.done (by kernel_rfl) ?_
  refine EQ.code ?_
  refine EW.cdP ((l14.length : Int) > 20) (by kernel_rfl) (by kernel_rfl) (fun i0 => ?_) (fun i0 => ?_)
  ·rw [if_pos i0] at H
   refine EW.sq (by kernel_rfl) ?_
   refine EW.rg (by kernel_rfl) ?_
   refine EL.quick 1 [10] [(10, .bool (true))] (by kernel_rfl) ?_
   refine EL.done (by kernel_rfl) ?_
   refine EQ.code ?_
   refine EW.ret (by kernel_rfl) ?_
   refine EQ.ret ?_
   obtain rfl := Option.some.inj H
   exact EQ.leave (.bool (true)) (by kernel_rfl) ⟨_, rfl, rfl, (hS.re [] [0] rfl (sub_self))⟩
  rw [if_neg i0] at H
  refine EW.skip (by kernel_rfl) ?_
  refine EQ.code ?_
  refine EW.sq (by kernel_rfl) ?_
  refine EW.rg (by kernel_rfl) ?_
  refine EL.quick 2 [3, 4, 5, 25, 26] [(3, ib a13), (4, sv A15 C16 l14), (5, pt c0 0), (25, ig a11), (26, ig a12)] (by kernel_rfl) ?_
  obtain ⟨a7, b6, m1, H⟩ := b2_out H
  have hq := confidantseat_Instr.calls m1 hS
  refine EL.of (EO.callD 36 [ig a11, ig a12] _ 27 (by kernel_rfl) (by kernel_rfl) (by kernel_rfl) hq ?_)
  rintro v w ⟨rfl, hS⟩
  refine EL.of (EO.alloc hS 54 (ag [ia 0, ib 0]) [ia 0, ib 0] 11 (by kernel_rfl) (by kernel_rfl) (by kernel_rfl) (by kernel_rfl) (by first | rfl | kernel_rfl) ?_)
  intro c2 w hS
  refine EL.of (EO.storeBox (os' := Ass.box 54 c2 [ia a7, ib b6] :: Ass.box 54 c0 [ia a9, ib a10] :: os) hS 0 rfl 54 0 (ag [ia a7, ib b6]) [ia a7, ib b6] (by kernel_rfl) (by kernel_rfl) (by kernel_rfl) (by kernel_rfl) (by kernel_rfl) (by kernel_rfl) rfl rfl ?_)
  intro w hS
  refine EL.done (by kernel_rfl) ?_
  refine EQ.code ?_
  refine EW.sq (by kernel_rfl) ?_
  refine EW.sq (by kernel_rfl) ?_
  refine EW.rg (by kernel_rfl) ?_
  refine EL.of (EO.Y (YO.loadBox hS 1 rfl 54 0 2 (ag [ia a9, ib a10]) 28 (by kernel_rfl) (by kernel_rfl) (by kernel_rfl) (by kernel_rfl)) ?_)
  refine EL.of (EO.Y (YO.loadBox hS 0 rfl 54 0 2 (ag [ia a7, ib b6]) 29 (by kernel_rfl) (by kernel_rfl) (by kernel_rfl) (by kernel_rfl)) ?_)
  refine EL.quick 1 [3, 4, 5, 28, 29, 30] [(3, ib a13), (4, sv A15 C16 l14), (5, pt c0 0), (28, ag [ia a9, ib a10]), (29, ag [ia a7, ib b6]), (30, pt c2 0)] (by kernel_rfl) ?_
  refine EL.of (EO.Y (YO.loadBox hS 0 rfl 3 0 1 (ia a7) 31 (by kernel_rfl) (by kernel_rfl) (by kernel_rfl) (by kernel_rfl)) ?_)
  refine EL.quick 3 [3, 4, 28, 29, 33, 34] [(3, ib a13), (4, sv A15 C16 l14), (28, ag [ia a9, ib a10]), (29, ag [ia a7, ib b6]), (33, ag [ia a7, ib a13]), (34, pt c0 0)] (by kernel_rfl) ?_
  refine EL.of (EO.Y (YO.loadBox hS 1 rfl 3 0 1 (ia a9) 35 (by kernel_rfl) (by kernel_rfl) (by kernel_rfl) (by kernel_rfl)) ?_)
  refine EL.quick 3 [4, 28, 29, 33, 38] [(4, sv A15 C16 l14), (28, ag [ia a9, ib a10]), (29, ag [ia a7, ib b6]), (33, ag [ia a7, ib a13]), (38, ag [ia (bA .i64 a9 31), ib a13])] (by kernel_rfl) ?_
  obtain ⟨a0, j5, H⟩ := lt_out H
  refine EL.of (EO.lit hS kS54 54 65 4 #[(0, ag [ia a9, ib a10]), (1, ag [ia a7, ib b6]), (2, ag [ia a7, ib a13]), (3, ag [ia (bA .i64 a9 31), ib a13])] [ia a9, ib a10, ia a7, ib b6, ia a7, ib a13, ia (bA .i64 a9 31), ib a13] a0 39 (by kernel_rfl) (by kernel_rfl) (by kernel_rfl) (fun _ => (by kernel_rfl)) (by rw [j5]; rfl) (by kernel_rfl) (fun w G hr => (by rw [j5]; exact ⟨[ia a9, ib a10], [ia a7, ib b6, ia a7, ib a13, ia (bA .i64 a9 31), ib a13], rfl, ⟨[ia a9], [ib a10], rfl, rfl, ⟨[ib a10], [], rfl, rfl, rfl⟩⟩, ⟨[ia a7, ib b6], [ia a7, ib a13, ia (bA .i64 a9 31), ib a13], rfl, ⟨[ia a7], [ib b6], rfl, rfl, ⟨[ib b6], [], rfl, rfl, rfl⟩⟩, ⟨[ia a7, ib a13], [ia (bA .i64 a9 31), ib a13], rfl, ⟨[ia a7], [ib a13], rfl, rfl, ⟨[ib a13], [], rfl, rfl, rfl⟩⟩, ⟨[ia (bA .i64 a9 31), ib a13], [], rfl, ⟨[ia (bA .i64 a9 31)], [ib a13], rfl, rfl, ⟨[ib a13], [], rfl, rfl, rfl⟩⟩, rfl⟩⟩⟩⟩)) ?_)
  intro a2 w hS
  refine EL.quick 2 [4, 39, 40, 41] [(4, sv A15 C16 l14), (39, sv (some ⟨a2, 0, none⟩) 4 a0), (40, ia (a0.length : Int)), (41, ia 0)] (by kernel_rfl) ?_
  refine EL.done (by kernel_rfl) ?_
  refine EQ.code ?_
  refine EW.bl 0 (by kernel_rfl) ?_
  refine EW.lp (fun n a w => ∃ a1 : Int, Sat 110 [(4, sv A15 C16 l14), (39, sv (some ⟨a2, 0, none⟩) 4 a0), (40, ia (a0.length : Int)), (41, ia a1)] a ∧ St B w (Ass.own 54 kS54 (some ⟨a2, 0, none⟩) 4 a0 :: Ass.box 54 c2 [ia a7, ib b6] :: Ass.box 54 c0 [ia a9, ib a10] :: os) (Ro.sl (Kd.int .u8) A15 C16 l14 :: rs) ∧ confidantlaw6_InstrTells.l0 K a0 l14 n a1 = some e1) K (by kernel_rfl) ?_ (fun n a w hI => ?_)
  ·refine EQ.keep [4, 39, 40, 41] [(4, sv A15 C16 l14), (39, sv (some ⟨a2, 0, none⟩) 4 a0), (40, ia (a0.length : Int)), (41, ia 0)] (by kernel_rfl) ?_
   exact fun a ha => ⟨0, ha, (hS.re [2, 2, 2] [] rfl (sub_cons 0 rfl (sub_tail (sub_self)))), H⟩
  obtain ⟨a1, ha, hS, H⟩ := hI
  obtain _ | n := n
  ·simp [confidantlaw6_InstrTells.l0] at H
  rw [confidantlaw6_InstrTells.l0.eq_2] at H
  refine EW.at ?_ a ha
  clear ha a
  refine EW.sq (by kernel_rfl) ?_
  refine EW.rg (by kernel_rfl) ?_
  refine EL.quick 1 [4, 39, 40, 41, 42] [(4, sv A15 C16 l14), (39, sv (some ⟨a2, 0, none⟩) 4 a0), (40, ia (a0.length : Int)), (41, ia a1), (42, .bool (decide (a1 < (a0.length : Int))))] (by kernel_rfl) ?_
  refine EL.done (by kernel_rfl) ?_
  refine EQ.code ?_
  refine EW.sq (by kernel_rfl) ?_
  refine EW.cdP (a1 < (a0.length : Int)) (by kernel_rfl) (by kernel_rfl) (fun e8 => ?_) (fun e8 => ?_)
  ·rw [if_pos e8] at H
   refine EW.skip (by kernel_rfl) ?_
   refine EQ.code ?_
   obtain ⟨g4, n0, H⟩ := lt_out H
   refine EW.ct (fun a w => ∃ g5 : List Int, ∃ j2 : Nat, ∃ j0 : Option Addr, ∃ j1 : Nat, Sat 110 [(4, sv A15 C16 l14), (39, sv (some ⟨a2, 0, none⟩) 4 a0), (40, ia (a0.length : Int)), (41, ia a1)] a ∧ St B w (Ass.own 5 (Kd.int .u8) j0 j1 g5 :: Ass.box 54 j2 [ia ((a0.getD a1.toNat zS54).f0), ib ((a0.getD a1.toNat zS54).f1)] :: Ass.own 54 kS54 (some ⟨a2, 0, none⟩) 4 a0 :: Ass.box 54 c2 [ia a7, ib b6] :: Ass.box 54 c0 [ia a9, ib a10] :: os) (Ro.sl (Kd.int .u8) A15 C16 l14 :: rs) ∧ g4 g5 = some e1) (by kernel_rfl) ?_ (fun a w hI => ?_)
   ·refine EW.bl 1 (by kernel_rfl) ?_
    refine EW.sq (by kernel_rfl) ?_
    refine EW.rg (by kernel_rfl) ?_
    obtain ⟨j3, H⟩ := ite_in H
    refine EL.of (EO.Y (YO.idx 65 2 ⟨a2, 0, none⟩ a0.length 4 .i64 a1 43 (by kernel_rfl) (by kernel_rfl) (by kernel_rfl) (by kernel_rfl) j3 e8) ?_)
    refine EL.of (EO.Y (YO.loadEl hS kS54 ⟨a2, 0, none⟩ 4 a0 (Rd.own 0 54 rfl) zS54 encS54 encS54_of a1 j3 e8 54 2 0 2 rfl (ag [ia ((a0.getD a1.toNat zS54).f0), ib ((a0.getD a1.toNat zS54).f1)]) 44 (by kernel_rfl) (by kernel_rfl) (by kernel_rfl) (by kernel_rfl)) ?_)
    refine EL.of (EO.alloc hS 54 (ag [ia 0, ib 0]) [ia 0, ib 0] 13 (by kernel_rfl) (by kernel_rfl) (by kernel_rfl) (by kernel_rfl) (by first | rfl | kernel_rfl) ?_)
    intro a4 w hS
    refine EL.of (EO.storeBox (os' := Ass.box 54 a4 [ia ((a0.getD a1.toNat zS54).f0), ib ((a0.getD a1.toNat zS54).f1)] :: Ass.own 54 kS54 (some ⟨a2, 0, none⟩) 4 a0 :: Ass.box 54 c2 [ia a7, ib b6] :: Ass.box 54 c0 [ia a9, ib a10] :: os) hS 0 rfl 54 0 (ag [ia ((a0.getD a1.toNat zS54).f0), ib ((a0.getD a1.toNat zS54).f1)]) [ia ((a0.getD a1.toNat zS54).f0), ib ((a0.getD a1.toNat zS54).f1)] (by kernel_rfl) (by kernel_rfl) (by kernel_rfl) (by kernel_rfl) (by kernel_rfl) (by kernel_rfl) rfl rfl ?_)
    intro w hS
    refine EL.done (by kernel_rfl) ?_
    refine EQ.code ?_
    refine EW.sq (by kernel_rfl) ?_
    refine EW.rg (by kernel_rfl) ?_
    refine EL.of (EO.Y (YO.loadBox hS 0 rfl 54 0 2 (ag [ia ((a0.getD a1.toNat zS54).f0), ib ((a0.getD a1.toNat zS54).f1)]) 45 (by kernel_rfl) (by kernel_rfl) (by kernel_rfl) (by kernel_rfl)) ?_)
    obtain ⟨a3, m2, H⟩ := b1_out H
    have hq := confidantref5_Put.calls m2 hS
    refine EL.of (EO.callD 37 [ag [ia ((a0.getD a1.toNat zS54).f0), ib ((a0.getD a1.toNat zS54).f1)]] _ 46 (by kernel_rfl) (by kernel_rfl) (by kernel_rfl) hq ?_)
    rintro v w ⟨a5, a6, rfl, hS⟩
    refine EL.quick 1 [4, 13, 14, 39, 40, 41] [(4, sv A15 C16 l14), (13, pt a4 0), (14, sv a5 a6 a3), (39, sv (some ⟨a2, 0, none⟩) 4 a0), (40, ia (a0.length : Int)), (41, ia a1)] (by kernel_rfl) ?_
    refine EL.done (by kernel_rfl) ?_
    refine EQ.code ?_
    refine EW.sq (by kernel_rfl) ?_
    obtain ⟨f2, n1, H⟩ := lt_out H
    refine EW.ct (fun a w => ∃ e2 : Bool, Sat 110 [(4, sv A15 C16 l14), (13, pt a4 0), (14, sv a5 a6 a3), (39, sv (some ⟨a2, 0, none⟩) 4 a0), (40, ia (a0.length : Int)), (41, ia a1), (66, .bool (e2))] a ∧ St B w (Ass.own 5 (Kd.int .u8) a5 a6 a3 :: Ass.box 54 a4 [ia ((a0.getD a1.toNat zS54).f0), ib ((a0.getD a1.toNat zS54).f1)] :: Ass.own 54 kS54 (some ⟨a2, 0, none⟩) 4 a0 :: Ass.box 54 c2 [ia a7, ib b6] :: Ass.box 54 c0 [ia a9, ib a10] :: os) (Ro.sl (Kd.int .u8) A15 C16 l14 :: rs) ∧ f2 e2 = some e1) (by kernel_rfl) ?_ (fun a w hI => ?_)
    ·obtain ⟨d1, i4, H⟩ := b1_out H
     obtain ⟨d2, i5, H⟩ := b1_out H
     by_cases e9 : (d1 == d2) = true
     ·rw [if_pos e9] at H
      obtain ⟨b7, j4, H⟩ := b1_out H
      by_cases f9 : ((bStr b7).toList == (bStr a3).toList) = true
      ·rw [if_pos f9] at H
       obtain ⟨d7, m3, H⟩ := b1_out H
       obtain ⟨d8, m4, H⟩ := b1_out H
       have hS := hS.drew
       refine EW.dr (B := B) [Ass.own 5 (Kd.int .u8) a5 a6 a3, Ass.box 54 a4 [ia ((a0.getD a1.toNat zS54).f0), ib ((a0.getD a1.toNat zS54).f1)], Ass.own 54 kS54 (some ⟨a2, 0, none⟩) 4 a0, Ass.box 54 c2 [ia a7, ib b6], Ass.box 54 c0 [ia a9, ib a10]] [Ro.sl (Kd.int .u8) A15 C16 l14] (by kernel_rfl) (by kernel_rfl) ?_
       have hN : Region.noSelect Cd9.r.r.r.r.l.r.l.l.r.r.l.l.r.r.l.l.ops = true := (by kernel_rfl)
       have hF : freeAll Cd9.r.r.r.r.l.r.l.l.r.r.l.l.r.r.l.l.ops = true := (by kernel_rfl)
       have hC : Core B [Ass.own 5 (Kd.int .u8) a5 a6 a3, Ass.box 54 a4 [ia ((a0.getD a1.toNat zS54).f0), ib ((a0.getD a1.toNat zS54).f1)], Ass.own 54 kS54 (some ⟨a2, 0, none⟩) 4 a0, Ass.box 54 c2 [ia a7, ib b6], Ass.box 54 c0 [ia a9, ib a10]] [Ro.sl (Kd.int .u8) A15 C16 l14] _ := ⟨_, _, hS⟩
       refine ED.Y hN hF hC 0 19 (bm 20 1) (by kernel_rfl) (by kernel_rfl) rfl (fun _ _ _ hS => YO.loadBox hS 1 rfl 54 0 2 (ag [ia ((a0.getD a1.toNat zS54).f0), ib ((a0.getD a1.toNat zS54).f1)]) 47 (by kernel_rfl) (by kernel_rfl) (by kernel_rfl) (by kernel_rfl)) ?_
       refine ED.Y hN hF hC 2 18 (bm 20 5) (by kernel_rfl) (by kernel_rfl) rfl (fun _ _ _ hS => YO.loadBox hS 1 rfl 54 0 2 (ag [ia ((a0.getD a1.toNat zS54).f0), ib ((a0.getD a1.toNat zS54).f1)]) 49 (by kernel_rfl) (by kernel_rfl) (by kernel_rfl) (by kernel_rfl)) ?_
       have hq := instr_Right.calls i4 hS
       refine ED.one 1 17 (bm 20 7) (by kernel_rfl) (by kernel_rfl) (by kernel_rfl) (EO.callD 30 [ag [ia ((a0.getD a1.toNat zS54).f0), ib ((a0.getD a1.toNat zS54).f1)]] _ 48 (by kernel_rfl) (by kernel_rfl) (by kernel_rfl) hq ?_)
       rintro v w ⟨rfl, hS⟩
       have hC := hC.again ⟨_, _, hS⟩
       refine ⟨hC, ?_⟩
       have hq := confidantref5_Right.calls i5 hS
       refine ED.one 3 16 (bm 20 15) (by kernel_rfl) (by kernel_rfl) (by kernel_rfl) (EO.callD 38 [ag [ia ((a0.getD a1.toNat zS54).f0), ib ((a0.getD a1.toNat zS54).f1)]] _ 50 (by kernel_rfl) (by kernel_rfl) (by kernel_rfl) hq ?_)
       rintro v w ⟨rfl, hS⟩
       have hC := hC.again ⟨_, _, hS⟩
       refine ⟨hC, ?_⟩
       refine ED.quick hN hF hC [4, 5] [4, 13, 14, 39, 40, 41, 52] 14 [(4, sv A15 C16 l14), (13, pt a4 0), (14, sv a5 a6 a3), (39, sv (some ⟨a2, 0, none⟩) 4 a0), (40, ia (a0.length : Int)), (41, ia a1), (52, .bool (!((d1 == d2))))] (bm 20 63) (by kernel_rfl) (by kernel_rfl) ?_
       refine ED.keep [4, 13, 14, 39, 40, 41, 52] [(4, sv A15 C16 l14), (13, pt a4 0), (14, sv a5 a6 a3), (39, sv (some ⟨a2, 0, none⟩) 4 a0), (40, ia (a0.length : Int)), (41, ia a1), (52, .bool (!((d1 == d2))))] (by kernel_rfl) ?_
       refine ED.as' [(4, sv A15 C16 l14), (13, pt a4 0), (14, sv a5 a6 a3), (39, sv (some ⟨a2, 0, none⟩) 4 a0), (40, ia (a0.length : Int)), (41, ia a1), (52, .bool (false))] (by simp only [encS54, sv, e9, Bool.not_true, Bool.not_false]) ?_
       refine ED.quick hN hF hC [9] [4, 13, 14, 39, 40, 41, 52, 56] 13 [(4, sv A15 C16 l14), (13, pt a4 0), (14, sv a5 a6 a3), (39, sv (some ⟨a2, 0, none⟩) 4 a0), (40, ia (a0.length : Int)), (41, ia a1), (52, .bool (false)), (56, sv a5 a6 a3)] (bm 20 575) (by kernel_rfl) (by kernel_rfl) ?_
       refine ED.Y hN hF hC 6 12 (bm 20 639) (by kernel_rfl) (by kernel_rfl) rfl (fun _ _ _ hS => YO.loadBox hS 1 rfl 54 0 2 (ag [ia ((a0.getD a1.toNat zS54).f0), ib ((a0.getD a1.toNat zS54).f1)]) 53 (by kernel_rfl) (by kernel_rfl) (by kernel_rfl) (by kernel_rfl)) ?_
       refine ED.Y hN hF hC 10 11 (bm 20 1663) (by kernel_rfl) (by kernel_rfl) rfl (fun _ _ _ hS => YO.bstr hS a5 a6 a3 (Rd.own 0 5 rfl) 33 9 5 57 (by kernel_rfl) (by kernel_rfl) (by kernel_rfl) (by kernel_rfl) (by kernel_rfl) (by kernel_rfl)) ?_
       have hq := instr_Put.calls j4 hS
       refine ED.one 7 10 (bm 20 1791) (by kernel_rfl) (by kernel_rfl) (by kernel_rfl) (EO.callD 31 [ag [ia ((a0.getD a1.toNat zS54).f0), ib ((a0.getD a1.toNat zS54).f1)]] _ 54 (by kernel_rfl) (by kernel_rfl) (by kernel_rfl) hq ?_)
       rintro v w ⟨e4, e6, rfl, hS⟩
       have hC := hC.again ⟨_, _, hS.re [5, 5, 5, 5, 5] [] rfl sub_self⟩
       refine ⟨hC, ?_⟩
       refine ED.one 8 9 (bm 20 2047) (by kernel_rfl) (by kernel_rfl) (by kernel_rfl) (EO.Y (YO.bstr hS e4 e6 b7 (Rd.own 0 5 rfl) 33 9 5 55 (by kernel_rfl) (by kernel_rfl) (by kernel_rfl) (by kernel_rfl) (by kernel_rfl) (by kernel_rfl)) ?_)
       have hC := hC.again ⟨_, _, hS.re [5, 5, 5, 5, 5] [] rfl sub_self⟩
       refine ⟨hC, ?_⟩
       refine ED.quick hN hF hC [11, 12, 13] [4, 13, 14, 39, 40, 41, 53, 54, 55, 56, 57, 58, 60] 6 [(4, sv A15 C16 l14), (13, pt a4 0), (14, sv a5 a6 a3), (39, sv (some ⟨a2, 0, none⟩) 4 a0), (40, ia (a0.length : Int)), (41, ia a1), (53, ag [ia ((a0.getD a1.toNat zS54).f0), ib ((a0.getD a1.toNat zS54).f1)]), (54, sv e4 e6 b7), (55, .string (bStr b7)), (56, sv a5 a6 a3), (57, .string (bStr a3)), (58, .bool (!(((bStr b7).toList == (bStr a3).toList)))), (60, .bool (!(((bStr b7).toList == (bStr a3).toList))))] (bm 20 16383) (by kernel_rfl) (by kernel_rfl) ?_
       refine ED.keep [4, 13, 14, 39, 40, 41, 53, 54, 55, 56, 57, 58, 60] [(4, sv A15 C16 l14), (13, pt a4 0), (14, sv a5 a6 a3), (39, sv (some ⟨a2, 0, none⟩) 4 a0), (40, ia (a0.length : Int)), (41, ia a1), (53, ag [ia ((a0.getD a1.toNat zS54).f0), ib ((a0.getD a1.toNat zS54).f1)]), (54, sv e4 e6 b7), (55, .string (bStr b7)), (56, sv a5 a6 a3), (57, .string (bStr a3)), (58, .bool (!(((bStr b7).toList == (bStr a3).toList)))), (60, .bool (!(((bStr b7).toList == (bStr a3).toList))))] (by kernel_rfl) ?_
       refine ED.as' [(4, sv A15 C16 l14), (13, pt a4 0), (14, sv a5 a6 a3), (39, sv (some ⟨a2, 0, none⟩) 4 a0), (40, ia (a0.length : Int)), (41, ia a1), (53, ag [ia ((a0.getD a1.toNat zS54).f0), ib ((a0.getD a1.toNat zS54).f1)]), (54, sv e4 e6 b7), (55, .string (bStr b7)), (56, sv a5 a6 a3), (57, .string (bStr a3)), (58, .bool (false)), (60, .bool (false))] (by simp only [encS54, sv, f9, Bool.not_true, Bool.not_false]) ?_
       refine ED.Y hN hF hC 14 5 (bm 20 32767) (by kernel_rfl) (by kernel_rfl) rfl (fun _ _ _ hS => YO.loadBox hS 1 rfl 54 0 2 (ag [ia ((a0.getD a1.toNat zS54).f0), ib ((a0.getD a1.toNat zS54).f1)]) 61 (by kernel_rfl) (by kernel_rfl) (by kernel_rfl) (by kernel_rfl)) ?_
       refine ED.Y hN hF hC 16 4 (bm 20 98303) (by kernel_rfl) (by kernel_rfl) rfl (fun _ _ _ hS => YO.loadBox hS 1 rfl 54 0 2 (ag [ia ((a0.getD a1.toNat zS54).f0), ib ((a0.getD a1.toNat zS54).f1)]) 63 (by kernel_rfl) (by kernel_rfl) (by kernel_rfl) (by kernel_rfl)) ?_
       have hq := instr_Text.calls m3 hS gB
       refine ED.one 15 3 (bm 20 131071) (by kernel_rfl) (by kernel_rfl) (by kernel_rfl) (EO.callD 32 [ag [ia ((a0.getD a1.toNat zS54).f0), ib ((a0.getD a1.toNat zS54).f1)]] _ 62 (by kernel_rfl) (by kernel_rfl) (by kernel_rfl) hq ?_)
       rintro v w ⟨rfl, hS⟩
       have hC := hC.again ⟨_, _, hS.re [5, 5, 5, 5, 5] [] rfl sub_self⟩
       refine ⟨hC, ?_⟩
       have hq := confidantref5_Text.calls m4 hS
       refine ED.one 17 2 (bm 20 262143) (by kernel_rfl) (by kernel_rfl) (by kernel_rfl) (EO.callD 39 [ag [ia ((a0.getD a1.toNat zS54).f0), ib ((a0.getD a1.toNat zS54).f1)]] _ 64 (by kernel_rfl) (by kernel_rfl) (by kernel_rfl) hq ?_)
       rintro v w ⟨rfl, hS⟩
       have hC := hC.again ⟨_, _, hS.re [5, 5, 5, 5, 5] [] rfl sub_self⟩
       refine ⟨hC, ?_⟩
       refine ED.quick hN hF hC [18, 19] [4, 13, 14, 39, 40, 41, 53, 54, 55, 56, 57, 58, 61, 62, 63, 64, 65, 66] 0 [(4, sv A15 C16 l14), (13, pt a4 0), (14, sv a5 a6 a3), (39, sv (some ⟨a2, 0, none⟩) 4 a0), (40, ia (a0.length : Int)), (41, ia a1), (53, ag [ia ((a0.getD a1.toNat zS54).f0), ib ((a0.getD a1.toNat zS54).f1)]), (54, sv e4 e6 b7), (55, .string (bStr b7)), (56, sv a5 a6 a3), (57, .string (bStr a3)), (58, .bool (false)), (61, ag [ia ((a0.getD a1.toNat zS54).f0), ib ((a0.getD a1.toNat zS54).f1)]), (62, .string d7), (63, ag [ia ((a0.getD a1.toNat zS54).f0), ib ((a0.getD a1.toNat zS54).f1)]), (64, .string d8), (65, .bool (!((d7.toList == d8.toList)))), (66, .bool (!((d7.toList == d8.toList))))] (bm 20 1048575) (by kernel_rfl) (by kernel_rfl) ?_
       refine ED.done (by kernel_rfl) ?_
       refine EQ.to ?_
       refine EQ.keep [4, 13, 14, 39, 40, 41, 66] [(4, sv A15 C16 l14), (13, pt a4 0), (14, sv a5 a6 a3), (39, sv (some ⟨a2, 0, none⟩) 4 a0), (40, ia (a0.length : Int)), (41, ia a1), (66, .bool (!((d7.toList == d8.toList))))] (by kernel_rfl) ?_
       exact fun a ha => ⟨!((d7.toList == d8.toList)), ha, (hS.re [5, 5, 5, 5, 5] [5] rfl (sub_cons 0 rfl (sub_tail (sub_self)))), H⟩
      rw [if_neg f9] at H
      have hS := hS.drew
      refine EW.dr (B := B) [Ass.own 5 (Kd.int .u8) a5 a6 a3, Ass.box 54 a4 [ia ((a0.getD a1.toNat zS54).f0), ib ((a0.getD a1.toNat zS54).f1)], Ass.own 54 kS54 (some ⟨a2, 0, none⟩) 4 a0, Ass.box 54 c2 [ia a7, ib b6], Ass.box 54 c0 [ia a9, ib a10]] [Ro.sl (Kd.int .u8) A15 C16 l14] (by kernel_rfl) (by kernel_rfl) ?_
      have hN : Region.noSelect Cd9.r.r.r.r.l.r.l.l.r.r.l.l.r.r.l.l.ops = true := (by kernel_rfl)
      have hF : freeAll Cd9.r.r.r.r.l.r.l.l.r.r.l.l.r.r.l.l.ops = true := (by kernel_rfl)
      have hC : Core B [Ass.own 5 (Kd.int .u8) a5 a6 a3, Ass.box 54 a4 [ia ((a0.getD a1.toNat zS54).f0), ib ((a0.getD a1.toNat zS54).f1)], Ass.own 54 kS54 (some ⟨a2, 0, none⟩) 4 a0, Ass.box 54 c2 [ia a7, ib b6], Ass.box 54 c0 [ia a9, ib a10]] [Ro.sl (Kd.int .u8) A15 C16 l14] _ := ⟨_, _, hS⟩
      refine ED.Y hN hF hC 0 19 (bm 20 1) (by kernel_rfl) (by kernel_rfl) rfl (fun _ _ _ hS => YO.loadBox hS 1 rfl 54 0 2 (ag [ia ((a0.getD a1.toNat zS54).f0), ib ((a0.getD a1.toNat zS54).f1)]) 47 (by kernel_rfl) (by kernel_rfl) (by kernel_rfl) (by kernel_rfl)) ?_
      refine ED.Y hN hF hC 2 18 (bm 20 5) (by kernel_rfl) (by kernel_rfl) rfl (fun _ _ _ hS => YO.loadBox hS 1 rfl 54 0 2 (ag [ia ((a0.getD a1.toNat zS54).f0), ib ((a0.getD a1.toNat zS54).f1)]) 49 (by kernel_rfl) (by kernel_rfl) (by kernel_rfl) (by kernel_rfl)) ?_
      have hq := instr_Right.calls i4 hS
      refine ED.one 1 17 (bm 20 7) (by kernel_rfl) (by kernel_rfl) (by kernel_rfl) (EO.callD 30 [ag [ia ((a0.getD a1.toNat zS54).f0), ib ((a0.getD a1.toNat zS54).f1)]] _ 48 (by kernel_rfl) (by kernel_rfl) (by kernel_rfl) hq ?_)
      rintro v w ⟨rfl, hS⟩
      have hC := hC.again ⟨_, _, hS⟩
      refine ⟨hC, ?_⟩
      have hq := confidantref5_Right.calls i5 hS
      refine ED.one 3 16 (bm 20 15) (by kernel_rfl) (by kernel_rfl) (by kernel_rfl) (EO.callD 38 [ag [ia ((a0.getD a1.toNat zS54).f0), ib ((a0.getD a1.toNat zS54).f1)]] _ 50 (by kernel_rfl) (by kernel_rfl) (by kernel_rfl) hq ?_)
      rintro v w ⟨rfl, hS⟩
      have hC := hC.again ⟨_, _, hS⟩
      refine ⟨hC, ?_⟩
      refine ED.quick hN hF hC [4, 5] [4, 13, 14, 39, 40, 41, 52] 14 [(4, sv A15 C16 l14), (13, pt a4 0), (14, sv a5 a6 a3), (39, sv (some ⟨a2, 0, none⟩) 4 a0), (40, ia (a0.length : Int)), (41, ia a1), (52, .bool (!((d1 == d2))))] (bm 20 63) (by kernel_rfl) (by kernel_rfl) ?_
      refine ED.keep [4, 13, 14, 39, 40, 41, 52] [(4, sv A15 C16 l14), (13, pt a4 0), (14, sv a5 a6 a3), (39, sv (some ⟨a2, 0, none⟩) 4 a0), (40, ia (a0.length : Int)), (41, ia a1), (52, .bool (!((d1 == d2))))] (by kernel_rfl) ?_
      refine ED.as' [(4, sv A15 C16 l14), (13, pt a4 0), (14, sv a5 a6 a3), (39, sv (some ⟨a2, 0, none⟩) 4 a0), (40, ia (a0.length : Int)), (41, ia a1), (52, .bool (false))] (by simp only [encS54, sv, e9, Bool.not_true, Bool.not_false]) ?_
      refine ED.quick hN hF hC [9] [4, 13, 14, 39, 40, 41, 52, 56] 13 [(4, sv A15 C16 l14), (13, pt a4 0), (14, sv a5 a6 a3), (39, sv (some ⟨a2, 0, none⟩) 4 a0), (40, ia (a0.length : Int)), (41, ia a1), (52, .bool (false)), (56, sv a5 a6 a3)] (bm 20 575) (by kernel_rfl) (by kernel_rfl) ?_
      refine ED.Y hN hF hC 6 12 (bm 20 639) (by kernel_rfl) (by kernel_rfl) rfl (fun _ _ _ hS => YO.loadBox hS 1 rfl 54 0 2 (ag [ia ((a0.getD a1.toNat zS54).f0), ib ((a0.getD a1.toNat zS54).f1)]) 53 (by kernel_rfl) (by kernel_rfl) (by kernel_rfl) (by kernel_rfl)) ?_
      refine ED.Y hN hF hC 10 11 (bm 20 1663) (by kernel_rfl) (by kernel_rfl) rfl (fun _ _ _ hS => YO.bstr hS a5 a6 a3 (Rd.own 0 5 rfl) 33 9 5 57 (by kernel_rfl) (by kernel_rfl) (by kernel_rfl) (by kernel_rfl) (by kernel_rfl) (by kernel_rfl)) ?_
      have hq := instr_Put.calls j4 hS
      refine ED.one 7 10 (bm 20 1791) (by kernel_rfl) (by kernel_rfl) (by kernel_rfl) (EO.callD 31 [ag [ia ((a0.getD a1.toNat zS54).f0), ib ((a0.getD a1.toNat zS54).f1)]] _ 54 (by kernel_rfl) (by kernel_rfl) (by kernel_rfl) hq ?_)
      rintro v w ⟨e5, e7, rfl, hS⟩
      have hC := hC.again ⟨_, _, hS.re [5, 5, 5, 5, 5] [] rfl sub_self⟩
      refine ⟨hC, ?_⟩
      refine ED.one 8 9 (bm 20 2047) (by kernel_rfl) (by kernel_rfl) (by kernel_rfl) (EO.Y (YO.bstr hS e5 e7 b7 (Rd.own 0 5 rfl) 33 9 5 55 (by kernel_rfl) (by kernel_rfl) (by kernel_rfl) (by kernel_rfl) (by kernel_rfl) (by kernel_rfl)) ?_)
      have hC := hC.again ⟨_, _, hS.re [5, 5, 5, 5, 5] [] rfl sub_self⟩
      refine ⟨hC, ?_⟩
      refine ED.quick hN hF hC [11, 12, 13] [4, 13, 14, 39, 40, 41, 53, 54, 55, 56, 57, 58, 60] 6 [(4, sv A15 C16 l14), (13, pt a4 0), (14, sv a5 a6 a3), (39, sv (some ⟨a2, 0, none⟩) 4 a0), (40, ia (a0.length : Int)), (41, ia a1), (53, ag [ia ((a0.getD a1.toNat zS54).f0), ib ((a0.getD a1.toNat zS54).f1)]), (54, sv e5 e7 b7), (55, .string (bStr b7)), (56, sv a5 a6 a3), (57, .string (bStr a3)), (58, .bool (!(((bStr b7).toList == (bStr a3).toList)))), (60, .bool (!(((bStr b7).toList == (bStr a3).toList))))] (bm 20 16383) (by kernel_rfl) (by kernel_rfl) ?_
      refine ED.keep [4, 13, 14, 39, 40, 41, 53, 54, 55, 56, 57, 58, 60] [(4, sv A15 C16 l14), (13, pt a4 0), (14, sv a5 a6 a3), (39, sv (some ⟨a2, 0, none⟩) 4 a0), (40, ia (a0.length : Int)), (41, ia a1), (53, ag [ia ((a0.getD a1.toNat zS54).f0), ib ((a0.getD a1.toNat zS54).f1)]), (54, sv e5 e7 b7), (55, .string (bStr b7)), (56, sv a5 a6 a3), (57, .string (bStr a3)), (58, .bool (!(((bStr b7).toList == (bStr a3).toList)))), (60, .bool (!(((bStr b7).toList == (bStr a3).toList))))] (by kernel_rfl) ?_
      refine ED.as' [(4, sv A15 C16 l14), (13, pt a4 0), (14, sv a5 a6 a3), (39, sv (some ⟨a2, 0, none⟩) 4 a0), (40, ia (a0.length : Int)), (41, ia a1), (53, ag [ia ((a0.getD a1.toNat zS54).f0), ib ((a0.getD a1.toNat zS54).f1)]), (54, sv e5 e7 b7), (55, .string (bStr b7)), (56, sv a5 a6 a3), (57, .string (bStr a3)), (58, .bool (true)), (60, .bool (true))] (by simp only [encS54, sv, (Bool.eq_false_iff.2 f9), Bool.not_true, Bool.not_false]) ?_
      refine ED.quick hN hF hC [14, 15, 16, 17, 18, 19] [4, 13, 14, 39, 40, 41, 53, 54, 55, 56, 57, 58, 61, 62, 63, 64, 65, 66] 0 [(4, sv A15 C16 l14), (13, pt a4 0), (14, sv a5 a6 a3), (39, sv (some ⟨a2, 0, none⟩) 4 a0), (40, ia (a0.length : Int)), (41, ia a1), (53, ag [ia ((a0.getD a1.toNat zS54).f0), ib ((a0.getD a1.toNat zS54).f1)]), (54, sv e5 e7 b7), (55, .string (bStr b7)), (56, sv a5 a6 a3), (57, .string (bStr a3)), (58, .bool (true)), (61, undef), (62, undef), (63, undef), (64, undef), (65, undef), (66, .bool (true))] (bm 20 1048575) (by kernel_rfl) (by kernel_rfl) ?_
      refine ED.done (by kernel_rfl) ?_
      refine EQ.to ?_
      refine EQ.keep [4, 13, 14, 39, 40, 41, 66] [(4, sv A15 C16 l14), (13, pt a4 0), (14, sv a5 a6 a3), (39, sv (some ⟨a2, 0, none⟩) 4 a0), (40, ia (a0.length : Int)), (41, ia a1), (66, .bool (true))] (by kernel_rfl) ?_
      exact fun a ha => ⟨true, ha, (hS.re [5, 5, 5, 5, 5] [5] rfl (sub_cons 0 rfl (sub_tail (sub_self)))), H⟩
     rw [if_neg e9] at H
     have hS := hS.drew
     refine EW.dr (B := B) [Ass.own 5 (Kd.int .u8) a5 a6 a3, Ass.box 54 a4 [ia ((a0.getD a1.toNat zS54).f0), ib ((a0.getD a1.toNat zS54).f1)], Ass.own 54 kS54 (some ⟨a2, 0, none⟩) 4 a0, Ass.box 54 c2 [ia a7, ib b6], Ass.box 54 c0 [ia a9, ib a10]] [Ro.sl (Kd.int .u8) A15 C16 l14] (by kernel_rfl) (by kernel_rfl) ?_
     have hN : Region.noSelect Cd9.r.r.r.r.l.r.l.l.r.r.l.l.r.r.l.l.ops = true := (by kernel_rfl)
     have hF : freeAll Cd9.r.r.r.r.l.r.l.l.r.r.l.l.r.r.l.l.ops = true := (by kernel_rfl)
     have hC : Core B [Ass.own 5 (Kd.int .u8) a5 a6 a3, Ass.box 54 a4 [ia ((a0.getD a1.toNat zS54).f0), ib ((a0.getD a1.toNat zS54).f1)], Ass.own 54 kS54 (some ⟨a2, 0, none⟩) 4 a0, Ass.box 54 c2 [ia a7, ib b6], Ass.box 54 c0 [ia a9, ib a10]] [Ro.sl (Kd.int .u8) A15 C16 l14] _ := ⟨_, _, hS⟩
     refine ED.Y hN hF hC 0 19 (bm 20 1) (by kernel_rfl) (by kernel_rfl) rfl (fun _ _ _ hS => YO.loadBox hS 1 rfl 54 0 2 (ag [ia ((a0.getD a1.toNat zS54).f0), ib ((a0.getD a1.toNat zS54).f1)]) 47 (by kernel_rfl) (by kernel_rfl) (by kernel_rfl) (by kernel_rfl)) ?_
     refine ED.Y hN hF hC 2 18 (bm 20 5) (by kernel_rfl) (by kernel_rfl) rfl (fun _ _ _ hS => YO.loadBox hS 1 rfl 54 0 2 (ag [ia ((a0.getD a1.toNat zS54).f0), ib ((a0.getD a1.toNat zS54).f1)]) 49 (by kernel_rfl) (by kernel_rfl) (by kernel_rfl) (by kernel_rfl)) ?_
     have hq := instr_Right.calls i4 hS
     refine ED.one 1 17 (bm 20 7) (by kernel_rfl) (by kernel_rfl) (by kernel_rfl) (EO.callD 30 [ag [ia ((a0.getD a1.toNat zS54).f0), ib ((a0.getD a1.toNat zS54).f1)]] _ 48 (by kernel_rfl) (by kernel_rfl) (by kernel_rfl) hq ?_)
     rintro v w ⟨rfl, hS⟩
     have hC := hC.again ⟨_, _, hS⟩
     refine ⟨hC, ?_⟩
     have hq := confidantref5_Right.calls i5 hS
     refine ED.one 3 16 (bm 20 15) (by kernel_rfl) (by kernel_rfl) (by kernel_rfl) (EO.callD 38 [ag [ia ((a0.getD a1.toNat zS54).f0), ib ((a0.getD a1.toNat zS54).f1)]] _ 50 (by kernel_rfl) (by kernel_rfl) (by kernel_rfl) hq ?_)
     rintro v w ⟨rfl, hS⟩
     have hC := hC.again ⟨_, _, hS⟩
     refine ⟨hC, ?_⟩
     refine ED.quick hN hF hC [4, 5] [4, 13, 14, 39, 40, 41, 52] 14 [(4, sv A15 C16 l14), (13, pt a4 0), (14, sv a5 a6 a3), (39, sv (some ⟨a2, 0, none⟩) 4 a0), (40, ia (a0.length : Int)), (41, ia a1), (52, .bool (!((d1 == d2))))] (bm 20 63) (by kernel_rfl) (by kernel_rfl) ?_
     refine ED.keep [4, 13, 14, 39, 40, 41, 52] [(4, sv A15 C16 l14), (13, pt a4 0), (14, sv a5 a6 a3), (39, sv (some ⟨a2, 0, none⟩) 4 a0), (40, ia (a0.length : Int)), (41, ia a1), (52, .bool (!((d1 == d2))))] (by kernel_rfl) ?_
     refine ED.as' [(4, sv A15 C16 l14), (13, pt a4 0), (14, sv a5 a6 a3), (39, sv (some ⟨a2, 0, none⟩) 4 a0), (40, ia (a0.length : Int)), (41, ia a1), (52, .bool (true))] (by simp only [encS54, sv, (Bool.eq_false_iff.2 e9), Bool.not_true, Bool.not_false]) ?_
     refine ED.quick hN hF hC [6, 7, 8, 9, 10, 11, 12, 13, 14, 15, 16, 17, 18, 19] [4, 13, 14, 39, 40, 41, 53, 54, 55, 56, 57, 58, 61, 62, 63, 64, 65, 66] 0 [(4, sv A15 C16 l14), (13, pt a4 0), (14, sv a5 a6 a3), (39, sv (some ⟨a2, 0, none⟩) 4 a0), (40, ia (a0.length : Int)), (41, ia a1), (53, undef), (54, undef), (55, undef), (56, undef), (57, undef), (58, undef), (61, undef), (62, undef), (63, undef), (64, undef), (65, undef), (66, .bool (true))] (bm 20 1048575) (by kernel_rfl) (by kernel_rfl) ?_
     refine ED.done (by kernel_rfl) ?_
     refine EQ.to ?_
     refine EQ.keep [4, 13, 14, 39, 40, 41, 66] [(4, sv A15 C16 l14), (13, pt a4 0), (14, sv a5 a6 a3), (39, sv (some ⟨a2, 0, none⟩) 4 a0), (40, ia (a0.length : Int)), (41, ia a1), (66, .bool (true))] (by kernel_rfl) ?_
     exact fun a ha => ⟨true, ha, (hS.re [4, 4, 4, 4, 4] [] rfl (sub_cons 0 rfl (sub_tail (sub_self)))), H⟩
    obtain ⟨e2, ha, hS, H⟩ := hI
    rw [n1] at H
    (try dsimp only at H)
    refine EW.at ?_ a ha
    clear ha a
    refine EW.cdP' (e2) (by kernel_rfl) (by kernel_rfl) (fun i1 => ?_) (fun i1 => ?_)
    ·rw [if_pos i1] at H
     refine EW.sq (by kernel_rfl) ?_
     refine EW.rg (by kernel_rfl) ?_
     refine EL.quick 1 [10] [(10, .bool (false))] (by kernel_rfl) ?_
     refine EL.done (by kernel_rfl) ?_
     refine EQ.code ?_
     refine EW.ret (by kernel_rfl) ?_
     refine EQ.ret ?_
     refine EQ.ret ?_
     refine EQ.ret ?_
     refine EQ.ret ?_
     refine EQ.ret ?_
     refine EQ.ret ?_
     obtain rfl := Option.some.inj H
     exact EQ.leave (.bool (false)) (by kernel_rfl) ⟨_, rfl, rfl, (hS.re [] [0, 0, 0, 0, 0] rfl (sub_self))⟩
    rw [if_neg i1] at H
    refine EW.skip (by kernel_rfl) ?_
    refine EQ.code ?_
    refine EW.sq (by kernel_rfl) ?_
    refine EW.sq (by kernel_rfl) ?_
    refine EW.rg (by kernel_rfl) ?_
    refine EL.quick 3 [4, 13, 14, 39, 40, 41, 69] [(4, sv A15 C16 l14), (13, pt a4 0), (14, sv a5 a6 a3), (39, sv (some ⟨a2, 0, none⟩) 4 a0), (40, ia (a0.length : Int)), (41, ia a1), (69, .bool (decide ((a3.length : Int) = 0)))] (by kernel_rfl) ?_
    refine EL.done (by kernel_rfl) ?_
    refine EQ.code ?_
    refine EW.cdP ((a3.length : Int) = 0) (by kernel_rfl) (by kernel_rfl) (fun i2 => ?_) (fun i2 => ?_)
    ·rw [if_pos i2] at H
     refine EW.exit (id := 1) (by kernel_rfl) ?_
     refine EQ.exitCode ?_
     refine EQ.exitHere ?_
     refine EQ.to ?_
     refine EQ.keep [4, 39, 40, 41] [(4, sv A15 C16 l14), (39, sv (some ⟨a2, 0, none⟩) 4 a0), (40, ia (a0.length : Int)), (41, ia a1)] (by kernel_rfl) ?_
     exact fun a ha => ⟨a3, a4, a5, a6, ha, (hS.re [4, 4, 4, 4, 4] [] rfl (sub_cons 0 rfl (sub_tail (sub_self)))), H⟩
    rw [if_neg i2] at H
    refine EW.skip (by kernel_rfl) ?_
    refine EQ.code ?_
    refine EW.sq (by kernel_rfl) ?_
    refine EW.rg (by kernel_rfl) ?_
    refine EL.quick 1 [4, 13, 39, 40, 41, 70] [(4, sv A15 C16 l14), (13, pt a4 0), (39, sv (some ⟨a2, 0, none⟩) 4 a0), (40, ia (a0.length : Int)), (41, ia a1), (70, sv a5 a6 a3)] (by kernel_rfl) ?_
    have hS := St.nilO hS 5 (Kd.int .u8)
    obtain ⟨j8, H⟩ := ite_in H
    obtain ⟨d6, n3, H⟩ := lt_out H
    refine EL.of (EO.append hS 33 33 5 1 0 (Kd.int .u8) none 0 ([] : List Int) rfl a5 a6 a3 (Rd.own 1 5 rfl) d6 n3 (fun f5 f7 => Ass.own 5 (Kd.int .u8) f5 f7 d6 :: Ass.own 5 (Kd.int .u8) a5 a6 a3 :: Ass.box 54 a4 [ia ((a0.getD a1.toNat zS54).f0), ib ((a0.getD a1.toNat zS54).f1)] :: Ass.own 54 kS54 (some ⟨a2, 0, none⟩) 4 a0 :: Ass.box 54 c2 [ia a7, ib b6] :: Ass.box 54 c0 [ia a9, ib a10] :: os) 71 (by kernel_rfl) (by kernel_rfl) (by kernel_rfl) (by kernel_rfl) j8 (fun _ _ => rfl) ?_)
    intro f5 f7 w hS
    refine EL.quick 1 [4, 13, 39, 40, 41, 71, 72] [(4, sv A15 C16 l14), (13, pt a4 0), (39, sv (some ⟨a2, 0, none⟩) 4 a0), (40, ia (a0.length : Int)), (41, ia a1), (71, sv f5 f7 d6), (72, sv A15 C16 l14)] (by kernel_rfl) ?_
    obtain ⟨j9, H⟩ := ite_in H
    obtain ⟨d0, n4, H⟩ := lt_out H
    refine EL.of (EO.append hS 33 33 5 1 0 (Kd.int .u8) f5 f7 d6 rfl A15 C16 l14 (Rd.ro 0 rfl) d0 n4 (fun d3 d4 => Ass.own 5 (Kd.int .u8) d3 d4 d0 :: Ass.own 5 (Kd.int .u8) a5 a6 a3 :: Ass.box 54 a4 [ia ((a0.getD a1.toNat zS54).f0), ib ((a0.getD a1.toNat zS54).f1)] :: Ass.own 54 kS54 (some ⟨a2, 0, none⟩) 4 a0 :: Ass.box 54 c2 [ia a7, ib b6] :: Ass.box 54 c0 [ia a9, ib a10] :: os) 73 (by kernel_rfl) (by kernel_rfl) (by kernel_rfl) (by kernel_rfl) j9 (fun _ _ => rfl) ?_)
    intro d3 d4 w hS
    have hS := St.fr hS 0 rfl
    have hS : St B _ (Ass.own 5 (Kd.int .u8) a5 a6 a3 :: Ass.box 54 a4 [ia ((a0.getD a1.toNat zS54).f0), ib ((a0.getD a1.toNat zS54).f1)] :: Ass.own 54 kS54 (some ⟨a2, 0, none⟩) 4 a0 :: Ass.box 54 c2 [ia a7, ib b6] :: Ass.box 54 c0 [ia a9, ib a10] :: os) (Ro.sl (Kd.int .u8) d3 d4 d0 :: Ro.sl (Kd.int .u8) A15 C16 l14 :: rs) := hS.re [] [] rfl (sub_cons 0 rfl (sub_tail (sub_self)))
    obtain ⟨e0, i6, m5, H⟩ := b2_out H
    have hq := pack_New.calls m5 hS
    refine EL.of (EO.callD 35 [sv d3 d4 d0] _ 74 (by kernel_rfl) (by kernel_rfl) (by kernel_rfl) hq ?_)
    rintro v w ⟨b4, f6, f8, rfl, hS⟩
    refine EL.quick 1 [4, 13, 15, 39, 40, 41] [(4, sv A15 C16 l14), (13, pt a4 0), (15, pt b4 0), (39, sv (some ⟨a2, 0, none⟩) 4 a0), (40, ia (a0.length : Int)), (41, ia a1)] (by kernel_rfl) ?_
    refine EL.done (by kernel_rfl) ?_
    refine EQ.code ?_
    refine EW.sq (by kernel_rfl) ?_
    refine EW.rg (by kernel_rfl) ?_
    refine EL.quick 1 [4, 13, 15, 39, 40, 41, 76] [(4, sv A15 C16 l14), (13, pt a4 0), (15, pt b4 0), (39, sv (some ⟨a2, 0, none⟩) 4 a0), (40, ia (a0.length : Int)), (41, ia a1), (76, pt b4 0)] (by kernel_rfl) ?_
    have hS : St B _ (Ass.box 112 b4 [sv f6 f8 e0, ia i6] :: Ass.own 5 (Kd.int .u8) a5 a6 a3 :: Ass.box 54 a4 [ia ((a0.getD a1.toNat zS54).f0), ib ((a0.getD a1.toNat zS54).f1)] :: Ass.own 54 kS54 (some ⟨a2, 0, none⟩) 4 a0 :: Ass.box 54 c2 [ia a7, ib b6] :: Ass.box 54 c0 [ia a9, ib a10] :: os) (Ro.sl (Kd.int .u8) f6 f8 e0 :: Ro.sl (Kd.int .u8) d3 d4 d0 :: Ro.sl (Kd.int .u8) A15 C16 l14 :: rs) := hS.re [0] [] rfl (sub_cons 0 rfl (sub_tail (sub_self)))
    obtain ⟨c4, c5, a8, b0, c7, m6, H⟩ := b5_out H
    have hq := instr_Take.calls m6 hS
    refine EL.of (EO.callD 34 [pt b4 0] _ 77 (by kernel_rfl) (by kernel_rfl) (by kernel_rfl) hq ?_)
    rintro v w ⟨c8, c9, rfl, hS⟩
    refine EL.quick 3 [4, 13, 15, 39, 40, 41, 78, 79] [(4, sv A15 C16 l14), (13, pt a4 0), (15, pt b4 0), (39, sv (some ⟨a2, 0, none⟩) 4 a0), (40, ia (a0.length : Int)), (41, ia a1), (78, ag [ia a8, ib b0]), (79, .bool (c7))] (by kernel_rfl) ?_
    refine EL.of (EO.alloc hS 54 (ag [ia 0, ib 0]) [ia 0, ib 0] 16 (by kernel_rfl) (by kernel_rfl) (by kernel_rfl) (by kernel_rfl) (by first | rfl | kernel_rfl) ?_)
    intro c6 w hS
    refine EL.of (EO.storeBox (os' := Ass.box 54 c6 [ia a8, ib b0] :: Ass.box 112 b4 [sv c8 c9 c4, ia c5] :: Ass.own 5 (Kd.int .u8) a5 a6 a3 :: Ass.box 54 a4 [ia ((a0.getD a1.toNat zS54).f0), ib ((a0.getD a1.toNat zS54).f1)] :: Ass.own 54 kS54 (some ⟨a2, 0, none⟩) 4 a0 :: Ass.box 54 c2 [ia a7, ib b6] :: Ass.box 54 c0 [ia a9, ib a10] :: os) hS 0 rfl 54 0 (ag [ia a8, ib b0]) [ia a8, ib b0] (by kernel_rfl) (by kernel_rfl) (by kernel_rfl) (by kernel_rfl) (by kernel_rfl) (by kernel_rfl) rfl rfl ?_)
    intro w hS
    refine EL.quick 1 [4, 13, 15, 16, 17, 39, 40, 41] [(4, sv A15 C16 l14), (13, pt a4 0), (15, pt b4 0), (16, pt c6 0), (17, .bool (c7)), (39, sv (some ⟨a2, 0, none⟩) 4 a0), (40, ia (a0.length : Int)), (41, ia a1)] (by kernel_rfl) ?_
    refine EL.done (by kernel_rfl) ?_
    refine EQ.code ?_
    refine EW.sq (by kernel_rfl) ?_
    refine EW.rg (by kernel_rfl) ?_
    refine EL.of (EO.Y (YO.loadBox hS 3 rfl 54 0 2 (ag [ia ((a0.getD a1.toNat zS54).f0), ib ((a0.getD a1.toNat zS54).f1)]) 81 (by kernel_rfl) (by kernel_rfl) (by kernel_rfl) (by kernel_rfl)) ?_)
    obtain ⟨i7, m7, H⟩ := b1_out H
    have hq := instr_Text.calls m7 hS gB
    refine EL.of (EO.callD 32 [ag [ia ((a0.getD a1.toNat zS54).f0), ib ((a0.getD a1.toNat zS54).f1)]] _ 82 (by kernel_rfl) (by kernel_rfl) (by kernel_rfl) hq ?_)
    rintro v w ⟨rfl, hS⟩
    obtain ⟨b8, b9, c1, m8, H⟩ := b3_out H
    have hq := instr_Parse.calls m8 hS gB
    refine EL.of (EO.callD 33 [.string i7] _ 83 (by kernel_rfl) (by kernel_rfl) (by kernel_rfl) hq ?_)
    rintro v w ⟨rfl, hS⟩
    refine EL.quick 3 [4, 13, 15, 16, 17, 39, 40, 41, 84, 85] [(4, sv A15 C16 l14), (13, pt a4 0), (15, pt b4 0), (16, pt c6 0), (17, .bool (c7)), (39, sv (some ⟨a2, 0, none⟩) 4 a0), (40, ia (a0.length : Int)), (41, ia a1), (84, ag [ia b8, ib b9]), (85, .bool (c1))] (by kernel_rfl) ?_
    refine EL.of (EO.alloc hS 54 (ag [ia 0, ib 0]) [ia 0, ib 0] 18 (by kernel_rfl) (by kernel_rfl) (by kernel_rfl) (by kernel_rfl) (by first | rfl | kernel_rfl) ?_)
    intro c3 w hS
    refine EL.of (EO.storeBox (os' := Ass.box 54 c3 [ia b8, ib b9] :: Ass.box 54 c6 [ia a8, ib b0] :: Ass.box 112 b4 [sv c8 c9 c4, ia c5] :: Ass.own 5 (Kd.int .u8) a5 a6 a3 :: Ass.box 54 a4 [ia ((a0.getD a1.toNat zS54).f0), ib ((a0.getD a1.toNat zS54).f1)] :: Ass.own 54 kS54 (some ⟨a2, 0, none⟩) 4 a0 :: Ass.box 54 c2 [ia a7, ib b6] :: Ass.box 54 c0 [ia a9, ib a10] :: os) hS 0 rfl 54 0 (ag [ia b8, ib b9]) [ia b8, ib b9] (by kernel_rfl) (by kernel_rfl) (by kernel_rfl) (by kernel_rfl) (by kernel_rfl) (by kernel_rfl) rfl rfl ?_)
    intro w hS
    refine EL.quick 1 [4, 13, 15, 16, 17, 18, 19, 39, 40, 41] [(4, sv A15 C16 l14), (13, pt a4 0), (15, pt b4 0), (16, pt c6 0), (17, .bool (c7)), (18, pt c3 0), (19, .bool (c1)), (39, sv (some ⟨a2, 0, none⟩) 4 a0), (40, ia (a0.length : Int)), (41, ia a1)] (by kernel_rfl) ?_
    refine EL.done (by kernel_rfl) ?_
    refine EQ.code ?_
    obtain ⟨d5, n2, H⟩ := lt_out H
    refine EW.ct (fun a w => ∃ f4 : List Int, ∃ g6 : Int, ∃ e3 : Bool, ∃ g7 : Option Addr, ∃ g8 : Nat, Sat 110 [(4, sv A15 C16 l14), (39, sv (some ⟨a2, 0, none⟩) 4 a0), (40, ia (a0.length : Int)), (41, ia a1), (108, .bool (e3))] a ∧ St B w (Ass.box 112 b4 [sv g7 g8 f4, ia g6] :: Ass.box 54 c3 [ia b8, ib b9] :: Ass.box 54 c6 [ia a8, ib b0] :: Ass.own 5 (Kd.int .u8) a5 a6 a3 :: Ass.box 54 a4 [ia ((a0.getD a1.toNat zS54).f0), ib ((a0.getD a1.toNat zS54).f1)] :: Ass.own 54 kS54 (some ⟨a2, 0, none⟩) 4 a0 :: Ass.box 54 c2 [ia a7, ib b6] :: Ass.box 54 c0 [ia a9, ib a10] :: os) (Ro.sl (Kd.int .u8) g7 g8 f4 :: Ro.sl (Kd.int .u8) c8 c9 c4 :: Ro.sl (Kd.int .u8) f6 f8 e0 :: Ro.sl (Kd.int .u8) d3 d4 d0 :: Ro.sl (Kd.int .u8) A15 C16 l14 :: rs) ∧ d5 f4 g6 e3 = some e1) (by kernel_rfl) ?_ (fun a w hI => ?_)
    ·refine EW.rg (by kernel_rfl) ?_
     refine EL.quick 3 [4, 13, 15, 16, 18, 19, 39, 40, 41, 88] [(4, sv A15 C16 l14), (13, pt a4 0), (15, pt b4 0), (16, pt c6 0), (18, pt c3 0), (19, .bool (c1)), (39, sv (some ⟨a2, 0, none⟩) 4 a0), (40, ia (a0.length : Int)), (41, ia a1), (88, .bool (!(c7)))] (by kernel_rfl) ?_
     by_cases g0 : c7 = true
     ·rw [if_pos g0] at H
      refine EL.keep [4, 13, 15, 16, 18, 19, 39, 40, 41, 88] [(4, sv A15 C16 l14), (13, pt a4 0), (15, pt b4 0), (16, pt c6 0), (18, pt c3 0), (19, .bool (c1)), (39, sv (some ⟨a2, 0, none⟩) 4 a0), (40, ia (a0.length : Int)), (41, ia a1), (88, .bool (!(c7)))] (by kernel_rfl) ?_
      refine EL.as' [(4, sv A15 C16 l14), (13, pt a4 0), (15, pt b4 0), (16, pt c6 0), (18, pt c3 0), (19, .bool (c1)), (39, sv (some ⟨a2, 0, none⟩) 4 a0), (40, ia (a0.length : Int)), (41, ia a1), (88, .bool (false))] (by simp only [encS54, sv, g0, Bool.not_true, Bool.not_false]) ?_
      refine EL.of (EO.Y (YO.loadBox hS 1 rfl 54 0 2 (ag [ia a8, ib b0]) 89 (by kernel_rfl) (by kernel_rfl) (by kernel_rfl) (by kernel_rfl)) ?_)
      refine EL.of (EO.Y (YO.loadBox hS 4 rfl 54 0 2 (ag [ia ((a0.getD a1.toNat zS54).f0), ib ((a0.getD a1.toNat zS54).f1)]) 90 (by kernel_rfl) (by kernel_rfl) (by kernel_rfl) (by kernel_rfl)) ?_)
      refine EL.of (EO.Y (YO.eqAg .neq 54 (.tmp 89) (.tmp 90) #[ia a8, ib b0] #[ia ((a0.getD a1.toNat zS54).f0), ib ((a0.getD a1.toNat zS54).f1)] ((a8 == ((a0.getD a1.toNat zS54).f0)) && ((b0 == ((a0.getD a1.toNat zS54).f1)) && true)) (!(((a8 == ((a0.getD a1.toNat zS54).f0)) && ((b0 == ((a0.getD a1.toNat zS54).f1)) && true)))) 91 (by kernel_rfl) (by kernel_rfl) (by kernel_rfl) (by kernel_rfl) (by kernel_rfl) (.inr ⟨rfl, rfl⟩)) ?_)
      refine EL.quick 2 [4, 13, 15, 18, 19, 39, 40, 41, 89, 90, 91, 93] [(4, sv A15 C16 l14), (13, pt a4 0), (15, pt b4 0), (18, pt c3 0), (19, .bool (c1)), (39, sv (some ⟨a2, 0, none⟩) 4 a0), (40, ia (a0.length : Int)), (41, ia a1), (89, ag [ia a8, ib b0]), (90, ag [ia ((a0.getD a1.toNat zS54).f0), ib ((a0.getD a1.toNat zS54).f1)]), (91, .bool (!(((a8 == ((a0.getD a1.toNat zS54).f0)) && ((b0 == ((a0.getD a1.toNat zS54).f1)) && true))))), (93, .bool (!(((a8 == ((a0.getD a1.toNat zS54).f0)) && ((b0 == ((a0.getD a1.toNat zS54).f1)) && true)))))] (by kernel_rfl) ?_
      by_cases g1 : ((a8 == ((a0.getD a1.toNat zS54).f0)) && ((b0 == ((a0.getD a1.toNat zS54).f1)) && true)) = true
      ·rw [if_pos g1] at H
       refine EL.keep [4, 13, 15, 18, 19, 39, 40, 41, 89, 90, 91, 93] [(4, sv A15 C16 l14), (13, pt a4 0), (15, pt b4 0), (18, pt c3 0), (19, .bool (c1)), (39, sv (some ⟨a2, 0, none⟩) 4 a0), (40, ia (a0.length : Int)), (41, ia a1), (89, ag [ia a8, ib b0]), (90, ag [ia ((a0.getD a1.toNat zS54).f0), ib ((a0.getD a1.toNat zS54).f1)]), (91, .bool (!(((a8 == ((a0.getD a1.toNat zS54).f0)) && ((b0 == ((a0.getD a1.toNat zS54).f1)) && true))))), (93, .bool (!(((a8 == ((a0.getD a1.toNat zS54).f0)) && ((b0 == ((a0.getD a1.toNat zS54).f1)) && true)))))] (by kernel_rfl) ?_
       refine EL.as' [(4, sv A15 C16 l14), (13, pt a4 0), (15, pt b4 0), (18, pt c3 0), (19, .bool (c1)), (39, sv (some ⟨a2, 0, none⟩) 4 a0), (40, ia (a0.length : Int)), (41, ia a1), (89, ag [ia a8, ib b0]), (90, ag [ia ((a0.getD a1.toNat zS54).f0), ib ((a0.getD a1.toNat zS54).f1)]), (91, .bool (false)), (93, .bool (false))] (by simp only [encS54, sv, g1, Bool.not_true, Bool.not_false]) ?_
       refine EL.quick 4 [4, 13, 15, 18, 39, 40, 41, 89, 90, 91, 94, 95, 97] [(4, sv A15 C16 l14), (13, pt a4 0), (15, pt b4 0), (18, pt c3 0), (39, sv (some ⟨a2, 0, none⟩) 4 a0), (40, ia (a0.length : Int)), (41, ia a1), (89, ag [ia a8, ib b0]), (90, ag [ia ((a0.getD a1.toNat zS54).f0), ib ((a0.getD a1.toNat zS54).f1)]), (91, .bool (false)), (94, .bool (c1)), (95, .bool (!(c1))), (97, .bool (!(c1)))] (by kernel_rfl) ?_
       by_cases g2 : c1 = true
       ·rw [if_pos g2] at H
        refine EL.keep [4, 13, 15, 18, 39, 40, 41, 89, 90, 91, 94, 95, 97] [(4, sv A15 C16 l14), (13, pt a4 0), (15, pt b4 0), (18, pt c3 0), (39, sv (some ⟨a2, 0, none⟩) 4 a0), (40, ia (a0.length : Int)), (41, ia a1), (89, ag [ia a8, ib b0]), (90, ag [ia ((a0.getD a1.toNat zS54).f0), ib ((a0.getD a1.toNat zS54).f1)]), (91, .bool (false)), (94, .bool (c1)), (95, .bool (!(c1))), (97, .bool (!(c1)))] (by kernel_rfl) ?_
        refine EL.as' [(4, sv A15 C16 l14), (13, pt a4 0), (15, pt b4 0), (18, pt c3 0), (39, sv (some ⟨a2, 0, none⟩) 4 a0), (40, ia (a0.length : Int)), (41, ia a1), (89, ag [ia a8, ib b0]), (90, ag [ia ((a0.getD a1.toNat zS54).f0), ib ((a0.getD a1.toNat zS54).f1)]), (91, .bool (false)), (94, .bool (true)), (95, .bool (false)), (97, .bool (false))] (by simp only [encS54, sv, g2, Bool.not_true, Bool.not_false]) ?_
        refine EL.of (EO.Y (YO.loadBox hS 0 rfl 54 0 2 (ag [ia b8, ib b9]) 98 (by kernel_rfl) (by kernel_rfl) (by kernel_rfl) (by kernel_rfl)) ?_)
        refine EL.of (EO.Y (YO.loadBox hS 4 rfl 54 0 2 (ag [ia ((a0.getD a1.toNat zS54).f0), ib ((a0.getD a1.toNat zS54).f1)]) 99 (by kernel_rfl) (by kernel_rfl) (by kernel_rfl) (by kernel_rfl)) ?_)
        refine EL.of (EO.Y (YO.eqAg .neq 54 (.tmp 98) (.tmp 99) #[ia b8, ib b9] #[ia ((a0.getD a1.toNat zS54).f0), ib ((a0.getD a1.toNat zS54).f1)] ((b8 == ((a0.getD a1.toNat zS54).f0)) && ((b9 == ((a0.getD a1.toNat zS54).f1)) && true)) (!(((b8 == ((a0.getD a1.toNat zS54).f0)) && ((b9 == ((a0.getD a1.toNat zS54).f1)) && true)))) 100 (by kernel_rfl) (by kernel_rfl) (by kernel_rfl) (by kernel_rfl) (by kernel_rfl) (.inr ⟨rfl, rfl⟩)) ?_)
        refine EL.quick 2 [4, 15, 39, 40, 41, 89, 90, 91, 94, 95, 98, 99, 100, 102] [(4, sv A15 C16 l14), (15, pt b4 0), (39, sv (some ⟨a2, 0, none⟩) 4 a0), (40, ia (a0.length : Int)), (41, ia a1), (89, ag [ia a8, ib b0]), (90, ag [ia ((a0.getD a1.toNat zS54).f0), ib ((a0.getD a1.toNat zS54).f1)]), (91, .bool (false)), (94, .bool (true)), (95, .bool (false)), (98, ag [ia b8, ib b9]), (99, ag [ia ((a0.getD a1.toNat zS54).f0), ib ((a0.getD a1.toNat zS54).f1)]), (100, .bool (!(((b8 == ((a0.getD a1.toNat zS54).f0)) && ((b9 == ((a0.getD a1.toNat zS54).f1)) && true))))), (102, .bool (!(((b8 == ((a0.getD a1.toNat zS54).f0)) && ((b9 == ((a0.getD a1.toNat zS54).f1)) && true)))))] (by kernel_rfl) ?_
        by_cases g3 : ((b8 == ((a0.getD a1.toNat zS54).f0)) && ((b9 == ((a0.getD a1.toNat zS54).f1)) && true)) = true
        ·rw [if_pos g3] at H
         refine EL.keep [4, 15, 39, 40, 41, 89, 90, 91, 94, 95, 98, 99, 100, 102] [(4, sv A15 C16 l14), (15, pt b4 0), (39, sv (some ⟨a2, 0, none⟩) 4 a0), (40, ia (a0.length : Int)), (41, ia a1), (89, ag [ia a8, ib b0]), (90, ag [ia ((a0.getD a1.toNat zS54).f0), ib ((a0.getD a1.toNat zS54).f1)]), (91, .bool (false)), (94, .bool (true)), (95, .bool (false)), (98, ag [ia b8, ib b9]), (99, ag [ia ((a0.getD a1.toNat zS54).f0), ib ((a0.getD a1.toNat zS54).f1)]), (100, .bool (!(((b8 == ((a0.getD a1.toNat zS54).f0)) && ((b9 == ((a0.getD a1.toNat zS54).f1)) && true))))), (102, .bool (!(((b8 == ((a0.getD a1.toNat zS54).f0)) && ((b9 == ((a0.getD a1.toNat zS54).f1)) && true)))))] (by kernel_rfl) ?_
         refine EL.as' [(4, sv A15 C16 l14), (15, pt b4 0), (39, sv (some ⟨a2, 0, none⟩) 4 a0), (40, ia (a0.length : Int)), (41, ia a1), (89, ag [ia a8, ib b0]), (90, ag [ia ((a0.getD a1.toNat zS54).f0), ib ((a0.getD a1.toNat zS54).f1)]), (91, .bool (false)), (94, .bool (true)), (95, .bool (false)), (98, ag [ia b8, ib b9]), (99, ag [ia ((a0.getD a1.toNat zS54).f0), ib ((a0.getD a1.toNat zS54).f1)]), (100, .bool (false)), (102, .bool (false))] (by simp only [encS54, sv, g3, Bool.not_true, Bool.not_false]) ?_
         refine EL.quick 1 [4, 39, 40, 41, 89, 90, 91, 94, 95, 98, 99, 100, 102, 103] [(4, sv A15 C16 l14), (39, sv (some ⟨a2, 0, none⟩) 4 a0), (40, ia (a0.length : Int)), (41, ia a1), (89, ag [ia a8, ib b0]), (90, ag [ia ((a0.getD a1.toNat zS54).f0), ib ((a0.getD a1.toNat zS54).f1)]), (91, .bool (false)), (94, .bool (true)), (95, .bool (false)), (98, ag [ia b8, ib b9]), (99, ag [ia ((a0.getD a1.toNat zS54).f0), ib ((a0.getD a1.toNat zS54).f1)]), (100, .bool (false)), (102, .bool (false)), (103, pt b4 0)] (by kernel_rfl) ?_
         have hS : St B _ (Ass.box 112 b4 [sv c8 c9 c4, ia c5] :: Ass.box 54 c3 [ia b8, ib b9] :: Ass.box 54 c6 [ia a8, ib b0] :: Ass.own 5 (Kd.int .u8) a5 a6 a3 :: Ass.box 54 a4 [ia ((a0.getD a1.toNat zS54).f0), ib ((a0.getD a1.toNat zS54).f1)] :: Ass.own 54 kS54 (some ⟨a2, 0, none⟩) 4 a0 :: Ass.box 54 c2 [ia a7, ib b6] :: Ass.box 54 c0 [ia a9, ib a10] :: os) (Ro.sl (Kd.int .u8) c8 c9 c4 :: Ro.sl (Kd.int .u8) f6 f8 e0 :: Ro.sl (Kd.int .u8) d3 d4 d0 :: Ro.sl (Kd.int .u8) A15 C16 l14 :: rs) := hS.re [2] [] rfl (sub_cons 0 rfl (sub_tail (sub_self)))
         obtain ⟨i8, i9, d9, m9, H⟩ := b3_out H
         have hq := pack_Reader_Left.calls m9 hS
         refine EL.of (EO.callD 40 [pt b4 0] _ 104 (by kernel_rfl) (by kernel_rfl) (by kernel_rfl) hq ?_)
         rintro v w ⟨j6, j7, rfl, hS⟩
         refine EL.quick 4 [4, 39, 40, 41, 89, 90, 91, 94, 95, 98, 99, 100, 103, 104, 105, 106, 107, 108] [(4, sv A15 C16 l14), (39, sv (some ⟨a2, 0, none⟩) 4 a0), (40, ia (a0.length : Int)), (41, ia a1), (89, ag [ia a8, ib b0]), (90, ag [ia ((a0.getD a1.toNat zS54).f0), ib ((a0.getD a1.toNat zS54).f1)]), (91, .bool (false)), (94, .bool (true)), (95, .bool (false)), (98, ag [ia b8, ib b9]), (99, ag [ia ((a0.getD a1.toNat zS54).f0), ib ((a0.getD a1.toNat zS54).f1)]), (100, .bool (false)), (103, pt b4 0), (104, ia d9), (105, sv A15 C16 l14), (106, ia (l14.length : Int)), (107, .bool (!(decide (d9 = (l14.length : Int))))), (108, .bool (!(decide (d9 = (l14.length : Int)))))] (by kernel_rfl) ?_
         refine EL.done (by kernel_rfl) ?_
         refine EQ.to ?_
         refine EQ.keep [4, 39, 40, 41, 108] [(4, sv A15 C16 l14), (39, sv (some ⟨a2, 0, none⟩) 4 a0), (40, ia (a0.length : Int)), (41, ia a1), (108, .bool (!(decide (d9 = (l14.length : Int)))))] (by kernel_rfl) ?_
         exact fun a ha => ⟨i8, i9, !(decide (d9 = (l14.length : Int))), j6, j7, ha, (hS.re [7, 7, 7, 7, 7, 7, 7, 7] [] rfl (sub_cons 0 rfl (sub_cons 1 rfl (sub_cons 2 rfl (sub_cons 3 rfl (sub_cons 4 rfl (sub_tail (sub_tail (sub_tail (sub_tail (sub_tail (sub_self)))))))))))), H⟩
        rw [if_neg g3] at H
        refine EL.keep [4, 15, 39, 40, 41, 89, 90, 91, 94, 95, 98, 99, 100, 102] [(4, sv A15 C16 l14), (15, pt b4 0), (39, sv (some ⟨a2, 0, none⟩) 4 a0), (40, ia (a0.length : Int)), (41, ia a1), (89, ag [ia a8, ib b0]), (90, ag [ia ((a0.getD a1.toNat zS54).f0), ib ((a0.getD a1.toNat zS54).f1)]), (91, .bool (false)), (94, .bool (true)), (95, .bool (false)), (98, ag [ia b8, ib b9]), (99, ag [ia ((a0.getD a1.toNat zS54).f0), ib ((a0.getD a1.toNat zS54).f1)]), (100, .bool (!(((b8 == ((a0.getD a1.toNat zS54).f0)) && ((b9 == ((a0.getD a1.toNat zS54).f1)) && true))))), (102, .bool (!(((b8 == ((a0.getD a1.toNat zS54).f0)) && ((b9 == ((a0.getD a1.toNat zS54).f1)) && true)))))] (by kernel_rfl) ?_
        refine EL.as' [(4, sv A15 C16 l14), (15, pt b4 0), (39, sv (some ⟨a2, 0, none⟩) 4 a0), (40, ia (a0.length : Int)), (41, ia a1), (89, ag [ia a8, ib b0]), (90, ag [ia ((a0.getD a1.toNat zS54).f0), ib ((a0.getD a1.toNat zS54).f1)]), (91, .bool (false)), (94, .bool (true)), (95, .bool (false)), (98, ag [ia b8, ib b9]), (99, ag [ia ((a0.getD a1.toNat zS54).f0), ib ((a0.getD a1.toNat zS54).f1)]), (100, .bool (true)), (102, .bool (true))] (by simp only [encS54, sv, (Bool.eq_false_iff.2 g3), Bool.not_true, Bool.not_false]) ?_
        refine EL.quick 6 [4, 39, 40, 41, 89, 90, 91, 94, 95, 98, 99, 100, 108] [(4, sv A15 C16 l14), (39, sv (some ⟨a2, 0, none⟩) 4 a0), (40, ia (a0.length : Int)), (41, ia a1), (89, ag [ia a8, ib b0]), (90, ag [ia ((a0.getD a1.toNat zS54).f0), ib ((a0.getD a1.toNat zS54).f1)]), (91, .bool (false)), (94, .bool (true)), (95, .bool (false)), (98, ag [ia b8, ib b9]), (99, ag [ia ((a0.getD a1.toNat zS54).f0), ib ((a0.getD a1.toNat zS54).f1)]), (100, .bool (true)), (108, .bool (true))] (by kernel_rfl) ?_
        refine EL.done (by kernel_rfl) ?_
        refine EQ.to ?_
        refine EQ.keep [4, 39, 40, 41, 108] [(4, sv A15 C16 l14), (39, sv (some ⟨a2, 0, none⟩) 4 a0), (40, ia (a0.length : Int)), (41, ia a1), (108, .bool (true))] (by kernel_rfl) ?_
        exact fun a ha => ⟨c4, c5, true, c8, c9, ha, (hS.re [7, 7, 7, 7, 7, 6, 6, 7] [] rfl (sub_cons 0 rfl (sub_cons 0 rfl (sub_cons 1 rfl (sub_cons 2 rfl (sub_cons 3 rfl (sub_tail (sub_tail (sub_tail (sub_tail (sub_self))))))))))), H⟩
       rw [if_neg g2] at H
       refine EL.keep [4, 13, 15, 18, 39, 40, 41, 89, 90, 91, 94, 95, 97] [(4, sv A15 C16 l14), (13, pt a4 0), (15, pt b4 0), (18, pt c3 0), (39, sv (some ⟨a2, 0, none⟩) 4 a0), (40, ia (a0.length : Int)), (41, ia a1), (89, ag [ia a8, ib b0]), (90, ag [ia ((a0.getD a1.toNat zS54).f0), ib ((a0.getD a1.toNat zS54).f1)]), (91, .bool (false)), (94, .bool (c1)), (95, .bool (!(c1))), (97, .bool (!(c1)))] (by kernel_rfl) ?_
       refine EL.as' [(4, sv A15 C16 l14), (13, pt a4 0), (15, pt b4 0), (18, pt c3 0), (39, sv (some ⟨a2, 0, none⟩) 4 a0), (40, ia (a0.length : Int)), (41, ia a1), (89, ag [ia a8, ib b0]), (90, ag [ia ((a0.getD a1.toNat zS54).f0), ib ((a0.getD a1.toNat zS54).f1)]), (91, .bool (false)), (94, .bool (false)), (95, .bool (true)), (97, .bool (true))] (by simp only [encS54, sv, (Bool.eq_false_iff.2 g2), Bool.not_true, Bool.not_false]) ?_
       refine EL.quick 11 [4, 39, 40, 41, 89, 90, 91, 94, 95, 108] [(4, sv A15 C16 l14), (39, sv (some ⟨a2, 0, none⟩) 4 a0), (40, ia (a0.length : Int)), (41, ia a1), (89, ag [ia a8, ib b0]), (90, ag [ia ((a0.getD a1.toNat zS54).f0), ib ((a0.getD a1.toNat zS54).f1)]), (91, .bool (false)), (94, .bool (false)), (95, .bool (true)), (108, .bool (true))] (by kernel_rfl) ?_
       refine EL.done (by kernel_rfl) ?_
       refine EQ.to ?_
       refine EQ.keep [4, 39, 40, 41, 108] [(4, sv A15 C16 l14), (39, sv (some ⟨a2, 0, none⟩) 4 a0), (40, ia (a0.length : Int)), (41, ia a1), (108, .bool (true))] (by kernel_rfl) ?_
       exact fun a ha => ⟨c4, c5, true, c8, c9, ha, (hS.re [7, 7, 7, 7, 7, 6, 6, 7] [] rfl (sub_cons 0 rfl (sub_cons 0 rfl (sub_cons 1 rfl (sub_cons 2 rfl (sub_cons 3 rfl (sub_tail (sub_tail (sub_tail (sub_tail (sub_self))))))))))), H⟩
      rw [if_neg g1] at H
      refine EL.keep [4, 13, 15, 18, 19, 39, 40, 41, 89, 90, 91, 93] [(4, sv A15 C16 l14), (13, pt a4 0), (15, pt b4 0), (18, pt c3 0), (19, .bool (c1)), (39, sv (some ⟨a2, 0, none⟩) 4 a0), (40, ia (a0.length : Int)), (41, ia a1), (89, ag [ia a8, ib b0]), (90, ag [ia ((a0.getD a1.toNat zS54).f0), ib ((a0.getD a1.toNat zS54).f1)]), (91, .bool (!(((a8 == ((a0.getD a1.toNat zS54).f0)) && ((b0 == ((a0.getD a1.toNat zS54).f1)) && true))))), (93, .bool (!(((a8 == ((a0.getD a1.toNat zS54).f0)) && ((b0 == ((a0.getD a1.toNat zS54).f1)) && true)))))] (by kernel_rfl) ?_
      refine EL.as' [(4, sv A15 C16 l14), (13, pt a4 0), (15, pt b4 0), (18, pt c3 0), (19, .bool (c1)), (39, sv (some ⟨a2, 0, none⟩) 4 a0), (40, ia (a0.length : Int)), (41, ia a1), (89, ag [ia a8, ib b0]), (90, ag [ia ((a0.getD a1.toNat zS54).f0), ib ((a0.getD a1.toNat zS54).f1)]), (91, .bool (true)), (93, .bool (true))] (by simp only [encS54, sv, (Bool.eq_false_iff.2 g1), Bool.not_true, Bool.not_false]) ?_
      refine EL.quick 15 [4, 39, 40, 41, 89, 90, 91, 108] [(4, sv A15 C16 l14), (39, sv (some ⟨a2, 0, none⟩) 4 a0), (40, ia (a0.length : Int)), (41, ia a1), (89, ag [ia a8, ib b0]), (90, ag [ia ((a0.getD a1.toNat zS54).f0), ib ((a0.getD a1.toNat zS54).f1)]), (91, .bool (true)), (108, .bool (true))] (by kernel_rfl) ?_
      refine EL.done (by kernel_rfl) ?_
      refine EQ.to ?_
      refine EQ.keep [4, 39, 40, 41, 108] [(4, sv A15 C16 l14), (39, sv (some ⟨a2, 0, none⟩) 4 a0), (40, ia (a0.length : Int)), (41, ia a1), (108, .bool (true))] (by kernel_rfl) ?_
      exact fun a ha => ⟨c4, c5, true, c8, c9, ha, (hS.re [7, 7, 7, 7, 7, 6, 6, 7] [] rfl (sub_cons 0 rfl (sub_cons 0 rfl (sub_cons 1 rfl (sub_cons 2 rfl (sub_cons 3 rfl (sub_tail (sub_tail (sub_tail (sub_tail (sub_self))))))))))), H⟩
     rw [if_neg g0] at H
     refine EL.keep [4, 13, 15, 16, 18, 19, 39, 40, 41, 88] [(4, sv A15 C16 l14), (13, pt a4 0), (15, pt b4 0), (16, pt c6 0), (18, pt c3 0), (19, .bool (c1)), (39, sv (some ⟨a2, 0, none⟩) 4 a0), (40, ia (a0.length : Int)), (41, ia a1), (88, .bool (!(c7)))] (by kernel_rfl) ?_
     refine EL.as' [(4, sv A15 C16 l14), (13, pt a4 0), (15, pt b4 0), (16, pt c6 0), (18, pt c3 0), (19, .bool (c1)), (39, sv (some ⟨a2, 0, none⟩) 4 a0), (40, ia (a0.length : Int)), (41, ia a1), (88, .bool (true))] (by simp only [encS54, sv, (Bool.eq_false_iff.2 g0), Bool.not_true, Bool.not_false]) ?_
     refine EL.quick 20 [4, 39, 40, 41, 108] [(4, sv A15 C16 l14), (39, sv (some ⟨a2, 0, none⟩) 4 a0), (40, ia (a0.length : Int)), (41, ia a1), (108, .bool (true))] (by kernel_rfl) ?_
     refine EL.done (by kernel_rfl) ?_
     refine EQ.to ?_
     refine EQ.keep [4, 39, 40, 41, 108] [(4, sv A15 C16 l14), (39, sv (some ⟨a2, 0, none⟩) 4 a0), (40, ia (a0.length : Int)), (41, ia a1), (108, .bool (true))] (by kernel_rfl) ?_
     exact fun a ha => ⟨c4, c5, true, c8, c9, ha, (hS.re [7, 7, 7, 7, 7, 6, 6, 7] [] rfl (sub_cons 0 rfl (sub_cons 0 rfl (sub_cons 1 rfl (sub_cons 2 rfl (sub_cons 3 rfl (sub_tail (sub_tail (sub_tail (sub_tail (sub_self))))))))))), H⟩
    obtain ⟨f4, g6, e3, g7, g8, ha, hS, H⟩ := hI
    rw [n2] at H
    (try dsimp only at H)
    refine EW.at ?_ a ha
    clear ha a
    refine EW.cdP' (e3) (by kernel_rfl) (by kernel_rfl) (fun i3 => ?_) (fun i3 => ?_)
    ·rw [if_pos i3] at H
     refine EW.sq (by kernel_rfl) ?_
     refine EW.rg (by kernel_rfl) ?_
     refine EL.quick 1 [10] [(10, .bool (false))] (by kernel_rfl) ?_
     refine EL.done (by kernel_rfl) ?_
     refine EQ.code ?_
     refine EW.ret (by kernel_rfl) ?_
     refine EQ.ret ?_
     refine EQ.ret ?_
     refine EQ.ret ?_
     refine EQ.ret ?_
     refine EQ.ret ?_
     obtain rfl := Option.some.inj H
     exact EQ.leave (.bool (false)) (by kernel_rfl) ⟨_, rfl, rfl, (hS.re [] [0, 0, 0, 0, 0, 0, 0, 0] rfl (sub_tail (sub_tail (sub_tail (sub_tail (sub_self))))))⟩
    rw [if_neg i3] at H
    refine EW.skip (by kernel_rfl) ?_
    refine EQ.pop ?_
    refine EQ.to ?_
    refine EQ.keep [4, 39, 40, 41] [(4, sv A15 C16 l14), (39, sv (some ⟨a2, 0, none⟩) 4 a0), (40, ia (a0.length : Int)), (41, ia a1)] (by kernel_rfl) ?_
    exact fun a ha => ⟨a3, a4, a5, a6, ha, (hS.re [7, 7, 7, 7, 7] [5, 5, 5] rfl (sub_cons 4 rfl (sub_tail (sub_tail (sub_tail (sub_tail (sub_tail (sub_self)))))))), H⟩
   obtain ⟨g5, j2, j0, j1, ha, hS, H⟩ := hI
   rw [n0] at H
   (try dsimp only at H)
   refine EW.at ?_ a ha
   clear ha a
   refine EW.rg (by kernel_rfl) ?_
   refine EL.quick 2 [4, 39, 40, 41] [(4, sv A15 C16 l14), (39, sv (some ⟨a2, 0, none⟩) 4 a0), (40, ia (a0.length : Int)), (41, ia (IntKind.i64.wrap (a1 + 1)))] (by kernel_rfl) ?_
   refine EL.done (by kernel_rfl) ?_
   refine EQ.to ?_
   refine EQ.keep [4, 39, 40, 41] [(4, sv A15 C16 l14), (39, sv (some ⟨a2, 0, none⟩) 4 a0), (40, ia (a0.length : Int)), (41, ia (IntKind.i64.wrap (a1 + 1)))] (by kernel_rfl) ?_
   exact fun a ha => ⟨n, Nat.lt_succ_self n, IntKind.i64.wrap (a1 + 1), ha, (hS.re [4, 4, 4] [3, 3] rfl (sub_cons 0 rfl (sub_tail (sub_self)))), H⟩
  rw [if_neg e8] at H
  refine EW.exit (id := 0) (by kernel_rfl) ?_
  refine EQ.exitCode ?_
  refine EQ.exitTo ?_
  refine EQ.exitHere ?_
  refine EQ.code ?_
  refine EW.sq (by kernel_rfl) ?_
  refine EW.rg (by kernel_rfl) ?_
  refine EL.quick 1 [10] [(10, .bool (true))] (by kernel_rfl) ?_
  refine EL.done (by kernel_rfl) ?_
  refine EQ.code ?_
  refine EW.ret (by kernel_rfl) ?_
  obtain rfl := Option.some.inj H
  exact EQ.leave (.bool (true)) (by kernel_rfl) ⟨_, rfl, rfl, (hS.re [] [0, 0, 0] rfl (sub_self))⟩
 rw [if_neg g9] at H
 refine EW.sq (by kernel_rfl) ?_
 refine EW.rg (by kernel_rfl) ?_
 refine EL.quick 1 [10] [(10, .bool (false))] (by kernel_rfl) ?_
 refine EL.done (by kernel_rfl) ?_
 refine EQ.code ?_
 refine EW.ret (by kernel_rfl) ?_
 refine EQ.ret ?_
 obtain rfl := Option.some.inj H
 exact EQ.leave (.bool (false)) (by kernel_rfl) ⟨_, rfl, rfl, (hS.re [] [0] rfl (sub_self))⟩

def okS54 (s : S54) : Prop := ((Lit.int .i64 s.f0).wf = true) ∧ ((Lit.int .i32 s.f1).wf = true) ∧ True
theorem oS54 : Opens Tryd.prog 54 kS54 okS54 := Opens.struct (fun s : S54 => (s.f0, s.f1, ())) (fun a => ⟨a.1, a.2.1⟩) (fun _ => rfl) Tryd.underlying54 (OpensF.cons (Opens.int Tryd.underlying3) (OpensF.cons (Opens.int Tryd.underlying21) OpensF.nil rfl (by kernel_rfl)) rfl (by kernel_rfl)) (by kernel_rfl)
def confidantlaw6_InstrTells.Pure : Prop := ∀ (a9 : Int) (a10 : Int) (a11 : Int) (a12 : Int) (a13 : Int) (l14 : List Int), (Lit.int .i64 a9).wf = true → (Lit.int .i32 a10).wf = true → (Lit.int .u8 a11).wf = true → (Lit.int .u8 a12).wf = true → (Lit.int .i32 a13).wf = true → l14.length * 1 ≤ 140737488351232 → (∀ x ∈ l14, (Lit.int .u8 x).wf = true) → ∃ K, confidantlaw6_InstrTells.f K a9 a10 a11 a12 a13 l14 = some true

end Go.Proofs.YtocdpimpkifdmaaDoor.G
