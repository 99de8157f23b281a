import Derived.Test.YtlcnkngpankkpaaProg
import Derived.Test.YtlcnkngpankkpaaFwShort
import Derived.Test.YtlcnkngpankkpaaFwOpen
import Derived.Test.YtlcnkngpankkpaaG0
namespace Go.Proofs.Ytlcnkngpankkpaa.G
open Go Go.Fw Go.RowKit Go.Proofs
set_option linter.unusedVariables false
set_option linter.unusedSimpArgs false

noncomputable def Cd9 : Code := bodyOf Try.f9

noncomputable def Cd14 : Code := bodyOf Try.f14

noncomputable def Cd29 : Code := bodyOf Try.f29

noncomputable def Cd30 : Code := bodyOf Try.f30

noncomputable def Cd32 : Code := bodyOf Try.f32

noncomputable def Cd37 : Code := bodyOf Try.f37

noncomputable def Cd40 : Code := bodyOf Try.f40

noncomputable def Cd41 : Code := bodyOf Try.f41

noncomputable def Cd52 : Code := bodyOf Try.f52

noncomputable def Cd53 : Code := bodyOf Try.f53

noncomputable def Cd54 : Code := bodyOf Try.f54

noncomputable def Cd55 : Code := bodyOf Try.f55

noncomputable def Cd56 : Code := bodyOf Try.f56

noncomputable def Cd57 : Code := bodyOf Try.f57

noncomputable def Cd83 : Code := bodyOf Try.f83

/-! ### confidant/confidantseat.in: function 41 -/
def confidantseat_in.f (K : Nat) (a62 : Int) (a63 : Int) : Option (Int × Int) := some (a62, IntKind.i32.wrap a63)
set_option maxRecDepth 100000 in
theorem confidantseat_in.calls {K : Nat} {a62 : Int} {a63 : Int} {x66 : Int} {x67 : Int} {B w : World} {os : List Ass} {rs : List Ro} (H : confidantseat_in.f K a62 a63 = some (x66, x67)) (hS : St B w (os) (rs)) :
  Calls Try.prog 41 [ia a62, ia a63].toArray w (fun en w' => ∃ v, en = .returned v ∧ v = ag [ia x66, ib x67] ∧ St B w' (os) (rs)) := by
 unfold confidantseat_in.f at H
 refine calls_of_EW (args := [ia a62, ia a63]) (c := Cd41) 9 Try.func41 (by kernel_rfl) (by kernel_rfl) (by kernel_rfl) ?_
 refine EW.sq (by kernel_rfl) ?_
 refine EW.rg (by kernel_rfl) ?_
 refine EL.of (EO.alloc hS 32 (ag [ia 0, ib 0]) [ia 0, ib 0] 4 (by kernel_rfl) (by kernel_rfl) (by kernel_rfl) (by kernel_rfl) (by first | rfl | kernel_rfl) ?_)
 intro g69 w hS
 refine EL.done (by kernel_rfl) ?_
 refine EQ.code ?_
 refine EW.sq (by kernel_rfl) ?_
 refine EW.rg (by kernel_rfl) ?_
 refine EL.quick 4 [4, 8] [(4, pt g69 0), (8, ag [ia a62, ib (IntKind.i32.wrap a63)])] (by kernel_rfl) ?_
 refine EL.of (EO.storeBox (os' := Ass.box 32 g69 [ia a62, ib (IntKind.i32.wrap a63)] :: os) hS 0 rfl 32 0 (ag [ia a62, ib (IntKind.i32.wrap a63)]) [ia a62, ib (IntKind.i32.wrap a63)] (by kernel_rfl) (by kernel_rfl) (by kernel_rfl) (by kernel_rfl) (by kernel_rfl) (by kernel_rfl) rfl rfl ?_)
 intro w hS
 refine EL.done (by kernel_rfl) ?_
 refine EQ.code ?_
 refine EW.ret (by kernel_rfl) ?_
 simp only [Option.some.injEq, Prod.mk.injEq] at H
 obtain ⟨rfl, rfl⟩ := H
 exact EQ.leaveC hS 0 rfl 4 32 0 2 (ag [ia a62, ib (IntKind.i32.wrap a63)]) (by kernel_rfl) (by kernel_rfl) (by kernel_rfl) ⟨_, rfl, rfl, (hS.re [] [0] rfl (sub_self))⟩

/-! ### confidant/confidantseat.piece: function 40 -/
def confidantseat_piece.f (K : Nat) (a50 : Int) (a51 : Int) (a52 : Int) (a53 : Int) (a54 : Int) (a55 : Int) (a56 : Bool) : Option (List S32) := if a53 = 0 then none else (if a54 = 0 then none else (if (Int.tmod a50 16) = 0 then (b2 (confidantseat_in.f K 1 (IntKind.i64.wrap a51)) fun (a8 : Int) (a5 : Int) => (b2 (confidantseat_in.f K 1 (IntKind.i64.wrap (Int.tmod a52 3))) fun (a6 : Int) (a3 : Int) => (lt ([4, 5, 6, 7, 8, 9] : List Int) fun a7 => (if 0 ≤ (Int.tmod a51 6) then (if (Int.tmod a51 6) < (a7.length : Int) then (b2 (confidantseat_in.f K (a7.getD (Int.tmod a51 6).toNat 0) 0) fun (a4 : Int) (a1 : Int) => (b2 (confidantseat_in.f K 13 (IntKind.i64.wrap (Int.tmod a52 4))) fun (a2 : Int) (a0 : Int) => (lt ([(⟨a8, a5⟩ : S32), (⟨a6, a3⟩ : S32), (⟨a4, a1⟩ : S32), (⟨a2, a0⟩ : S32)] : List S32) fun a9 => (some a9)))) else none) else none)))) else (if (Int.tmod a50 16) = 1 then (b2 (confidantseat_in.f K 1 (Int.tmod (IntKind.i64.wrap a51) a53)) fun (c9 : Int) (b5 : Int) => (b2 (confidantseat_in.f K 12 (IntKind.i64.wrap (Int.tmod a52 4))) fun (d0 : Int) (b6 : Int) => (b2 (confidantseat_in.f K 20 (Int.tmod (IntKind.i64.wrap a52) a54)) fun (d1 : Int) (b7 : Int) => (b2 (confidantseat_in.f K 21 0) fun (b8 : Int) (b1 : Int) => (b2 (confidantseat_in.f K 13 (IntKind.i64.wrap (Int.tmod a51 4))) fun (b9 : Int) (b3 : Int) => (lt ([(⟨c9, b5⟩ : S32), (⟨d0, b6⟩ : S32), (⟨d1, b7⟩ : S32), (⟨b8, b1⟩ : S32), (⟨b9, b3⟩ : S32)] : List S32) fun p4 => (some p4))))))) else (if (Int.tmod a50 16) = 2 then (b2 (confidantseat_in.f K 1 (Int.tmod (IntKind.i64.wrap a51) a53)) fun (f5 : Int) (d2 : Int) => (b2 (confidantseat_in.f K 1 (IntKind.i64.wrap a52)) fun (f6 : Int) (d3 : Int) => (b2 (confidantseat_in.f K 20 (Int.tmod (IntKind.i64.wrap a52) a54)) fun (f7 : Int) (d4 : Int) => (b2 (confidantseat_in.f K 13 3) fun (d5 : Int) (c0 : Int) => (lt ([(⟨f5, d2⟩ : S32), (⟨f6, d3⟩ : S32), (⟨f7, d4⟩ : S32), (⟨d5, c0⟩ : S32)] : List S32) fun p5 => (some p5)))))) else (if (Int.tmod a50 16) = 3 then (b2 (confidantseat_in.f K 12 3) fun (j9 : Int) (f8 : Int) => (b2 (confidantseat_in.f K 21 0) fun (f9 : Int) (d6 : Int) => (b2 (confidantseat_in.f K 13 (IntKind.i64.wrap (Int.tmod a51 4))) fun (g0 : Int) (d7 : Int) => (lt ([(⟨j9, f8⟩ : S32), (⟨f9, d6⟩ : S32), (⟨g0, d7⟩ : S32)] : List S32) fun p6 => (some p6))))) else (if (Int.tmod a50 16) = 4 then (b2 (confidantseat_in.f K 1 (IntKind.i64.wrap (Int.tmod a52 4))) fun (g1 : Int) (d8 : Int) => (b2 (confidantseat_in.f K 16 (Int.tmod (IntKind.i64.wrap a51) a53)) fun (g2 : Int) (d9 : Int) => (b2 (confidantseat_in.f K 13 (IntKind.i64.wrap (Int.tmod a51 3))) fun (g3 : Int) (e0 : Int) => (lt ([(⟨g1, d8⟩ : S32), (⟨g2, d9⟩ : S32), (⟨g3, e0⟩ : S32)] : List S32) fun p7 => (some p7))))) else (if (Int.tmod a50 16) = 5 then (b2 (confidantseat_in.f K 12 (IntKind.i64.wrap (Int.tmod a51 4))) fun (m0 : Int) (g4 : Int) => (b2 (confidantseat_in.f K 17 (Int.tmod (IntKind.i64.wrap a51) a53)) fun (m1 : Int) (g5 : Int) => (b2 (confidantseat_in.f K 13 2) fun (g6 : Int) (e1 : Int) => (lt ([(⟨m0, g4⟩ : S32), (⟨m1, g5⟩ : S32), (⟨g6, e1⟩ : S32)] : List S32) fun p8 => (some p8))))) else (if (Int.tmod a50 16) = 6 then (b2 (confidantseat_in.f K 12 2) fun (m2 : Int) (g7 : Int) => (b2 (confidantseat_in.f K 18 0) fun (g8 : Int) (e2 : Int) => (b2 (confidantseat_in.f K 13 (IntKind.i64.wrap (Int.tmod a52 4))) fun (g9 : Int) (e3 : Int) => (lt ([(⟨m2, g7⟩ : S32), (⟨g8, e2⟩ : S32), (⟨g9, e3⟩ : S32)] : List S32) fun p9 => (some p9))))) else (if (Int.tmod a50 16) = 7 then (b2 (confidantseat_in.f K 12 2) fun (m3 : Int) (i0 : Int) => (b2 (confidantseat_in.f K 12 (IntKind.i64.wrap (Int.tmod a52 4))) fun (m4 : Int) (i1 : Int) => (b2 (confidantseat_in.f K 19 0) fun (i2 : Int) (e4 : Int) => (lt ([(⟨m3, i0⟩ : S32), (⟨m4, i1⟩ : S32), (⟨i2, e4⟩ : S32)] : List S32) fun q0 => (some q0))))) else (lt (fun (o3 : Bool) => (if o3 = true then (b2 (confidantseat_in.f K 12 (IntKind.i64.wrap (Int.tmod a52 4))) fun (m5 : Int) (i3 : Int) => (b2 (confidantseat_in.f K 22 (Int.tmod (IntKind.i64.wrap a51) a53)) fun (m6 : Int) (i4 : Int) => (lt ([(⟨m5, i3⟩ : S32), (⟨m6, i4⟩ : S32)] : List S32) fun q1 => (some q1)))) else (if (Int.tmod a50 16) = 10 then (b2 (confidantseat_in.f K 15 (Int.tmod (IntKind.i64.wrap a51) a53)) fun (o1 : Int) (m7 : Int) => (lt ([(⟨o1, m7⟩ : S32)] : List S32) fun q2 => (some q2))) else (if (Int.tmod a50 16) = 11 then (b2 (confidantseat_in.f K 14 0) fun (m8 : Int) (i5 : Int) => (b2 (confidantseat_in.f K 22 (Int.tmod (IntKind.i64.wrap a51) a53)) fun (m9 : Int) (i6 : Int) => (lt ([(⟨m8, i5⟩ : S32), (⟨m9, i6⟩ : S32)] : List S32) fun q3 => (some q3)))) else (if (Int.tmod a50 16) = 12 then (lt (fun (o4 : Bool) => (if o4 = true then (b2 (confidantseat_in.f K 1 (IntKind.i64.wrap ((IntKind.i64.wrap ((IntKind.i64.wrap (Int.tmod a51 4)) * 65536)) + (IntKind.i64.wrap (Int.tmod a52 3))))) fun (o2 : Int) (n0 : Int) => (b2 (confidantseat_in.f K 21 0) fun (n1 : Int) (i7 : Int) => (b2 (confidantseat_in.f K 2 0) fun (e5 : Int) (c3 : Int) => (lt ([(⟨o2, n0⟩ : S32), (⟨n1, i7⟩ : S32), (⟨e5, c3⟩ : S32)] : List S32) fun o8 => (some o8))))) else (b2 (confidantseat_in.f K 12 (IntKind.i64.wrap (Int.tmod a52 4))) fun (n6 : Int) (i9 : Int) => (if a55 = 0 then none else (b2 (confidantseat_in.f K 23 (Int.tmod (IntKind.i64.wrap a51) a55)) fun (j0 : Int) (e6 : Int) => (b2 (confidantseat_in.f K 13 1) fun (e7 : Int) (c4 : Int) => (lt ([(⟨n6, i9⟩ : S32), (⟨j0, e6⟩ : S32), (⟨e7, c4⟩ : S32)] : List S32) fun o9 => (some o9)))))))) fun q9 => (if a55 = 0 then (q9 true) else (q9 a56))) else (if (Int.tmod a50 16) = 13 then (if a55 = 0 then (b2 (confidantseat_in.f K 1 (IntKind.i64.wrap ((IntKind.i64.wrap ((IntKind.i64.wrap (Int.tmod a51 4)) * 65536)) + (IntKind.i64.wrap (Int.tmod a52 3))))) fun (n7 : Int) (j1 : Int) => (b2 (confidantseat_in.f K 18 0) fun (j2 : Int) (e8 : Int) => (b2 (confidantseat_in.f K 2 0) fun (e9 : Int) (c5 : Int) => (lt ([(⟨n7, j1⟩ : S32), (⟨j2, e8⟩ : S32), (⟨e9, c5⟩ : S32)] : List S32) fun p0 => (some p0))))) else (b2 (confidantseat_in.f K 24 (Int.tmod (IntKind.i64.wrap a51) a55)) fun (n8 : Int) (j3 : Int) => (b2 (confidantseat_in.f K 2 0) fun (j4 : Int) (f0 : Int) => (b2 (confidantseat_in.f K 13 0) fun (f1 : Int) (c6 : Int) => (lt ([(⟨n8, j3⟩ : S32), (⟨j4, f0⟩ : S32), (⟨f1, c6⟩ : S32)] : List S32) fun p1 => (some p1)))))) else (if (Int.tmod a50 16) = 14 then (b2 (confidantseat_in.f K 1 (IntKind.i64.wrap (Int.tmod a51 4))) fun (n9 : Int) (j5 : Int) => (b2 (confidantseat_in.f K 13 1) fun (j6 : Int) (f2 : Int) => (lt ([(⟨n9, j5⟩ : S32), (⟨j6, f2⟩ : S32)] : List S32) fun p2 => (some p2)))) else (b2 (confidantseat_in.f K 1 (IntKind.i64.wrap a51)) fun (o0 : Int) (j7 : Int) => (b2 (confidantseat_in.f K 3 0) fun (j8 : Int) (f3 : Int) => (b2 (confidantseat_in.f K 4 0) fun (f4 : Int) (c7 : Int) => (b2 (confidantseat_in.f K 2 0) fun (c8 : Int) (b4 : Int) => (lt ([(⟨o0, j7⟩ : S32), (⟨j8, f3⟩ : S32), (⟨f4, c7⟩ : S32), (⟨c8, b4⟩ : S32)] : List S32) fun p3 => (some p3))))))))))))) fun q8 => (if (Int.tmod a50 16) = 8 then (q8 true) else (q8 (decide ((Int.tmod a50 16) = 9))))))))))))))
set_option maxRecDepth 100000 in
theorem confidantseat_piece.calls {K : Nat} {a50 : Int} {a51 : Int} {a52 : Int} {a53 : Int} {a54 : Int} {a55 : Int} {a56 : Bool} {q4 : List S32} {B w : World} {os : List Ass} {rs : List Ro} (H : confidantseat_piece.f K a50 a51 a52 a53 a54 a55 a56 = some q4) (hS : St B w (os) (rs)) :
  Calls Try.prog 40 [ig a50, ig a51, ig a52, ia a53, ia a54, ia a55, .bool (a56)].toArray w (fun en w' => ∃ v, en = .returned v ∧ ∃ y0 : Option Addr, ∃ y2 : Nat, v = sv y0 y2 q4 ∧ St B w' (Ass.own 32 kS32 y0 y2 q4 :: os) (rs)) := by
 unfold confidantseat_piece.f at H
 refine calls_of_EW (args := [ig a50, ig a51, ig a52, ia a53, ia a54, ia a55, .bool (a56)]) (c := Cd40) 214 Try.func40 (by kernel_rfl) (by kernel_rfl) (by kernel_rfl) ?_
 refine EW.sq (by kernel_rfl) ?_
 refine EW.rg (by kernel_rfl) ?_
 refine EL.quick 1 [0, 1, 2, 3, 4, 5, 6] [(0, ig a50), (1, ig a51), (2, ig a52), (3, ia a53), (4, ia a54), (5, ia a55), (6, .bool (a56))] (by kernel_rfl) ?_
 refine EL.done (by kernel_rfl) ?_
 refine EQ.code ?_
 refine EW.sq (by kernel_rfl) ?_
 obtain ⟨A1, H⟩ := ite_out H
 obtain ⟨A2, H⟩ := ite_out H
 have hS := hS.drew
 refine EW.dr (B := B) [] [] (by kernel_rfl) (by kernel_rfl) ?_
 have hN : Region.noSelect Cd40.r.l.ops = true := (by kernel_rfl)
 have hF : freeAll Cd40.r.l.ops = true := (by kernel_rfl)
 have hC : Core B [] [] _ := ⟨_, _, hS⟩
 refine ED.quick hN hF hC [0, 1, 2, 4, 5, 6] [0, 1, 2, 5, 6, 18, 19, 22, 23] 4 [(0, ig a50), (1, ig a51), (2, ig a52), (5, ia a55), (6, .bool (a56)), (18, ia (IntKind.i64.wrap a51)), (19, ia a53), (22, ia (IntKind.i64.wrap a52)), (23, ia a54)] (bm 10 119) (by kernel_rfl) (by kernel_rfl) ?_
 refine ED.Y hN hF hC 3 3 (bm 10 127) (by kernel_rfl) (by kernel_rfl) rfl (fun _ _ _ hS => YO.div .rem .i64 (IntKind.i64.wrap a51) a53 (Int.tmod (IntKind.i64.wrap a51) a53) 20 (by kernel_rfl) (by kernel_rfl) (by kernel_rfl) A1 (by first | exact .inl ⟨rfl, rfl⟩ | exact .inr ⟨rfl, rfl⟩)) ?_
 refine ED.quick hN hF hC [8] [0, 1, 2, 5, 6, 15, 22, 23] 2 [(0, ig a50), (1, ig a51), (2, ig a52), (5, ia a55), (6, .bool (a56)), (15, ia (Int.tmod (IntKind.i64.wrap a51) a53)), (22, ia (IntKind.i64.wrap a52)), (23, ia a54)] (bm 10 383) (by kernel_rfl) (by kernel_rfl) ?_
 refine ED.Y hN hF hC 7 1 (bm 10 511) (by kernel_rfl) (by kernel_rfl) rfl (fun _ _ _ hS => YO.div .rem .i64 (IntKind.i64.wrap a52) a54 (Int.tmod (IntKind.i64.wrap a52) a54) 24 (by kernel_rfl) (by kernel_rfl) (by kernel_rfl) A2 (by first | exact .inl ⟨rfl, rfl⟩ | exact .inr ⟨rfl, rfl⟩)) ?_
 refine ED.quick hN hF hC [9] [0, 1, 2, 5, 6, 15, 16] 0 [(0, ig a50), (1, ig a51), (2, ig a52), (5, ia a55), (6, .bool (a56)), (15, ia (Int.tmod (IntKind.i64.wrap a51) a53)), (16, ia (Int.tmod (IntKind.i64.wrap a52) a54))] (bm 10 1023) (by kernel_rfl) (by kernel_rfl) ?_
 refine ED.done (by kernel_rfl) ?_
 refine EQ.code ?_
 refine EW.sq (by kernel_rfl) ?_
 refine EW.sq (by kernel_rfl) ?_
 refine EW.rg (by kernel_rfl) ?_
 refine EL.quick 2 [1, 2, 5, 6, 15, 16, 26] [(1, ig a51), (2, ig a52), (5, ia a55), (6, .bool (a56)), (15, ia (Int.tmod (IntKind.i64.wrap a51) a53)), (16, ia (Int.tmod (IntKind.i64.wrap a52) a54)), (26, ig (Int.tmod a50 16))] (by kernel_rfl) ?_
 refine EL.done (by kernel_rfl) ?_
 refine EQ.code ?_
 refine EW.bl 0 (by kernel_rfl) ?_
 refine EW.sq (by kernel_rfl) ?_
 refine EW.rg (by kernel_rfl) ?_
 refine EL.quick 2 [1, 2, 5, 6, 15, 16, 26, 27] [(1, ig a51), (2, ig a52), (5, ia a55), (6, .bool (a56)), (15, ia (Int.tmod (IntKind.i64.wrap a51) a53)), (16, ia (Int.tmod (IntKind.i64.wrap a52) a54)), (26, ig (Int.tmod a50 16)), (27, .bool (decide ((Int.tmod a50 16) = 0)))] (by kernel_rfl) ?_
 refine EL.done (by kernel_rfl) ?_
 refine EQ.code ?_
 refine EW.cdP ((Int.tmod a50 16) = 0) (by kernel_rfl) (by kernel_rfl) (fun v6 => ?_) (fun v6 => ?_)
 ·rw [if_pos v6] at H
  refine EW.sq (by kernel_rfl) ?_
  obtain ⟨a8, a5, x9, H⟩ := b2_out H
  obtain ⟨a6, a3, n2, H⟩ := b2_out H
  obtain ⟨a7, n5, H⟩ := lt_out H
  obtain ⟨c1, H⟩ := ite_in H
  obtain ⟨c2, H⟩ := ite_in H
  obtain ⟨a4, a1, n3, H⟩ := b2_out H
  obtain ⟨a2, a0, n4, H⟩ := b2_out H
  obtain ⟨a9, b0, H⟩ := lt_out H
  refine EW.mt (fun a w => ∃ o5 : Option Addr, ∃ o6 : Nat, ∃ y1 : Option Addr, ∃ y3 : Nat, Sat 214 [(14, sv o5 o6 a9)] a ∧ St B w (Ass.own 32 kS32 o5 o6 a9 :: Ass.own 3 (Kd.int .i64) y1 y3 a7 :: os) (rs)) (by kernel_rfl) ?_ (fun a w hI => ?_)
  ·have hS := hS.drew
   refine EW.dr (B := B) [] [] (by kernel_rfl) (by kernel_rfl) ?_
   have hN : Region.noSelect Cd40.r.r.l.r.l.r.l.l.ops = true := (by kernel_rfl)
   have hF : freeAll Cd40.r.r.l.r.l.r.l.l.ops = true := (by kernel_rfl)
   have hC : Core B [] [] _ := ⟨_, _, hS⟩
   refine ED.quick hN hF hC [0, 1, 3, 4, 5, 8, 9, 13, 14, 15] [30, 34, 38, 44] 9 [(30, ia (IntKind.i64.wrap a51)), (34, ia (IntKind.i64.wrap (Int.tmod a52 3))), (38, ig (Int.tmod a51 6)), (44, ia (IntKind.i64.wrap (Int.tmod a52 4)))] (bm 19 58171) (by kernel_rfl) (by kernel_rfl) ?_
   refine ED.two 2 7 8 (by kernel_rfl) (by kernel_rfl) ?_ ?_
   ·have hq := confidantseat_in.calls x9 hS
    refine EO.callD 41 [ia 1, ia (IntKind.i64.wrap a51)] _ 31 (by kernel_rfl) (by kernel_rfl) (by kernel_rfl) hq ?_
    rintro v w ⟨rfl, hS⟩
    have hC := hC.again ⟨_, _, hS⟩
    refine ⟨hC, ?_⟩
    refine ED.at' (bm 19 58175) (by kernel_rfl) ?_
    refine ED.two 6 7 7 (by kernel_rfl) (by kernel_rfl) ?_ ?_
    ·have hq := confidantseat_in.calls n2 hS
     refine EO.callD 41 [ia 1, ia (IntKind.i64.wrap (Int.tmod a52 3))] _ 35 (by kernel_rfl) (by kernel_rfl) (by kernel_rfl) hq ?_
     rintro v w ⟨rfl, hS⟩
     have hC := hC.again ⟨_, _, hS⟩
     refine ⟨hC, ?_⟩
     refine ED.at' (bm 19 58239) (by kernel_rfl) ?_
     refine ED.one 7 6 (bm 19 58367) (by kernel_rfl) (by kernel_rfl) (by kernel_rfl) (EO.lit hS (Kd.int .i64) 3 39 6 #[(0, ia 4), (1, ia 5), (2, ia 6), (3, ia 7), (4, ia 8), (5, ia 9)] [ia 4, ia 5, ia 6, ia 7, ia 8, ia 9] a7 36 (by kernel_rfl) (by kernel_rfl) (by kernel_rfl) (fun _ => (by kernel_rfl)) (by rw [n5]; rfl) (by kernel_rfl) (fun w G hr => (by rw [n5]; exact ⟨[ia 4], [ia 5, ia 6, ia 7, ia 8, ia 9], rfl, rfl, ⟨[ia 5], [ia 6, ia 7, ia 8, ia 9], rfl, rfl, ⟨[ia 6], [ia 7, ia 8, ia 9], rfl, rfl, ⟨[ia 7], [ia 8, ia 9], rfl, rfl, ⟨[ia 8], [ia 9], rfl, rfl, ⟨[ia 9], [], rfl, rfl, rfl⟩⟩⟩⟩⟩⟩)) ?_)
     intro t6 w hS
     have hC := hC.again ⟨_, _, hS⟩
     refine ⟨hC, ?_⟩
     refine ED.Y hN hF hC 10 5 (bm 19 59391) (by kernel_rfl) (by kernel_rfl) rfl (fun _ _ _ hS => YO.idx 39 1 ⟨t6, 0, none⟩ a7.length 6 .u8 (Int.tmod a51 6) 39 (by kernel_rfl) (by kernel_rfl) (by kernel_rfl) (by kernel_rfl) c1 c2) ?_
     refine ED.one 11 4 (bm 19 61439) (by kernel_rfl) (by kernel_rfl) (by kernel_rfl) (EO.Y (YO.loadEl hS (Kd.int .i64) ⟨t6, 0, none⟩ 6 a7 (Rd.own 0 3 rfl) 0 (encI .i64) encI_of (Int.tmod a51 6) c1 c2 3 1 0 1 rfl (ia (a7.getD (Int.tmod a51 6).toNat 0)) 40 (by kernel_rfl) (by kernel_rfl) (by kernel_rfl) (by kernel_rfl)) ?_)
     have hC := hC.again ⟨_, _, hS⟩
     refine ⟨hC, ?_⟩
     have hq := confidantseat_in.calls n3 hS
     refine ED.one 12 3 (bm 19 65535) (by kernel_rfl) (by kernel_rfl) (by kernel_rfl) (EO.callD 41 [ia (a7.getD (Int.tmod a51 6).toNat 0), ia 0] _ 41 (by kernel_rfl) (by kernel_rfl) (by kernel_rfl) hq ?_)
     rintro v w ⟨rfl, hS⟩
     have hC := hC.again ⟨_, _, hS⟩
     refine ⟨hC, ?_⟩
     have hq := confidantseat_in.calls n4 hS
     refine ED.one 16 2 (bm 19 131071) (by kernel_rfl) (by kernel_rfl) (by kernel_rfl) (EO.callD 41 [ia 13, ia (IntKind.i64.wrap (Int.tmod a52 4))] _ 45 (by kernel_rfl) (by kernel_rfl) (by kernel_rfl) hq ?_)
     rintro v w ⟨rfl, hS⟩
     have hC := hC.again ⟨_, _, hS⟩
     refine ⟨hC, ?_⟩
     refine ED.one 17 1 (bm 19 262143) (by kernel_rfl) (by kernel_rfl) (by kernel_rfl) (EO.lit hS kS32 32 29 4 #[(0, ag [ia a8, ib a5]), (1, ag [ia a6, ib a3]), (2, ag [ia a4, ib a1]), (3, ag [ia a2, ib a0])] [ia a8, ib a5, ia a6, ib a3, ia a4, ib a1, ia a2, ib a0] a9 46 (by kernel_rfl) (by kernel_rfl) (by kernel_rfl) (fun _ => (by kernel_rfl)) (by rw [b0]; rfl) (by kernel_rfl) (fun w G hr => (by rw [b0]; exact ⟨[ia a8, ib a5], [ia a6, ib a3, ia a4, ib a1, ia a2, ib a0], rfl, ⟨[ia a8], [ib a5], rfl, rfl, ⟨[ib a5], [], rfl, rfl, rfl⟩⟩, ⟨[ia a6, ib a3], [ia a4, ib a1, ia a2, ib a0], rfl, ⟨[ia a6], [ib a3], rfl, rfl, ⟨[ib a3], [], rfl, rfl, rfl⟩⟩, ⟨[ia a4, ib a1], [ia a2, ib a0], rfl, ⟨[ia a4], [ib a1], rfl, rfl, ⟨[ib a1], [], rfl, rfl, rfl⟩⟩, ⟨[ia a2, ib a0], [], rfl, ⟨[ia a2], [ib a0], rfl, rfl, ⟨[ib a0], [], rfl, rfl, rfl⟩⟩, rfl⟩⟩⟩⟩)) ?_)
     intro t7 w hS
     have hC := hC.again ⟨_, _, hS⟩
     refine ⟨hC, ?_⟩
     refine ED.quick hN hF hC [18] [14] 0 [(14, sv (some ⟨t7, 0, none⟩) 4 a9)] (bm 19 524287) (by kernel_rfl) (by kernel_rfl) ?_
     refine ED.done (by kernel_rfl) ?_
     refine EQ.to ?_
     refine EQ.keep [14] [(14, sv (some ⟨t7, 0, none⟩) 4 a9)] (by kernel_rfl) ?_
     exact fun a ha => ⟨(some ⟨t7, 0, none⟩), 4, (some ⟨t6, 0, none⟩), 6, ha, (hS.re [1, 1] [] rfl (sub_self))⟩
    ·refine EO.lit hS (Kd.int .i64) 3 39 6 #[(0, ia 4), (1, ia 5), (2, ia 6), (3, ia 7), (4, ia 8), (5, ia 9)] [ia 4, ia 5, ia 6, ia 7, ia 8, ia 9] a7 36 (by kernel_rfl) (by kernel_rfl) (by kernel_rfl) (fun _ => (by kernel_rfl)) (by rw [n5]; rfl) (by kernel_rfl) (fun w G hr => (by rw [n5]; exact ⟨[ia 4], [ia 5, ia 6, ia 7, ia 8, ia 9], rfl, rfl, ⟨[ia 5], [ia 6, ia 7, ia 8, ia 9], rfl, rfl, ⟨[ia 6], [ia 7, ia 8, ia 9], rfl, rfl, ⟨[ia 7], [ia 8, ia 9], rfl, rfl, ⟨[ia 8], [ia 9], rfl, rfl, ⟨[ia 9], [], rfl, rfl, rfl⟩⟩⟩⟩⟩⟩)) ?_
     intro o7 w hS
     have hC := hC.again ⟨_, _, hS⟩
     refine ⟨hC, ?_⟩
     refine ED.at' (bm 19 58303) (by kernel_rfl) ?_
     refine ED.Y hN hF hC 10 6 (bm 19 59327) (by kernel_rfl) (by kernel_rfl) rfl (fun _ _ _ hS => YO.idx 39 1 ⟨o7, 0, none⟩ a7.length 6 .u8 (Int.tmod a51 6) 39 (by kernel_rfl) (by kernel_rfl) (by kernel_rfl) (by kernel_rfl) c1 c2) ?_
     refine ED.two 6 11 5 (by kernel_rfl) (by kernel_rfl) ?_ ?_
     ·have hq := confidantseat_in.calls n2 hS
      refine EO.callD 41 [ia 1, ia (IntKind.i64.wrap (Int.tmod a52 3))] _ 35 (by kernel_rfl) (by kernel_rfl) (by kernel_rfl) hq ?_
      rintro v w ⟨rfl, hS⟩
      have hC := hC.again ⟨_, _, hS⟩
      refine ⟨hC, ?_⟩
      refine ED.at' (bm 19 59391) (by kernel_rfl) ?_
      refine ED.one 11 4 (bm 19 61439) (by kernel_rfl) (by kernel_rfl) (by kernel_rfl) (EO.Y (YO.loadEl hS (Kd.int .i64) ⟨o7, 0, none⟩ 6 a7 (Rd.own 0 3 rfl) 0 (encI .i64) encI_of (Int.tmod a51 6) c1 c2 3 1 0 1 rfl (ia (a7.getD (Int.tmod a51 6).toNat 0)) 40 (by kernel_rfl) (by kernel_rfl) (by kernel_rfl) (by kernel_rfl)) ?_)
      have hC := hC.again ⟨_, _, hS⟩
      refine ⟨hC, ?_⟩
      have hq := confidantseat_in.calls n3 hS
      refine ED.one 12 3 (bm 19 65535) (by kernel_rfl) (by kernel_rfl) (by kernel_rfl) (EO.callD 41 [ia (a7.getD (Int.tmod a51 6).toNat 0), ia 0] _ 41 (by kernel_rfl) (by kernel_rfl) (by kernel_rfl) hq ?_)
      rintro v w ⟨rfl, hS⟩
      have hC := hC.again ⟨_, _, hS⟩
      refine ⟨hC, ?_⟩
      have hq := confidantseat_in.calls n4 hS
      refine ED.one 16 2 (bm 19 131071) (by kernel_rfl) (by kernel_rfl) (by kernel_rfl) (EO.callD 41 [ia 13, ia (IntKind.i64.wrap (Int.tmod a52 4))] _ 45 (by kernel_rfl) (by kernel_rfl) (by kernel_rfl) hq ?_)
      rintro v w ⟨rfl, hS⟩
      have hC := hC.again ⟨_, _, hS⟩
      refine ⟨hC, ?_⟩
      refine ED.one 17 1 (bm 19 262143) (by kernel_rfl) (by kernel_rfl) (by kernel_rfl) (EO.lit hS kS32 32 29 4 #[(0, ag [ia a8, ib a5]), (1, ag [ia a6, ib a3]), (2, ag [ia a4, ib a1]), (3, ag [ia a2, ib a0])] [ia a8, ib a5, ia a6, ib a3, ia a4, ib a1, ia a2, ib a0] a9 46 (by kernel_rfl) (by kernel_rfl) (by kernel_rfl) (fun _ => (by kernel_rfl)) (by rw [b0]; rfl) (by kernel_rfl) (fun w G hr => (by rw [b0]; exact ⟨[ia a8, ib a5], [ia a6, ib a3, ia a4, ib a1, ia a2, ib a0], rfl, ⟨[ia a8], [ib a5], rfl, rfl, ⟨[ib a5], [], rfl, rfl, rfl⟩⟩, ⟨[ia a6, ib a3], [ia a4, ib a1, ia a2, ib a0], rfl, ⟨[ia a6], [ib a3], rfl, rfl, ⟨[ib a3], [], rfl, rfl, rfl⟩⟩, ⟨[ia a4, ib a1], [ia a2, ib a0], rfl, ⟨[ia a4], [ib a1], rfl, rfl, ⟨[ib a1], [], rfl, rfl, rfl⟩⟩, ⟨[ia a2, ib a0], [], rfl, ⟨[ia a2], [ib a0], rfl, rfl, ⟨[ib a0], [], rfl, rfl, rfl⟩⟩, rfl⟩⟩⟩⟩)) ?_)
      intro t8 w hS
      have hC := hC.again ⟨_, _, hS⟩
      refine ⟨hC, ?_⟩
      refine ED.quick hN hF hC [18] [14] 0 [(14, sv (some ⟨t8, 0, none⟩) 4 a9)] (bm 19 524287) (by kernel_rfl) (by kernel_rfl) ?_
      refine ED.done (by kernel_rfl) ?_
      refine EQ.to ?_
      refine EQ.keep [14] [(14, sv (some ⟨t8, 0, none⟩) 4 a9)] (by kernel_rfl) ?_
      exact fun a ha => ⟨(some ⟨t8, 0, none⟩), 4, (some ⟨o7, 0, none⟩), 6, ha, (hS.re [1, 1] [] rfl (sub_self))⟩
     ·refine EO.Y (YO.loadEl hS (Kd.int .i64) ⟨o7, 0, none⟩ 6 a7 (Rd.own 0 3 rfl) 0 (encI .i64) encI_of (Int.tmod a51 6) c1 c2 3 1 0 1 rfl (ia (a7.getD (Int.tmod a51 6).toNat 0)) 40 (by kernel_rfl) (by kernel_rfl) (by kernel_rfl) (by kernel_rfl)) ?_
      have hC := hC.again ⟨_, _, hS⟩
      refine ⟨hC, ?_⟩
      refine ED.at' (bm 19 61375) (by kernel_rfl) ?_
      have hq := confidantseat_in.calls n2 hS
      refine ED.one 6 4 (bm 19 61439) (by kernel_rfl) (by kernel_rfl) (by kernel_rfl) (EO.callD 41 [ia 1, ia (IntKind.i64.wrap (Int.tmod a52 3))] _ 35 (by kernel_rfl) (by kernel_rfl) (by kernel_rfl) hq ?_)
      rintro v w ⟨rfl, hS⟩
      have hC := hC.again ⟨_, _, hS⟩
      refine ⟨hC, ?_⟩
      have hq := confidantseat_in.calls n3 hS
      refine ED.one 12 3 (bm 19 65535) (by kernel_rfl) (by kernel_rfl) (by kernel_rfl) (EO.callD 41 [ia (a7.getD (Int.tmod a51 6).toNat 0), ia 0] _ 41 (by kernel_rfl) (by kernel_rfl) (by kernel_rfl) hq ?_)
      rintro v w ⟨rfl, hS⟩
      have hC := hC.again ⟨_, _, hS⟩
      refine ⟨hC, ?_⟩
      have hq := confidantseat_in.calls n4 hS
      refine ED.one 16 2 (bm 19 131071) (by kernel_rfl) (by kernel_rfl) (by kernel_rfl) (EO.callD 41 [ia 13, ia (IntKind.i64.wrap (Int.tmod a52 4))] _ 45 (by kernel_rfl) (by kernel_rfl) (by kernel_rfl) hq ?_)
      rintro v w ⟨rfl, hS⟩
      have hC := hC.again ⟨_, _, hS⟩
      refine ⟨hC, ?_⟩
      refine ED.one 17 1 (bm 19 262143) (by kernel_rfl) (by kernel_rfl) (by kernel_rfl) (EO.lit hS kS32 32 29 4 #[(0, ag [ia a8, ib a5]), (1, ag [ia a6, ib a3]), (2, ag [ia a4, ib a1]), (3, ag [ia a2, ib a0])] [ia a8, ib a5, ia a6, ib a3, ia a4, ib a1, ia a2, ib a0] a9 46 (by kernel_rfl) (by kernel_rfl) (by kernel_rfl) (fun _ => (by kernel_rfl)) (by rw [b0]; rfl) (by kernel_rfl) (fun w G hr => (by rw [b0]; exact ⟨[ia a8, ib a5], [ia a6, ib a3, ia a4, ib a1, ia a2, ib a0], rfl, ⟨[ia a8], [ib a5], rfl, rfl, ⟨[ib a5], [], rfl, rfl, rfl⟩⟩, ⟨[ia a6, ib a3], [ia a4, ib a1, ia a2, ib a0], rfl, ⟨[ia a6], [ib a3], rfl, rfl, ⟨[ib a3], [], rfl, rfl, rfl⟩⟩, ⟨[ia a4, ib a1], [ia a2, ib a0], rfl, ⟨[ia a4], [ib a1], rfl, rfl, ⟨[ib a1], [], rfl, rfl, rfl⟩⟩, ⟨[ia a2, ib a0], [], rfl, ⟨[ia a2], [ib a0], rfl, rfl, ⟨[ib a0], [], rfl, rfl, rfl⟩⟩, rfl⟩⟩⟩⟩)) ?_)
      intro t9 w hS
      have hC := hC.again ⟨_, _, hS⟩
      refine ⟨hC, ?_⟩
      refine ED.quick hN hF hC [18] [14] 0 [(14, sv (some ⟨t9, 0, none⟩) 4 a9)] (bm 19 524287) (by kernel_rfl) (by kernel_rfl) ?_
      refine ED.done (by kernel_rfl) ?_
      refine EQ.to ?_
      refine EQ.keep [14] [(14, sv (some ⟨t9, 0, none⟩) 4 a9)] (by kernel_rfl) ?_
      exact fun a ha => ⟨(some ⟨t9, 0, none⟩), 4, (some ⟨o7, 0, none⟩), 6, ha, (hS.re [1, 1] [] rfl (sub_self))⟩
   ·refine EO.lit hS (Kd.int .i64) 3 39 6 #[(0, ia 4), (1, ia 5), (2, ia 6), (3, ia 7), (4, ia 8), (5, ia 9)] [ia 4, ia 5, ia 6, ia 7, ia 8, ia 9] a7 36 (by kernel_rfl) (by kernel_rfl) (by kernel_rfl) (fun _ => (by kernel_rfl)) (by rw [n5]; rfl) (by kernel_rfl) (fun w G hr => (by rw [n5]; exact ⟨[ia 4], [ia 5, ia 6, ia 7, ia 8, ia 9], rfl, rfl, ⟨[ia 5], [ia 6, ia 7, ia 8, ia 9], rfl, rfl, ⟨[ia 6], [ia 7, ia 8, ia 9], rfl, rfl, ⟨[ia 7], [ia 8, ia 9], rfl, rfl, ⟨[ia 8], [ia 9], rfl, rfl, ⟨[ia 9], [], rfl, rfl, rfl⟩⟩⟩⟩⟩⟩)) ?_
    intro i8 w hS
    have hC := hC.again ⟨_, _, hS⟩
    refine ⟨hC, ?_⟩
    refine ED.at' (bm 19 58299) (by kernel_rfl) ?_
    refine ED.Y hN hF hC 10 7 (bm 19 59323) (by kernel_rfl) (by kernel_rfl) rfl (fun _ _ _ hS => YO.idx 39 1 ⟨i8, 0, none⟩ a7.length 6 .u8 (Int.tmod a51 6) 39 (by kernel_rfl) (by kernel_rfl) (by kernel_rfl) (by kernel_rfl) c1 c2) ?_
    refine ED.two 2 11 6 (by kernel_rfl) (by kernel_rfl) ?_ ?_
    ·have hq := confidantseat_in.calls x9 hS
     refine EO.callD 41 [ia 1, ia (IntKind.i64.wrap a51)] _ 31 (by kernel_rfl) (by kernel_rfl) (by kernel_rfl) hq ?_
     rintro v w ⟨rfl, hS⟩
     have hC := hC.again ⟨_, _, hS⟩
     refine ⟨hC, ?_⟩
     refine ED.at' (bm 19 59327) (by kernel_rfl) ?_
     refine ED.two 6 11 5 (by kernel_rfl) (by kernel_rfl) ?_ ?_
     ·have hq := confidantseat_in.calls n2 hS
      refine EO.callD 41 [ia 1, ia (IntKind.i64.wrap (Int.tmod a52 3))] _ 35 (by kernel_rfl) (by kernel_rfl) (by kernel_rfl) hq ?_
      rintro v w ⟨rfl, hS⟩
      have hC := hC.again ⟨_, _, hS⟩
      refine ⟨hC, ?_⟩
      refine ED.at' (bm 19 59391) (by kernel_rfl) ?_
      refine ED.one 11 4 (bm 19 61439) (by kernel_rfl) (by kernel_rfl) (by kernel_rfl) (EO.Y (YO.loadEl hS (Kd.int .i64) ⟨i8, 0, none⟩ 6 a7 (Rd.own 0 3 rfl) 0 (encI .i64) encI_of (Int.tmod a51 6) c1 c2 3 1 0 1 rfl (ia (a7.getD (Int.tmod a51 6).toNat 0)) 40 (by kernel_rfl) (by kernel_rfl) (by kernel_rfl) (by kernel_rfl)) ?_)
      have hC := hC.again ⟨_, _, hS⟩
      refine ⟨hC, ?_⟩
      have hq := confidantseat_in.calls n3 hS
      refine ED.one 12 3 (bm 19 65535) (by kernel_rfl) (by kernel_rfl) (by kernel_rfl) (EO.callD 41 [ia (a7.getD (Int.tmod a51 6).toNat 0), ia 0] _ 41 (by kernel_rfl) (by kernel_rfl) (by kernel_rfl) hq ?_)
      rintro v w ⟨rfl, hS⟩
      have hC := hC.again ⟨_, _, hS⟩
      refine ⟨hC, ?_⟩
      have hq := confidantseat_in.calls n4 hS
      refine ED.one 16 2 (bm 19 131071) (by kernel_rfl) (by kernel_rfl) (by kernel_rfl) (EO.callD 41 [ia 13, ia (IntKind.i64.wrap (Int.tmod a52 4))] _ 45 (by kernel_rfl) (by kernel_rfl) (by kernel_rfl) hq ?_)
      rintro v w ⟨rfl, hS⟩
      have hC := hC.again ⟨_, _, hS⟩
      refine ⟨hC, ?_⟩
      refine ED.one 17 1 (bm 19 262143) (by kernel_rfl) (by kernel_rfl) (by kernel_rfl) (EO.lit hS kS32 32 29 4 #[(0, ag [ia a8, ib a5]), (1, ag [ia a6, ib a3]), (2, ag [ia a4, ib a1]), (3, ag [ia a2, ib a0])] [ia a8, ib a5, ia a6, ib a3, ia a4, ib a1, ia a2, ib a0] a9 46 (by kernel_rfl) (by kernel_rfl) (by kernel_rfl) (fun _ => (by kernel_rfl)) (by rw [b0]; rfl) (by kernel_rfl) (fun w G hr => (by rw [b0]; exact ⟨[ia a8, ib a5], [ia a6, ib a3, ia a4, ib a1, ia a2, ib a0], rfl, ⟨[ia a8], [ib a5], rfl, rfl, ⟨[ib a5], [], rfl, rfl, rfl⟩⟩, ⟨[ia a6, ib a3], [ia a4, ib a1, ia a2, ib a0], rfl, ⟨[ia a6], [ib a3], rfl, rfl, ⟨[ib a3], [], rfl, rfl, rfl⟩⟩, ⟨[ia a4, ib a1], [ia a2, ib a0], rfl, ⟨[ia a4], [ib a1], rfl, rfl, ⟨[ib a1], [], rfl, rfl, rfl⟩⟩, ⟨[ia a2, ib a0], [], rfl, ⟨[ia a2], [ib a0], rfl, rfl, ⟨[ib a0], [], rfl, rfl, rfl⟩⟩, rfl⟩⟩⟩⟩)) ?_)
      intro u0 w hS
      have hC := hC.again ⟨_, _, hS⟩
      refine ⟨hC, ?_⟩
      refine ED.quick hN hF hC [18] [14] 0 [(14, sv (some ⟨u0, 0, none⟩) 4 a9)] (bm 19 524287) (by kernel_rfl) (by kernel_rfl) ?_
      refine ED.done (by kernel_rfl) ?_
      refine EQ.to ?_
      refine EQ.keep [14] [(14, sv (some ⟨u0, 0, none⟩) 4 a9)] (by kernel_rfl) ?_
      exact fun a ha => ⟨(some ⟨u0, 0, none⟩), 4, (some ⟨i8, 0, none⟩), 6, ha, (hS.re [1, 1] [] rfl (sub_self))⟩
     ·refine EO.Y (YO.loadEl hS (Kd.int .i64) ⟨i8, 0, none⟩ 6 a7 (Rd.own 0 3 rfl) 0 (encI .i64) encI_of (Int.tmod a51 6) c1 c2 3 1 0 1 rfl (ia (a7.getD (Int.tmod a51 6).toNat 0)) 40 (by kernel_rfl) (by kernel_rfl) (by kernel_rfl) (by kernel_rfl)) ?_
      have hC := hC.again ⟨_, _, hS⟩
      refine ⟨hC, ?_⟩
      refine ED.at' (bm 19 61375) (by kernel_rfl) ?_
      have hq := confidantseat_in.calls n2 hS
      refine ED.one 6 4 (bm 19 61439) (by kernel_rfl) (by kernel_rfl) (by kernel_rfl) (EO.callD 41 [ia 1, ia (IntKind.i64.wrap (Int.tmod a52 3))] _ 35 (by kernel_rfl) (by kernel_rfl) (by kernel_rfl) hq ?_)
      rintro v w ⟨rfl, hS⟩
      have hC := hC.again ⟨_, _, hS⟩
      refine ⟨hC, ?_⟩
      have hq := confidantseat_in.calls n3 hS
      refine ED.one 12 3 (bm 19 65535) (by kernel_rfl) (by kernel_rfl) (by kernel_rfl) (EO.callD 41 [ia (a7.getD (Int.tmod a51 6).toNat 0), ia 0] _ 41 (by kernel_rfl) (by kernel_rfl) (by kernel_rfl) hq ?_)
      rintro v w ⟨rfl, hS⟩
      have hC := hC.again ⟨_, _, hS⟩
      refine ⟨hC, ?_⟩
      have hq := confidantseat_in.calls n4 hS
      refine ED.one 16 2 (bm 19 131071) (by kernel_rfl) (by kernel_rfl) (by kernel_rfl) (EO.callD 41 [ia 13, ia (IntKind.i64.wrap (Int.tmod a52 4))] _ 45 (by kernel_rfl) (by kernel_rfl) (by kernel_rfl) hq ?_)
      rintro v w ⟨rfl, hS⟩
      have hC := hC.again ⟨_, _, hS⟩
      refine ⟨hC, ?_⟩
      refine ED.one 17 1 (bm 19 262143) (by kernel_rfl) (by kernel_rfl) (by kernel_rfl) (EO.lit hS kS32 32 29 4 #[(0, ag [ia a8, ib a5]), (1, ag [ia a6, ib a3]), (2, ag [ia a4, ib a1]), (3, ag [ia a2, ib a0])] [ia a8, ib a5, ia a6, ib a3, ia a4, ib a1, ia a2, ib a0] a9 46 (by kernel_rfl) (by kernel_rfl) (by kernel_rfl) (fun _ => (by kernel_rfl)) (by rw [b0]; rfl) (by kernel_rfl) (fun w G hr => (by rw [b0]; exact ⟨[ia a8, ib a5], [ia a6, ib a3, ia a4, ib a1, ia a2, ib a0], rfl, ⟨[ia a8], [ib a5], rfl, rfl, ⟨[ib a5], [], rfl, rfl, rfl⟩⟩, ⟨[ia a6, ib a3], [ia a4, ib a1, ia a2, ib a0], rfl, ⟨[ia a6], [ib a3], rfl, rfl, ⟨[ib a3], [], rfl, rfl, rfl⟩⟩, ⟨[ia a4, ib a1], [ia a2, ib a0], rfl, ⟨[ia a4], [ib a1], rfl, rfl, ⟨[ib a1], [], rfl, rfl, rfl⟩⟩, ⟨[ia a2, ib a0], [], rfl, ⟨[ia a2], [ib a0], rfl, rfl, ⟨[ib a0], [], rfl, rfl, rfl⟩⟩, rfl⟩⟩⟩⟩)) ?_)
      intro u1 w hS
      have hC := hC.again ⟨_, _, hS⟩
      refine ⟨hC, ?_⟩
      refine ED.quick hN hF hC [18] [14] 0 [(14, sv (some ⟨u1, 0, none⟩) 4 a9)] (bm 19 524287) (by kernel_rfl) (by kernel_rfl) ?_
      refine ED.done (by kernel_rfl) ?_
      refine EQ.to ?_
      refine EQ.keep [14] [(14, sv (some ⟨u1, 0, none⟩) 4 a9)] (by kernel_rfl) ?_
      exact fun a ha => ⟨(some ⟨u1, 0, none⟩), 4, (some ⟨i8, 0, none⟩), 6, ha, (hS.re [1, 1] [] rfl (sub_self))⟩
    ·refine EO.Y (YO.loadEl hS (Kd.int .i64) ⟨i8, 0, none⟩ 6 a7 (Rd.own 0 3 rfl) 0 (encI .i64) encI_of (Int.tmod a51 6) c1 c2 3 1 0 1 rfl (ia (a7.getD (Int.tmod a51 6).toNat 0)) 40 (by kernel_rfl) (by kernel_rfl) (by kernel_rfl) (by kernel_rfl)) ?_
     have hC := hC.again ⟨_, _, hS⟩
     refine ⟨hC, ?_⟩
     refine ED.at' (bm 19 61371) (by kernel_rfl) ?_
     have hq := confidantseat_in.calls x9 hS
     refine ED.one 2 5 (bm 19 61375) (by kernel_rfl) (by kernel_rfl) (by kernel_rfl) (EO.callD 41 [ia 1, ia (IntKind.i64.wrap a51)] _ 31 (by kernel_rfl) (by kernel_rfl) (by kernel_rfl) hq ?_)
     rintro v w ⟨rfl, hS⟩
     have hC := hC.again ⟨_, _, hS⟩
     refine ⟨hC, ?_⟩
     have hq := confidantseat_in.calls n2 hS
     refine ED.one 6 4 (bm 19 61439) (by kernel_rfl) (by kernel_rfl) (by kernel_rfl) (EO.callD 41 [ia 1, ia (IntKind.i64.wrap (Int.tmod a52 3))] _ 35 (by kernel_rfl) (by kernel_rfl) (by kernel_rfl) hq ?_)
     rintro v w ⟨rfl, hS⟩
     have hC := hC.again ⟨_, _, hS⟩
     refine ⟨hC, ?_⟩
     have hq := confidantseat_in.calls n3 hS
     refine ED.one 12 3 (bm 19 65535) (by kernel_rfl) (by kernel_rfl) (by kernel_rfl) (EO.callD 41 [ia (a7.getD (Int.tmod a51 6).toNat 0), ia 0] _ 41 (by kernel_rfl) (by kernel_rfl) (by kernel_rfl) hq ?_)
     rintro v w ⟨rfl, hS⟩
     have hC := hC.again ⟨_, _, hS⟩
     refine ⟨hC, ?_⟩
     have hq := confidantseat_in.calls n4 hS
     refine ED.one 16 2 (bm 19 131071) (by kernel_rfl) (by kernel_rfl) (by kernel_rfl) (EO.callD 41 [ia 13, ia (IntKind.i64.wrap (Int.tmod a52 4))] _ 45 (by kernel_rfl) (by kernel_rfl) (by kernel_rfl) hq ?_)
     rintro v w ⟨rfl, hS⟩
     have hC := hC.again ⟨_, _, hS⟩
     refine ⟨hC, ?_⟩
     refine ED.one 17 1 (bm 19 262143) (by kernel_rfl) (by kernel_rfl) (by kernel_rfl) (EO.lit hS kS32 32 29 4 #[(0, ag [ia a8, ib a5]), (1, ag [ia a6, ib a3]), (2, ag [ia a4, ib a1]), (3, ag [ia a2, ib a0])] [ia a8, ib a5, ia a6, ib a3, ia a4, ib a1, ia a2, ib a0] a9 46 (by kernel_rfl) (by kernel_rfl) (by kernel_rfl) (fun _ => (by kernel_rfl)) (by rw [b0]; rfl) (by kernel_rfl) (fun w G hr => (by rw [b0]; exact ⟨[ia a8, ib a5], [ia a6, ib a3, ia a4, ib a1, ia a2, ib a0], rfl, ⟨[ia a8], [ib a5], rfl, rfl, ⟨[ib a5], [], rfl, rfl, rfl⟩⟩, ⟨[ia a6, ib a3], [ia a4, ib a1, ia a2, ib a0], rfl, ⟨[ia a6], [ib a3], rfl, rfl, ⟨[ib a3], [], rfl, rfl, rfl⟩⟩, ⟨[ia a4, ib a1], [ia a2, ib a0], rfl, ⟨[ia a4], [ib a1], rfl, rfl, ⟨[ib a1], [], rfl, rfl, rfl⟩⟩, ⟨[ia a2, ib a0], [], rfl, ⟨[ia a2], [ib a0], rfl, rfl, ⟨[ib a0], [], rfl, rfl, rfl⟩⟩, rfl⟩⟩⟩⟩)) ?_)
     intro u2 w hS
     have hC := hC.again ⟨_, _, hS⟩
     refine ⟨hC, ?_⟩
     refine ED.quick hN hF hC [18] [14] 0 [(14, sv (some ⟨u2, 0, none⟩) 4 a9)] (bm 19 524287) (by kernel_rfl) (by kernel_rfl) ?_
     refine ED.done (by kernel_rfl) ?_
     refine EQ.to ?_
     refine EQ.keep [14] [(14, sv (some ⟨u2, 0, none⟩) 4 a9)] (by kernel_rfl) ?_
     exact fun a ha => ⟨(some ⟨u2, 0, none⟩), 4, (some ⟨i8, 0, none⟩), 6, ha, (hS.re [1, 1] [] rfl (sub_self))⟩
  ·obtain ⟨o5, o6, y1, y3, ha, hS⟩ := hI
   refine EQ.at ?_ a ha
   clear ha a
   refine EQ.code ?_
   refine EW.ret (by kernel_rfl) ?_
   refine EQ.ret ?_
   refine EQ.ret ?_
   obtain rfl := Option.some.inj H
   exact EQ.leave (sv o5 o6 a9) (by kernel_rfl) ⟨_, rfl, o5, o6, rfl, (hS.re [0] [1] rfl (sub_self))⟩
 rw [if_neg v6] at H
 refine EW.sq (by kernel_rfl) ?_
 refine EW.rg (by kernel_rfl) ?_
 refine EL.quick 2 [1, 2, 5, 6, 15, 16, 26, 47] [(1, ig a51), (2, ig a52), (5, ia a55), (6, .bool (a56)), (15, ia (Int.tmod (IntKind.i64.wrap a51) a53)), (16, ia (Int.tmod (IntKind.i64.wrap a52) a54)), (26, ig (Int.tmod a50 16)), (47, .bool (decide ((Int.tmod a50 16) = 1)))] (by kernel_rfl) ?_
 refine EL.done (by kernel_rfl) ?_
 refine EQ.code ?_
 refine EW.cdP ((Int.tmod a50 16) = 1) (by kernel_rfl) (by kernel_rfl) (fun v7 => ?_) (fun v7 => ?_)
 ·rw [if_pos v7] at H
  refine EW.sq (by kernel_rfl) ?_
  refine EW.rg (by kernel_rfl) ?_
  refine EL.quick 1 [1, 2, 16, 49] [(1, ig a51), (2, ig a52), (16, ia (Int.tmod (IntKind.i64.wrap a52) a54)), (49, ia (Int.tmod (IntKind.i64.wrap a51) a53))] (by kernel_rfl) ?_
  obtain ⟨c9, b5, C0, H⟩ := b2_out H
  have hq := confidantseat_in.calls C0 hS
  refine EL.of (EO.callD 41 [ia 1, ia (Int.tmod (IntKind.i64.wrap a51) a53)] _ 50 (by kernel_rfl) (by kernel_rfl) (by kernel_rfl) hq ?_)
  rintro v w ⟨rfl, hS⟩
  refine EL.quick 3 [1, 16, 50, 53] [(1, ig a51), (16, ia (Int.tmod (IntKind.i64.wrap a52) a54)), (50, ag [ia c9, ib b5]), (53, ia (IntKind.i64.wrap (Int.tmod a52 4)))] (by kernel_rfl) ?_
  obtain ⟨d0, b6, C1, H⟩ := b2_out H
  have hq := confidantseat_in.calls C1 hS
  refine EL.of (EO.callD 41 [ia 12, ia (IntKind.i64.wrap (Int.tmod a52 4))] _ 54 (by kernel_rfl) (by kernel_rfl) (by kernel_rfl) hq ?_)
  rintro v w ⟨rfl, hS⟩
  refine EL.quick 1 [1, 50, 54, 55] [(1, ig a51), (50, ag [ia c9, ib b5]), (54, ag [ia d0, ib b6]), (55, ia (Int.tmod (IntKind.i64.wrap a52) a54))] (by kernel_rfl) ?_
  obtain ⟨d1, b7, C2, H⟩ := b2_out H
  have hq := confidantseat_in.calls C2 hS
  refine EL.of (EO.callD 41 [ia 20, ia (Int.tmod (IntKind.i64.wrap a52) a54)] _ 56 (by kernel_rfl) (by kernel_rfl) (by kernel_rfl) hq ?_)
  rintro v w ⟨rfl, hS⟩
  obtain ⟨b8, b1, C3, H⟩ := b2_out H
  have hq := confidantseat_in.calls C3 hS
  refine EL.of (EO.callD 41 [ia 21, ia 0] _ 57 (by kernel_rfl) (by kernel_rfl) (by kernel_rfl) hq ?_)
  rintro v w ⟨rfl, hS⟩
  refine EL.quick 3 [50, 54, 56, 57, 60] [(50, ag [ia c9, ib b5]), (54, ag [ia d0, ib b6]), (56, ag [ia d1, ib b7]), (57, ag [ia b8, ib b1]), (60, ia (IntKind.i64.wrap (Int.tmod a51 4)))] (by kernel_rfl) ?_
  obtain ⟨b9, b3, C4, H⟩ := b2_out H
  have hq := confidantseat_in.calls C4 hS
  refine EL.of (EO.callD 41 [ia 13, ia (IntKind.i64.wrap (Int.tmod a51 4))] _ 61 (by kernel_rfl) (by kernel_rfl) (by kernel_rfl) hq ?_)
  rintro v w ⟨rfl, hS⟩
  obtain ⟨p4, z0, H⟩ := lt_out H
  refine EL.of (EO.lit hS kS32 32 29 5 #[(0, ag [ia c9, ib b5]), (1, ag [ia d0, ib b6]), (2, ag [ia d1, ib b7]), (3, ag [ia b8, ib b1]), (4, ag [ia b9, ib b3])] [ia c9, ib b5, ia d0, ib b6, ia d1, ib b7, ia b8, ib b1, ia b9, ib b3] p4 62 (by kernel_rfl) (by kernel_rfl) (by kernel_rfl) (fun _ => (by kernel_rfl)) (by rw [z0]; rfl) (by kernel_rfl) (fun w G hr => (by rw [z0]; exact ⟨[ia c9, ib b5], [ia d0, ib b6, ia d1, ib b7, ia b8, ib b1, ia b9, ib b3], rfl, ⟨[ia c9], [ib b5], rfl, rfl, ⟨[ib b5], [], rfl, rfl, rfl⟩⟩, ⟨[ia d0, ib b6], [ia d1, ib b7, ia b8, ib b1, ia b9, ib b3], rfl, ⟨[ia d0], [ib b6], rfl, rfl, ⟨[ib b6], [], rfl, rfl, rfl⟩⟩, ⟨[ia d1, ib b7], [ia b8, ib b1, ia b9, ib b3], rfl, ⟨[ia d1], [ib b7], rfl, rfl, ⟨[ib b7], [], rfl, rfl, rfl⟩⟩, ⟨[ia b8, ib b1], [ia b9, ib b3], rfl, ⟨[ia b8], [ib b1], rfl, rfl, ⟨[ib b1], [], rfl, rfl, rfl⟩⟩, ⟨[ia b9, ib b3], [], rfl, ⟨[ia b9], [ib b3], rfl, rfl, ⟨[ib b3], [], rfl, rfl, rfl⟩⟩, rfl⟩⟩⟩⟩⟩)) ?_)
  intro u3 w hS
  refine EL.quick 1 [14] [(14, sv (some ⟨u3, 0, none⟩) 5 p4)] (by kernel_rfl) ?_
  refine EL.done (by kernel_rfl) ?_
  refine EQ.code ?_
  refine EW.ret (by kernel_rfl) ?_
  refine EQ.ret ?_
  refine EQ.ret ?_
  obtain rfl := Option.some.inj H
  exact EQ.leave (sv (some ⟨u3, 0, none⟩) 5 p4) (by kernel_rfl) ⟨_, rfl, (some ⟨u3, 0, none⟩), 5, rfl, (hS.re [0] [] rfl (sub_self))⟩
 rw [if_neg v7] at H
 refine EW.sq (by kernel_rfl) ?_
 refine EW.rg (by kernel_rfl) ?_
 refine EL.quick 2 [1, 2, 5, 6, 15, 16, 26, 63] [(1, ig a51), (2, ig a52), (5, ia a55), (6, .bool (a56)), (15, ia (Int.tmod (IntKind.i64.wrap a51) a53)), (16, ia (Int.tmod (IntKind.i64.wrap a52) a54)), (26, ig (Int.tmod a50 16)), (63, .bool (decide ((Int.tmod a50 16) = 2)))] (by kernel_rfl) ?_
 refine EL.done (by kernel_rfl) ?_
 refine EQ.code ?_
 refine EW.cdP ((Int.tmod a50 16) = 2) (by kernel_rfl) (by kernel_rfl) (fun v8 => ?_) (fun v8 => ?_)
 ·rw [if_pos v8] at H
  refine EW.sq (by kernel_rfl) ?_
  refine EW.rg (by kernel_rfl) ?_
  refine EL.quick 1 [2, 16, 65] [(2, ig a52), (16, ia (Int.tmod (IntKind.i64.wrap a52) a54)), (65, ia (Int.tmod (IntKind.i64.wrap a51) a53))] (by kernel_rfl) ?_
  obtain ⟨f5, d2, C5, H⟩ := b2_out H
  have hq := confidantseat_in.calls C5 hS
  refine EL.of (EO.callD 41 [ia 1, ia (Int.tmod (IntKind.i64.wrap a51) a53)] _ 66 (by kernel_rfl) (by kernel_rfl) (by kernel_rfl) hq ?_)
  rintro v w ⟨rfl, hS⟩
  refine EL.quick 2 [16, 66, 68] [(16, ia (Int.tmod (IntKind.i64.wrap a52) a54)), (66, ag [ia f5, ib d2]), (68, ia (IntKind.i64.wrap a52))] (by kernel_rfl) ?_
  obtain ⟨f6, d3, C6, H⟩ := b2_out H
  have hq := confidantseat_in.calls C6 hS
  refine EL.of (EO.callD 41 [ia 1, ia (IntKind.i64.wrap a52)] _ 69 (by kernel_rfl) (by kernel_rfl) (by kernel_rfl) hq ?_)
  rintro v w ⟨rfl, hS⟩
  refine EL.quick 1 [66, 69, 70] [(66, ag [ia f5, ib d2]), (69, ag [ia f6, ib d3]), (70, ia (Int.tmod (IntKind.i64.wrap a52) a54))] (by kernel_rfl) ?_
  obtain ⟨f7, d4, C7, H⟩ := b2_out H
  have hq := confidantseat_in.calls C7 hS
  refine EL.of (EO.callD 41 [ia 20, ia (Int.tmod (IntKind.i64.wrap a52) a54)] _ 71 (by kernel_rfl) (by kernel_rfl) (by kernel_rfl) hq ?_)
  rintro v w ⟨rfl, hS⟩
  obtain ⟨d5, c0, C8, H⟩ := b2_out H
  have hq := confidantseat_in.calls C8 hS
  refine EL.of (EO.callD 41 [ia 13, ia 3] _ 72 (by kernel_rfl) (by kernel_rfl) (by kernel_rfl) hq ?_)
  rintro v w ⟨rfl, hS⟩
  obtain ⟨p5, z1, H⟩ := lt_out H
  refine EL.of (EO.lit hS kS32 32 29 4 #[(0, ag [ia f5, ib d2]), (1, ag [ia f6, ib d3]), (2, ag [ia f7, ib d4]), (3, ag [ia d5, ib c0])] [ia f5, ib d2, ia f6, ib d3, ia f7, ib d4, ia d5, ib c0] p5 73 (by kernel_rfl) (by kernel_rfl) (by kernel_rfl) (fun _ => (by kernel_rfl)) (by rw [z1]; rfl) (by kernel_rfl) (fun w G hr => (by rw [z1]; exact ⟨[ia f5, ib d2], [ia f6, ib d3, ia f7, ib d4, ia d5, ib c0], rfl, ⟨[ia f5], [ib d2], rfl, rfl, ⟨[ib d2], [], rfl, rfl, rfl⟩⟩, ⟨[ia f6, ib d3], [ia f7, ib d4, ia d5, ib c0], rfl, ⟨[ia f6], [ib d3], rfl, rfl, ⟨[ib d3], [], rfl, rfl, rfl⟩⟩, ⟨[ia f7, ib d4], [ia d5, ib c0], rfl, ⟨[ia f7], [ib d4], rfl, rfl, ⟨[ib d4], [], rfl, rfl, rfl⟩⟩, ⟨[ia d5, ib c0], [], rfl, ⟨[ia d5], [ib c0], rfl, rfl, ⟨[ib c0], [], rfl, rfl, rfl⟩⟩, rfl⟩⟩⟩⟩)) ?_)
  intro u4 w hS
  refine EL.quick 1 [14] [(14, sv (some ⟨u4, 0, none⟩) 4 p5)] (by kernel_rfl) ?_
  refine EL.done (by kernel_rfl) ?_
  refine EQ.code ?_
  refine EW.ret (by kernel_rfl) ?_
  refine EQ.ret ?_
  refine EQ.ret ?_
  obtain rfl := Option.some.inj H
  exact EQ.leave (sv (some ⟨u4, 0, none⟩) 4 p5) (by kernel_rfl) ⟨_, rfl, (some ⟨u4, 0, none⟩), 4, rfl, (hS.re [0] [] rfl (sub_self))⟩
 rw [if_neg v8] at H
 refine EW.sq (by kernel_rfl) ?_
 refine EW.rg (by kernel_rfl) ?_
 refine EL.quick 2 [1, 2, 5, 6, 15, 26, 74] [(1, ig a51), (2, ig a52), (5, ia a55), (6, .bool (a56)), (15, ia (Int.tmod (IntKind.i64.wrap a51) a53)), (26, ig (Int.tmod a50 16)), (74, .bool (decide ((Int.tmod a50 16) = 3)))] (by kernel_rfl) ?_
 refine EL.done (by kernel_rfl) ?_
 refine EQ.code ?_
 refine EW.cdP ((Int.tmod a50 16) = 3) (by kernel_rfl) (by kernel_rfl) (fun v9 => ?_) (fun v9 => ?_)
 ·rw [if_pos v9] at H
  refine EW.sq (by kernel_rfl) ?_
  refine EW.rg (by kernel_rfl) ?_
  obtain ⟨j9, f8, C9, H⟩ := b2_out H
  have hq := confidantseat_in.calls C9 hS
  refine EL.of (EO.callD 41 [ia 12, ia 3] _ 76 (by kernel_rfl) (by kernel_rfl) (by kernel_rfl) hq ?_)
  rintro v w ⟨rfl, hS⟩
  obtain ⟨f9, d6, D0, H⟩ := b2_out H
  have hq := confidantseat_in.calls D0 hS
  refine EL.of (EO.callD 41 [ia 21, ia 0] _ 77 (by kernel_rfl) (by kernel_rfl) (by kernel_rfl) hq ?_)
  rintro v w ⟨rfl, hS⟩
  refine EL.quick 3 [76, 77, 80] [(76, ag [ia j9, ib f8]), (77, ag [ia f9, ib d6]), (80, ia (IntKind.i64.wrap (Int.tmod a51 4)))] (by kernel_rfl) ?_
  obtain ⟨g0, d7, D1, H⟩ := b2_out H
  have hq := confidantseat_in.calls D1 hS
  refine EL.of (EO.callD 41 [ia 13, ia (IntKind.i64.wrap (Int.tmod a51 4))] _ 81 (by kernel_rfl) (by kernel_rfl) (by kernel_rfl) hq ?_)
  rintro v w ⟨rfl, hS⟩
  obtain ⟨p6, z2, H⟩ := lt_out H
  refine EL.of (EO.lit hS kS32 32 29 3 #[(0, ag [ia j9, ib f8]), (1, ag [ia f9, ib d6]), (2, ag [ia g0, ib d7])] [ia j9, ib f8, ia f9, ib d6, ia g0, ib d7] p6 82 (by kernel_rfl) (by kernel_rfl) (by kernel_rfl) (fun _ => (by kernel_rfl)) (by rw [z2]; rfl) (by kernel_rfl) (fun w G hr => (by rw [z2]; exact ⟨[ia j9, ib f8], [ia f9, ib d6, ia g0, ib d7], rfl, ⟨[ia j9], [ib f8], rfl, rfl, ⟨[ib f8], [], rfl, rfl, rfl⟩⟩, ⟨[ia f9, ib d6], [ia g0, ib d7], rfl, ⟨[ia f9], [ib d6], rfl, rfl, ⟨[ib d6], [], rfl, rfl, rfl⟩⟩, ⟨[ia g0, ib d7], [], rfl, ⟨[ia g0], [ib d7], rfl, rfl, ⟨[ib d7], [], rfl, rfl, rfl⟩⟩, rfl⟩⟩⟩)) ?_)
  intro u5 w hS
  refine EL.quick 1 [14] [(14, sv (some ⟨u5, 0, none⟩) 3 p6)] (by kernel_rfl) ?_
  refine EL.done (by kernel_rfl) ?_
  refine EQ.code ?_
  refine EW.ret (by kernel_rfl) ?_
  refine EQ.ret ?_
  refine EQ.ret ?_
  obtain rfl := Option.some.inj H
  exact EQ.leave (sv (some ⟨u5, 0, none⟩) 3 p6) (by kernel_rfl) ⟨_, rfl, (some ⟨u5, 0, none⟩), 3, rfl, (hS.re [0] [] rfl (sub_self))⟩
 rw [if_neg v9] at H
 refine EW.sq (by kernel_rfl) ?_
 refine EW.rg (by kernel_rfl) ?_
 refine EL.quick 2 [1, 2, 5, 6, 15, 26, 83] [(1, ig a51), (2, ig a52), (5, ia a55), (6, .bool (a56)), (15, ia (Int.tmod (IntKind.i64.wrap a51) a53)), (26, ig (Int.tmod a50 16)), (83, .bool (decide ((Int.tmod a50 16) = 4)))] (by kernel_rfl) ?_
 refine EL.done (by kernel_rfl) ?_
 refine EQ.code ?_
 refine EW.cdP ((Int.tmod a50 16) = 4) (by kernel_rfl) (by kernel_rfl) (fun x0 => ?_) (fun x0 => ?_)
 ·rw [if_pos x0] at H
  refine EW.sq (by kernel_rfl) ?_
  refine EW.rg (by kernel_rfl) ?_
  refine EL.quick 3 [1, 15, 87] [(1, ig a51), (15, ia (Int.tmod (IntKind.i64.wrap a51) a53)), (87, ia (IntKind.i64.wrap (Int.tmod a52 4)))] (by kernel_rfl) ?_
  obtain ⟨g1, d8, D2, H⟩ := b2_out H
  have hq := confidantseat_in.calls D2 hS
  refine EL.of (EO.callD 41 [ia 1, ia (IntKind.i64.wrap (Int.tmod a52 4))] _ 88 (by kernel_rfl) (by kernel_rfl) (by kernel_rfl) hq ?_)
  rintro v w ⟨rfl, hS⟩
  refine EL.quick 1 [1, 88, 89] [(1, ig a51), (88, ag [ia g1, ib d8]), (89, ia (Int.tmod (IntKind.i64.wrap a51) a53))] (by kernel_rfl) ?_
  obtain ⟨g2, d9, D3, H⟩ := b2_out H
  have hq := confidantseat_in.calls D3 hS
  refine EL.of (EO.callD 41 [ia 16, ia (Int.tmod (IntKind.i64.wrap a51) a53)] _ 90 (by kernel_rfl) (by kernel_rfl) (by kernel_rfl) hq ?_)
  rintro v w ⟨rfl, hS⟩
  refine EL.quick 3 [88, 90, 93] [(88, ag [ia g1, ib d8]), (90, ag [ia g2, ib d9]), (93, ia (IntKind.i64.wrap (Int.tmod a51 3)))] (by kernel_rfl) ?_
  obtain ⟨g3, e0, D4, H⟩ := b2_out H
  have hq := confidantseat_in.calls D4 hS
  refine EL.of (EO.callD 41 [ia 13, ia (IntKind.i64.wrap (Int.tmod a51 3))] _ 94 (by kernel_rfl) (by kernel_rfl) (by kernel_rfl) hq ?_)
  rintro v w ⟨rfl, hS⟩
  obtain ⟨p7, z3, H⟩ := lt_out H
  refine EL.of (EO.lit hS kS32 32 29 3 #[(0, ag [ia g1, ib d8]), (1, ag [ia g2, ib d9]), (2, ag [ia g3, ib e0])] [ia g1, ib d8, ia g2, ib d9, ia g3, ib e0] p7 95 (by kernel_rfl) (by kernel_rfl) (by kernel_rfl) (fun _ => (by kernel_rfl)) (by rw [z3]; rfl) (by kernel_rfl) (fun w G hr => (by rw [z3]; exact ⟨[ia g1, ib d8], [ia g2, ib d9, ia g3, ib e0], rfl, ⟨[ia g1], [ib d8], rfl, rfl, ⟨[ib d8], [], rfl, rfl, rfl⟩⟩, ⟨[ia g2, ib d9], [ia g3, ib e0], rfl, ⟨[ia g2], [ib d9], rfl, rfl, ⟨[ib d9], [], rfl, rfl, rfl⟩⟩, ⟨[ia g3, ib e0], [], rfl, ⟨[ia g3], [ib e0], rfl, rfl, ⟨[ib e0], [], rfl, rfl, rfl⟩⟩, rfl⟩⟩⟩)) ?_)
  intro u6 w hS
  refine EL.quick 1 [14] [(14, sv (some ⟨u6, 0, none⟩) 3 p7)] (by kernel_rfl) ?_
  refine EL.done (by kernel_rfl) ?_
  refine EQ.code ?_
  refine EW.ret (by kernel_rfl) ?_
  refine EQ.ret ?_
  refine EQ.ret ?_
  obtain rfl := Option.some.inj H
  exact EQ.leave (sv (some ⟨u6, 0, none⟩) 3 p7) (by kernel_rfl) ⟨_, rfl, (some ⟨u6, 0, none⟩), 3, rfl, (hS.re [0] [] rfl (sub_self))⟩
 rw [if_neg x0] at H
 refine EW.sq (by kernel_rfl) ?_
 refine EW.rg (by kernel_rfl) ?_
 refine EL.quick 2 [1, 2, 5, 6, 15, 26, 96] [(1, ig a51), (2, ig a52), (5, ia a55), (6, .bool (a56)), (15, ia (Int.tmod (IntKind.i64.wrap a51) a53)), (26, ig (Int.tmod a50 16)), (96, .bool (decide ((Int.tmod a50 16) = 5)))] (by kernel_rfl) ?_
 refine EL.done (by kernel_rfl) ?_
 refine EQ.code ?_
 refine EW.cdP ((Int.tmod a50 16) = 5) (by kernel_rfl) (by kernel_rfl) (fun x1 => ?_) (fun x1 => ?_)
 ·rw [if_pos x1] at H
  refine EW.sq (by kernel_rfl) ?_
  refine EW.rg (by kernel_rfl) ?_
  refine EL.quick 3 [15, 100] [(15, ia (Int.tmod (IntKind.i64.wrap a51) a53)), (100, ia (IntKind.i64.wrap (Int.tmod a51 4)))] (by kernel_rfl) ?_
  obtain ⟨m0, g4, D5, H⟩ := b2_out H
  have hq := confidantseat_in.calls D5 hS
  refine EL.of (EO.callD 41 [ia 12, ia (IntKind.i64.wrap (Int.tmod a51 4))] _ 101 (by kernel_rfl) (by kernel_rfl) (by kernel_rfl) hq ?_)
  rintro v w ⟨rfl, hS⟩
  refine EL.quick 1 [101, 102] [(101, ag [ia m0, ib g4]), (102, ia (Int.tmod (IntKind.i64.wrap a51) a53))] (by kernel_rfl) ?_
  obtain ⟨m1, g5, D6, H⟩ := b2_out H
  have hq := confidantseat_in.calls D6 hS
  refine EL.of (EO.callD 41 [ia 17, ia (Int.tmod (IntKind.i64.wrap a51) a53)] _ 103 (by kernel_rfl) (by kernel_rfl) (by kernel_rfl) hq ?_)
  rintro v w ⟨rfl, hS⟩
  obtain ⟨g6, e1, D7, H⟩ := b2_out H
  have hq := confidantseat_in.calls D7 hS
  refine EL.of (EO.callD 41 [ia 13, ia 2] _ 104 (by kernel_rfl) (by kernel_rfl) (by kernel_rfl) hq ?_)
  rintro v w ⟨rfl, hS⟩
  obtain ⟨p8, z4, H⟩ := lt_out H
  refine EL.of (EO.lit hS kS32 32 29 3 #[(0, ag [ia m0, ib g4]), (1, ag [ia m1, ib g5]), (2, ag [ia g6, ib e1])] [ia m0, ib g4, ia m1, ib g5, ia g6, ib e1] p8 105 (by kernel_rfl) (by kernel_rfl) (by kernel_rfl) (fun _ => (by kernel_rfl)) (by rw [z4]; rfl) (by kernel_rfl) (fun w G hr => (by rw [z4]; exact ⟨[ia m0, ib g4], [ia m1, ib g5, ia g6, ib e1], rfl, ⟨[ia m0], [ib g4], rfl, rfl, ⟨[ib g4], [], rfl, rfl, rfl⟩⟩, ⟨[ia m1, ib g5], [ia g6, ib e1], rfl, ⟨[ia m1], [ib g5], rfl, rfl, ⟨[ib g5], [], rfl, rfl, rfl⟩⟩, ⟨[ia g6, ib e1], [], rfl, ⟨[ia g6], [ib e1], rfl, rfl, ⟨[ib e1], [], rfl, rfl, rfl⟩⟩, rfl⟩⟩⟩)) ?_)
  intro u7 w hS
  refine EL.quick 1 [14] [(14, sv (some ⟨u7, 0, none⟩) 3 p8)] (by kernel_rfl) ?_
  refine EL.done (by kernel_rfl) ?_
  refine EQ.code ?_
  refine EW.ret (by kernel_rfl) ?_
  refine EQ.ret ?_
  refine EQ.ret ?_
  obtain rfl := Option.some.inj H
  exact EQ.leave (sv (some ⟨u7, 0, none⟩) 3 p8) (by kernel_rfl) ⟨_, rfl, (some ⟨u7, 0, none⟩), 3, rfl, (hS.re [0] [] rfl (sub_self))⟩
 rw [if_neg x1] at H
 refine EW.sq (by kernel_rfl) ?_
 refine EW.rg (by kernel_rfl) ?_
 refine EL.quick 2 [1, 2, 5, 6, 15, 26, 106] [(1, ig a51), (2, ig a52), (5, ia a55), (6, .bool (a56)), (15, ia (Int.tmod (IntKind.i64.wrap a51) a53)), (26, ig (Int.tmod a50 16)), (106, .bool (decide ((Int.tmod a50 16) = 6)))] (by kernel_rfl) ?_
 refine EL.done (by kernel_rfl) ?_
 refine EQ.code ?_
 refine EW.cdP ((Int.tmod a50 16) = 6) (by kernel_rfl) (by kernel_rfl) (fun x2 => ?_) (fun x2 => ?_)
 ·rw [if_pos x2] at H
  refine EW.sq (by kernel_rfl) ?_
  refine EW.rg (by kernel_rfl) ?_
  obtain ⟨m2, g7, D8, H⟩ := b2_out H
  have hq := confidantseat_in.calls D8 hS
  refine EL.of (EO.callD 41 [ia 12, ia 2] _ 108 (by kernel_rfl) (by kernel_rfl) (by kernel_rfl) hq ?_)
  rintro v w ⟨rfl, hS⟩
  obtain ⟨g8, e2, D9, H⟩ := b2_out H
  have hq := confidantseat_in.calls D9 hS
  refine EL.of (EO.callD 41 [ia 18, ia 0] _ 109 (by kernel_rfl) (by kernel_rfl) (by kernel_rfl) hq ?_)
  rintro v w ⟨rfl, hS⟩
  refine EL.quick 3 [108, 109, 112] [(108, ag [ia m2, ib g7]), (109, ag [ia g8, ib e2]), (112, ia (IntKind.i64.wrap (Int.tmod a52 4)))] (by kernel_rfl) ?_
  obtain ⟨g9, e3, E0, H⟩ := b2_out H
  have hq := confidantseat_in.calls E0 hS
  refine EL.of (EO.callD 41 [ia 13, ia (IntKind.i64.wrap (Int.tmod a52 4))] _ 113 (by kernel_rfl) (by kernel_rfl) (by kernel_rfl) hq ?_)
  rintro v w ⟨rfl, hS⟩
  obtain ⟨p9, z5, H⟩ := lt_out H
  refine EL.of (EO.lit hS kS32 32 29 3 #[(0, ag [ia m2, ib g7]), (1, ag [ia g8, ib e2]), (2, ag [ia g9, ib e3])] [ia m2, ib g7, ia g8, ib e2, ia g9, ib e3] p9 114 (by kernel_rfl) (by kernel_rfl) (by kernel_rfl) (fun _ => (by kernel_rfl)) (by rw [z5]; rfl) (by kernel_rfl) (fun w G hr => (by rw [z5]; exact ⟨[ia m2, ib g7], [ia g8, ib e2, ia g9, ib e3], rfl, ⟨[ia m2], [ib g7], rfl, rfl, ⟨[ib g7], [], rfl, rfl, rfl⟩⟩, ⟨[ia g8, ib e2], [ia g9, ib e3], rfl, ⟨[ia g8], [ib e2], rfl, rfl, ⟨[ib e2], [], rfl, rfl, rfl⟩⟩, ⟨[ia g9, ib e3], [], rfl, ⟨[ia g9], [ib e3], rfl, rfl, ⟨[ib e3], [], rfl, rfl, rfl⟩⟩, rfl⟩⟩⟩)) ?_)
  intro u9 w hS
  refine EL.quick 1 [14] [(14, sv (some ⟨u9, 0, none⟩) 3 p9)] (by kernel_rfl) ?_
  refine EL.done (by kernel_rfl) ?_
  refine EQ.code ?_
  refine EW.ret (by kernel_rfl) ?_
  refine EQ.ret ?_
  refine EQ.ret ?_
  obtain rfl := Option.some.inj H
  exact EQ.leave (sv (some ⟨u9, 0, none⟩) 3 p9) (by kernel_rfl) ⟨_, rfl, (some ⟨u9, 0, none⟩), 3, rfl, (hS.re [0] [] rfl (sub_self))⟩
 rw [if_neg x2] at H
 refine EW.sq (by kernel_rfl) ?_
 refine EW.rg (by kernel_rfl) ?_
 refine EL.quick 2 [1, 2, 5, 6, 15, 26, 115] [(1, ig a51), (2, ig a52), (5, ia a55), (6, .bool (a56)), (15, ia (Int.tmod (IntKind.i64.wrap a51) a53)), (26, ig (Int.tmod a50 16)), (115, .bool (decide ((Int.tmod a50 16) = 7)))] (by kernel_rfl) ?_
 refine EL.done (by kernel_rfl) ?_
 refine EQ.code ?_
 refine EW.cdP ((Int.tmod a50 16) = 7) (by kernel_rfl) (by kernel_rfl) (fun x3 => ?_) (fun x3 => ?_)
 ·rw [if_pos x3] at H
  refine EW.sq (by kernel_rfl) ?_
  refine EW.rg (by kernel_rfl) ?_
  obtain ⟨m3, i0, E1, H⟩ := b2_out H
  have hq := confidantseat_in.calls E1 hS
  refine EL.of (EO.callD 41 [ia 12, ia 2] _ 117 (by kernel_rfl) (by kernel_rfl) (by kernel_rfl) hq ?_)
  rintro v w ⟨rfl, hS⟩
  refine EL.quick 3 [117, 120] [(117, ag [ia m3, ib i0]), (120, ia (IntKind.i64.wrap (Int.tmod a52 4)))] (by kernel_rfl) ?_
  obtain ⟨m4, i1, E2, H⟩ := b2_out H
  have hq := confidantseat_in.calls E2 hS
  refine EL.of (EO.callD 41 [ia 12, ia (IntKind.i64.wrap (Int.tmod a52 4))] _ 121 (by kernel_rfl) (by kernel_rfl) (by kernel_rfl) hq ?_)
  rintro v w ⟨rfl, hS⟩
  obtain ⟨i2, e4, E3, H⟩ := b2_out H
  have hq := confidantseat_in.calls E3 hS
  refine EL.of (EO.callD 41 [ia 19, ia 0] _ 122 (by kernel_rfl) (by kernel_rfl) (by kernel_rfl) hq ?_)
  rintro v w ⟨rfl, hS⟩
  obtain ⟨q0, z6, H⟩ := lt_out H
  refine EL.of (EO.lit hS kS32 32 29 3 #[(0, ag [ia m3, ib i0]), (1, ag [ia m4, ib i1]), (2, ag [ia i2, ib e4])] [ia m3, ib i0, ia m4, ib i1, ia i2, ib e4] q0 123 (by kernel_rfl) (by kernel_rfl) (by kernel_rfl) (fun _ => (by kernel_rfl)) (by rw [z6]; rfl) (by kernel_rfl) (fun w G hr => (by rw [z6]; exact ⟨[ia m3, ib i0], [ia m4, ib i1, ia i2, ib e4], rfl, ⟨[ia m3], [ib i0], rfl, rfl, ⟨[ib i0], [], rfl, rfl, rfl⟩⟩, ⟨[ia m4, ib i1], [ia i2, ib e4], rfl, ⟨[ia m4], [ib i1], rfl, rfl, ⟨[ib i1], [], rfl, rfl, rfl⟩⟩, ⟨[ia i2, ib e4], [], rfl, ⟨[ia i2], [ib e4], rfl, rfl, ⟨[ib e4], [], rfl, rfl, rfl⟩⟩, rfl⟩⟩⟩)) ?_)
  intro v0 w hS
  refine EL.quick 1 [14] [(14, sv (some ⟨v0, 0, none⟩) 3 q0)] (by kernel_rfl) ?_
  refine EL.done (by kernel_rfl) ?_
  refine EQ.code ?_
  refine EW.ret (by kernel_rfl) ?_
  refine EQ.ret ?_
  refine EQ.ret ?_
  obtain rfl := Option.some.inj H
  exact EQ.leave (sv (some ⟨v0, 0, none⟩) 3 q0) (by kernel_rfl) ⟨_, rfl, (some ⟨v0, 0, none⟩), 3, rfl, (hS.re [0] [] rfl (sub_self))⟩
 rw [if_neg x3] at H
 obtain ⟨q8, F0, H⟩ := lt_out H
 refine EW.ct (fun a w => ∃ o3 : Bool, Sat 214 [(1, ig a51), (2, ig a52), (5, ia a55), (6, .bool (a56)), (15, ia (Int.tmod (IntKind.i64.wrap a51) a53)), (26, ig (Int.tmod a50 16)), (124, .bool (o3))] a ∧ St B w (os) (rs) ∧ q8 o3 = some q4) (by kernel_rfl) ?_ (fun a w hI => ?_)
 ·refine EW.sq (by kernel_rfl) ?_
  refine EW.rg (by kernel_rfl) ?_
  refine EL.quick 2 [1, 2, 5, 6, 15, 26, 124] [(1, ig a51), (2, ig a52), (5, ia a55), (6, .bool (a56)), (15, ia (Int.tmod (IntKind.i64.wrap a51) a53)), (26, ig (Int.tmod a50 16)), (124, .bool (decide ((Int.tmod a50 16) = 8)))] (by kernel_rfl) ?_
  refine EL.done (by kernel_rfl) ?_
  refine EQ.code ?_
  refine EW.cdP ((Int.tmod a50 16) = 8) (by kernel_rfl) (by kernel_rfl) (fun q6 => ?_) (fun q6 => ?_)
  ·rw [if_pos q6] at H
   refine EW.keep [1, 2, 5, 6, 15, 26, 124] [(1, ig a51), (2, ig a52), (5, ia a55), (6, .bool (a56)), (15, ia (Int.tmod (IntKind.i64.wrap a51) a53)), (26, ig (Int.tmod a50 16)), (124, .bool (decide ((Int.tmod a50 16) = 8)))] (by kernel_rfl) ?_
   refine EW.as' [(1, ig a51), (2, ig a52), (5, ia a55), (6, .bool (a56)), (15, ia (Int.tmod (IntKind.i64.wrap a51) a53)), (26, ig (Int.tmod a50 16)), (124, .bool (true))] (by simp only [dec_t q6, Bool.not_true, Bool.not_false]) ?_
   refine EW.skip (by kernel_rfl) ?_
   refine EQ.to ?_
   refine EQ.keep [1, 2, 5, 6, 15, 26, 124] [(1, ig a51), (2, ig a52), (5, ia a55), (6, .bool (a56)), (15, ia (Int.tmod (IntKind.i64.wrap a51) a53)), (26, ig (Int.tmod a50 16)), (124, .bool (true))] (by kernel_rfl) ?_
   exact fun a ha => ⟨true, ha, (hS.re [] [] rfl (sub_self)), H⟩
  rw [if_neg q6] at H
  refine EW.rg (by kernel_rfl) ?_
  refine EL.quick 2 [1, 2, 5, 6, 15, 26, 124] [(1, ig a51), (2, ig a52), (5, ia a55), (6, .bool (a56)), (15, ia (Int.tmod (IntKind.i64.wrap a51) a53)), (26, ig (Int.tmod a50 16)), (124, .bool (decide ((Int.tmod a50 16) = 9)))] (by kernel_rfl) ?_
  refine EL.done (by kernel_rfl) ?_
  refine EQ.to ?_
  refine EQ.keep [1, 2, 5, 6, 15, 26, 124] [(1, ig a51), (2, ig a52), (5, ia a55), (6, .bool (a56)), (15, ia (Int.tmod (IntKind.i64.wrap a51) a53)), (26, ig (Int.tmod a50 16)), (124, .bool (decide ((Int.tmod a50 16) = 9)))] (by kernel_rfl) ?_
  exact fun a ha => ⟨decide ((Int.tmod a50 16) = 9), ha, (hS.re [] [] rfl (sub_self)), H⟩
 obtain ⟨o3, ha, hS, H⟩ := hI
 rw [F0] at H
 (try dsimp only at H)
 refine EW.at ?_ a ha
 clear ha a
 refine EW.cdP' (o3) (by kernel_rfl) (by kernel_rfl) (fun x4 => ?_) (fun x4 => ?_)
 ·rw [if_pos x4] at H
  refine EW.sq (by kernel_rfl) ?_
  refine EW.rg (by kernel_rfl) ?_
  refine EL.quick 3 [15, 129] [(15, ia (Int.tmod (IntKind.i64.wrap a51) a53)), (129, ia (IntKind.i64.wrap (Int.tmod a52 4)))] (by kernel_rfl) ?_
  obtain ⟨m5, i3, E4, H⟩ := b2_out H
  have hq := confidantseat_in.calls E4 hS
  refine EL.of (EO.callD 41 [ia 12, ia (IntKind.i64.wrap (Int.tmod a52 4))] _ 130 (by kernel_rfl) (by kernel_rfl) (by kernel_rfl) hq ?_)
  rintro v w ⟨rfl, hS⟩
  refine EL.quick 1 [130, 131] [(130, ag [ia m5, ib i3]), (131, ia (Int.tmod (IntKind.i64.wrap a51) a53))] (by kernel_rfl) ?_
  obtain ⟨m6, i4, E5, H⟩ := b2_out H
  have hq := confidantseat_in.calls E5 hS
  refine EL.of (EO.callD 41 [ia 22, ia (Int.tmod (IntKind.i64.wrap a51) a53)] _ 132 (by kernel_rfl) (by kernel_rfl) (by kernel_rfl) hq ?_)
  rintro v w ⟨rfl, hS⟩
  obtain ⟨q1, z7, H⟩ := lt_out H
  refine EL.of (EO.lit hS kS32 32 29 2 #[(0, ag [ia m5, ib i3]), (1, ag [ia m6, ib i4])] [ia m5, ib i3, ia m6, ib i4] q1 133 (by kernel_rfl) (by kernel_rfl) (by kernel_rfl) (fun _ => (by kernel_rfl)) (by rw [z7]; rfl) (by kernel_rfl) (fun w G hr => (by rw [z7]; exact ⟨[ia m5, ib i3], [ia m6, ib i4], rfl, ⟨[ia m5], [ib i3], rfl, rfl, ⟨[ib i3], [], rfl, rfl, rfl⟩⟩, ⟨[ia m6, ib i4], [], rfl, ⟨[ia m6], [ib i4], rfl, rfl, ⟨[ib i4], [], rfl, rfl, rfl⟩⟩, rfl⟩⟩)) ?_)
  intro v1 w hS
  refine EL.quick 1 [14] [(14, sv (some ⟨v1, 0, none⟩) 2 q1)] (by kernel_rfl) ?_
  refine EL.done (by kernel_rfl) ?_
  refine EQ.code ?_
  refine EW.ret (by kernel_rfl) ?_
  refine EQ.ret ?_
  refine EQ.ret ?_
  obtain rfl := Option.some.inj H
  exact EQ.leave (sv (some ⟨v1, 0, none⟩) 2 q1) (by kernel_rfl) ⟨_, rfl, (some ⟨v1, 0, none⟩), 2, rfl, (hS.re [0] [] rfl (sub_self))⟩
 rw [if_neg x4] at H
 refine EW.sq (by kernel_rfl) ?_
 refine EW.rg (by kernel_rfl) ?_
 refine EL.quick 2 [1, 2, 5, 6, 15, 26, 134] [(1, ig a51), (2, ig a52), (5, ia a55), (6, .bool (a56)), (15, ia (Int.tmod (IntKind.i64.wrap a51) a53)), (26, ig (Int.tmod a50 16)), (134, .bool (decide ((Int.tmod a50 16) = 10)))] (by kernel_rfl) ?_
 refine EL.done (by kernel_rfl) ?_
 refine EQ.code ?_
 refine EW.cdP ((Int.tmod a50 16) = 10) (by kernel_rfl) (by kernel_rfl) (fun x5 => ?_) (fun x5 => ?_)
 ·rw [if_pos x5] at H
  refine EW.sq (by kernel_rfl) ?_
  refine EW.rg (by kernel_rfl) ?_
  refine EL.quick 1 [136] [(136, ia (Int.tmod (IntKind.i64.wrap a51) a53))] (by kernel_rfl) ?_
  obtain ⟨o1, m7, E6, H⟩ := b2_out H
  have hq := confidantseat_in.calls E6 hS
  refine EL.of (EO.callD 41 [ia 15, ia (Int.tmod (IntKind.i64.wrap a51) a53)] _ 137 (by kernel_rfl) (by kernel_rfl) (by kernel_rfl) hq ?_)
  rintro v w ⟨rfl, hS⟩
  obtain ⟨q2, z8, H⟩ := lt_out H
  refine EL.of (EO.lit hS kS32 32 29 1 #[(0, ag [ia o1, ib m7])] [ia o1, ib m7] q2 138 (by kernel_rfl) (by kernel_rfl) (by kernel_rfl) (fun _ => (by kernel_rfl)) (by rw [z8]; rfl) (by kernel_rfl) (fun w G hr => (by rw [z8]; exact ⟨[ia o1, ib m7], [], rfl, ⟨[ia o1], [ib m7], rfl, rfl, ⟨[ib m7], [], rfl, rfl, rfl⟩⟩, rfl⟩)) ?_)
  intro v2 w hS
  refine EL.quick 1 [14] [(14, sv (some ⟨v2, 0, none⟩) 1 q2)] (by kernel_rfl) ?_
  refine EL.done (by kernel_rfl) ?_
  refine EQ.code ?_
  refine EW.ret (by kernel_rfl) ?_
  refine EQ.ret ?_
  refine EQ.ret ?_
  obtain rfl := Option.some.inj H
  exact EQ.leave (sv (some ⟨v2, 0, none⟩) 1 q2) (by kernel_rfl) ⟨_, rfl, (some ⟨v2, 0, none⟩), 1, rfl, (hS.re [0] [] rfl (sub_self))⟩
 rw [if_neg x5] at H
 refine EW.sq (by kernel_rfl) ?_
 refine EW.rg (by kernel_rfl) ?_
 refine EL.quick 2 [1, 2, 5, 6, 15, 26, 139] [(1, ig a51), (2, ig a52), (5, ia a55), (6, .bool (a56)), (15, ia (Int.tmod (IntKind.i64.wrap a51) a53)), (26, ig (Int.tmod a50 16)), (139, .bool (decide ((Int.tmod a50 16) = 11)))] (by kernel_rfl) ?_
 refine EL.done (by kernel_rfl) ?_
 refine EQ.code ?_
 refine EW.cdP ((Int.tmod a50 16) = 11) (by kernel_rfl) (by kernel_rfl) (fun x6 => ?_) (fun x6 => ?_)
 ·rw [if_pos x6] at H
  refine EW.sq (by kernel_rfl) ?_
  refine EW.rg (by kernel_rfl) ?_
  obtain ⟨m8, i5, E7, H⟩ := b2_out H
  have hq := confidantseat_in.calls E7 hS
  refine EL.of (EO.callD 41 [ia 14, ia 0] _ 141 (by kernel_rfl) (by kernel_rfl) (by kernel_rfl) hq ?_)
  rintro v w ⟨rfl, hS⟩
  refine EL.quick 1 [141, 142] [(141, ag [ia m8, ib i5]), (142, ia (Int.tmod (IntKind.i64.wrap a51) a53))] (by kernel_rfl) ?_
  obtain ⟨m9, i6, E8, H⟩ := b2_out H
  have hq := confidantseat_in.calls E8 hS
  refine EL.of (EO.callD 41 [ia 22, ia (Int.tmod (IntKind.i64.wrap a51) a53)] _ 143 (by kernel_rfl) (by kernel_rfl) (by kernel_rfl) hq ?_)
  rintro v w ⟨rfl, hS⟩
  obtain ⟨q3, z9, H⟩ := lt_out H
  refine EL.of (EO.lit hS kS32 32 29 2 #[(0, ag [ia m8, ib i5]), (1, ag [ia m9, ib i6])] [ia m8, ib i5, ia m9, ib i6] q3 144 (by kernel_rfl) (by kernel_rfl) (by kernel_rfl) (fun _ => (by kernel_rfl)) (by rw [z9]; rfl) (by kernel_rfl) (fun w G hr => (by rw [z9]; exact ⟨[ia m8, ib i5], [ia m9, ib i6], rfl, ⟨[ia m8], [ib i5], rfl, rfl, ⟨[ib i5], [], rfl, rfl, rfl⟩⟩, ⟨[ia m9, ib i6], [], rfl, ⟨[ia m9], [ib i6], rfl, rfl, ⟨[ib i6], [], rfl, rfl, rfl⟩⟩, rfl⟩⟩)) ?_)
  intro v3 w hS
  refine EL.quick 1 [14] [(14, sv (some ⟨v3, 0, none⟩) 2 q3)] (by kernel_rfl) ?_
  refine EL.done (by kernel_rfl) ?_
  refine EQ.code ?_
  refine EW.ret (by kernel_rfl) ?_
  refine EQ.ret ?_
  refine EQ.ret ?_
  obtain rfl := Option.some.inj H
  exact EQ.leave (sv (some ⟨v3, 0, none⟩) 2 q3) (by kernel_rfl) ⟨_, rfl, (some ⟨v3, 0, none⟩), 2, rfl, (hS.re [0] [] rfl (sub_self))⟩
 rw [if_neg x6] at H
 refine EW.sq (by kernel_rfl) ?_
 refine EW.rg (by kernel_rfl) ?_
 refine EL.quick 2 [1, 2, 5, 6, 26, 145] [(1, ig a51), (2, ig a52), (5, ia a55), (6, .bool (a56)), (26, ig (Int.tmod a50 16)), (145, .bool (decide ((Int.tmod a50 16) = 12)))] (by kernel_rfl) ?_
 refine EL.done (by kernel_rfl) ?_
 refine EQ.code ?_
 refine EW.cdP ((Int.tmod a50 16) = 12) (by kernel_rfl) (by kernel_rfl) (fun x7 => ?_) (fun x7 => ?_)
 ·rw [if_pos x7] at H
  refine EW.sq (by kernel_rfl) ?_
  obtain ⟨q9, F1, H⟩ := lt_out H
  refine EW.ct (fun a w => ∃ o4 : Bool, Sat 214 [(1, ig a51), (2, ig a52), (5, ia a55), (151, .bool (o4))] a ∧ St B w (os) (rs) ∧ q9 o4 = some q4) (by kernel_rfl) ?_ (fun a w hI => ?_)
  ·refine EW.rg (by kernel_rfl) ?_
   refine EL.quick 3 [1, 2, 5, 6, 149] [(1, ig a51), (2, ig a52), (5, ia a55), (6, .bool (a56)), (149, .bool (decide (a55 = 0)))] (by kernel_rfl) ?_
   by_cases q7 : a55 = 0
   ·rw [if_pos q7] at H
    refine EL.keep [1, 2, 5, 6, 149] [(1, ig a51), (2, ig a52), (5, ia a55), (6, .bool (a56)), (149, .bool (decide (a55 = 0)))] (by kernel_rfl) ?_
    refine EL.as' [(1, ig a51), (2, ig a52), (5, ia a55), (6, .bool (a56)), (149, .bool (true))] (by simp only [dec_t q7, Bool.not_true, Bool.not_false]) ?_
    refine EL.quick 2 [1, 2, 5, 151] [(1, ig a51), (2, ig a52), (5, ia a55), (151, .bool (true))] (by kernel_rfl) ?_
    refine EL.done (by kernel_rfl) ?_
    refine EQ.to ?_
    refine EQ.keep [1, 2, 5, 151] [(1, ig a51), (2, ig a52), (5, ia a55), (151, .bool (true))] (by kernel_rfl) ?_
    exact fun a ha => ⟨true, ha, (hS.re [] [] rfl (sub_self)), H⟩
   rw [if_neg q7] at H
   refine EL.keep [1, 2, 5, 6, 149] [(1, ig a51), (2, ig a52), (5, ia a55), (6, .bool (a56)), (149, .bool (decide (a55 = 0)))] (by kernel_rfl) ?_
   refine EL.as' [(1, ig a51), (2, ig a52), (5, ia a55), (6, .bool (a56)), (149, .bool (false))] (by simp only [dec_f q7, Bool.not_true, Bool.not_false]) ?_
   refine EL.quick 2 [1, 2, 5, 151] [(1, ig a51), (2, ig a52), (5, ia a55), (151, .bool (a56))] (by kernel_rfl) ?_
   refine EL.done (by kernel_rfl) ?_
   refine EQ.to ?_
   refine EQ.keep [1, 2, 5, 151] [(1, ig a51), (2, ig a52), (5, ia a55), (151, .bool (a56))] (by kernel_rfl) ?_
   exact fun a ha => ⟨a56, ha, (hS.re [] [] rfl (sub_self)), H⟩
  obtain ⟨o4, ha, hS, H⟩ := hI
  rw [F1] at H
  (try dsimp only at H)
  refine EW.at ?_ a ha
  clear ha a
  refine EW.cdP' (o4) (by kernel_rfl) (by kernel_rfl) (fun x8 => ?_) (fun x8 => ?_)
  ·rw [if_pos x8] at H
   refine EW.sq (by kernel_rfl) ?_
   refine EW.rg (by kernel_rfl) ?_
   refine EL.quick 8 [159] [(159, ia (IntKind.i64.wrap ((IntKind.i64.wrap ((IntKind.i64.wrap (Int.tmod a51 4)) * 65536)) + (IntKind.i64.wrap (Int.tmod a52 3)))))] (by kernel_rfl) ?_
   obtain ⟨o2, n0, E9, H⟩ := b2_out H
   have hq := confidantseat_in.calls E9 hS
   refine EL.of (EO.callD 41 [ia 1, ia (IntKind.i64.wrap ((IntKind.i64.wrap ((IntKind.i64.wrap (Int.tmod a51 4)) * 65536)) + (IntKind.i64.wrap (Int.tmod a52 3))))] _ 160 (by kernel_rfl) (by kernel_rfl) (by kernel_rfl) hq ?_)
   rintro v w ⟨rfl, hS⟩
   obtain ⟨n1, i7, A3, H⟩ := b2_out H
   have hq := confidantseat_in.calls A3 hS
   refine EL.of (EO.callD 41 [ia 21, ia 0] _ 161 (by kernel_rfl) (by kernel_rfl) (by kernel_rfl) hq ?_)
   rintro v w ⟨rfl, hS⟩
   obtain ⟨e5, c3, A4, H⟩ := b2_out H
   have hq := confidantseat_in.calls A4 hS
   refine EL.of (EO.callD 41 [ia 2, ia 0] _ 162 (by kernel_rfl) (by kernel_rfl) (by kernel_rfl) hq ?_)
   rintro v w ⟨rfl, hS⟩
   obtain ⟨o8, y4, H⟩ := lt_out H
   refine EL.of (EO.lit hS kS32 32 29 3 #[(0, ag [ia o2, ib n0]), (1, ag [ia n1, ib i7]), (2, ag [ia e5, ib c3])] [ia o2, ib n0, ia n1, ib i7, ia e5, ib c3] o8 163 (by kernel_rfl) (by kernel_rfl) (by kernel_rfl) (fun _ => (by kernel_rfl)) (by rw [y4]; rfl) (by kernel_rfl) (fun w G hr => (by rw [y4]; exact ⟨[ia o2, ib n0], [ia n1, ib i7, ia e5, ib c3], rfl, ⟨[ia o2], [ib n0], rfl, rfl, ⟨[ib n0], [], rfl, rfl, rfl⟩⟩, ⟨[ia n1, ib i7], [ia e5, ib c3], rfl, ⟨[ia n1], [ib i7], rfl, rfl, ⟨[ib i7], [], rfl, rfl, rfl⟩⟩, ⟨[ia e5, ib c3], [], rfl, ⟨[ia e5], [ib c3], rfl, rfl, ⟨[ib c3], [], rfl, rfl, rfl⟩⟩, rfl⟩⟩⟩)) ?_)
   intro t0 w hS
   refine EL.quick 1 [14] [(14, sv (some ⟨t0, 0, none⟩) 3 o8)] (by kernel_rfl) ?_
   refine EL.done (by kernel_rfl) ?_
   refine EQ.code ?_
   refine EW.ret (by kernel_rfl) ?_
   refine EQ.ret ?_
   refine EQ.ret ?_
   refine EQ.ret ?_
   obtain rfl := Option.some.inj H
   exact EQ.leave (sv (some ⟨t0, 0, none⟩) 3 o8) (by kernel_rfl) ⟨_, rfl, (some ⟨t0, 0, none⟩), 3, rfl, (hS.re [0] [] rfl (sub_self))⟩
  rw [if_neg x8] at H
  refine EW.skip (by kernel_rfl) ?_
  refine EQ.code ?_
  refine EW.sq (by kernel_rfl) ?_
  obtain ⟨n6, i9, A5, H⟩ := b2_out H
  obtain ⟨A0, H⟩ := ite_out H
  obtain ⟨j0, e6, A6, H⟩ := b2_out H
  obtain ⟨e7, c4, A7, H⟩ := b2_out H
  obtain ⟨o9, y5, H⟩ := lt_out H
  have hS := hS.drew
  refine EW.dr (B := B) [] [] (by kernel_rfl) (by kernel_rfl) ?_
  have hN : Region.noSelect Cd40.r.r.l.r.l.r.r.r.r.r.r.r.r.r.r.r.r.r.r.r.r.r.r.r.r.r.r.r.l.r.l.ops = true := (by kernel_rfl)
  have hF : freeAll Cd40.r.r.l.r.l.r.r.r.r.r.r.r.r.r.r.r.r.r.r.r.r.r.r.r.r.r.r.r.l.r.l.ops = true := (by kernel_rfl)
  have hC : Core B [] [] _ := ⟨_, _, hS⟩
  refine ED.quick hN hF hC [0, 1, 2, 4, 5, 6] [166, 169, 170] 6 [(166, ia (IntKind.i64.wrap (Int.tmod a52 4))), (169, ia (IntKind.i64.wrap a51)), (170, ia a55)] (bm 12 119) (by kernel_rfl) (by kernel_rfl) ?_
  refine ED.Y hN hF hC 7 5 (bm 12 247) (by kernel_rfl) (by kernel_rfl) rfl (fun _ _ _ hS => YO.div .rem .i64 (IntKind.i64.wrap a51) a55 (Int.tmod (IntKind.i64.wrap a51) a55) 171 (by kernel_rfl) (by kernel_rfl) (by kernel_rfl) A0 (by first | exact .inl ⟨rfl, rfl⟩ | exact .inr ⟨rfl, rfl⟩)) ?_
  have hq := confidantseat_in.calls A5 hS
  refine ED.one 3 4 (bm 12 255) (by kernel_rfl) (by kernel_rfl) (by kernel_rfl) (EO.callD 41 [ia 12, ia (IntKind.i64.wrap (Int.tmod a52 4))] _ 167 (by kernel_rfl) (by kernel_rfl) (by kernel_rfl) hq ?_)
  rintro v w ⟨rfl, hS⟩
  have hC := hC.again ⟨_, _, hS⟩
  refine ⟨hC, ?_⟩
  have hq := confidantseat_in.calls A6 hS
  refine ED.one 8 3 (bm 12 511) (by kernel_rfl) (by kernel_rfl) (by kernel_rfl) (EO.callD 41 [ia 23, ia (Int.tmod (IntKind.i64.wrap a51) a55)] _ 172 (by kernel_rfl) (by kernel_rfl) (by kernel_rfl) hq ?_)
  rintro v w ⟨rfl, hS⟩
  have hC := hC.again ⟨_, _, hS⟩
  refine ⟨hC, ?_⟩
  have hq := confidantseat_in.calls A7 hS
  refine ED.one 9 2 (bm 12 1023) (by kernel_rfl) (by kernel_rfl) (by kernel_rfl) (EO.callD 41 [ia 13, ia 1] _ 173 (by kernel_rfl) (by kernel_rfl) (by kernel_rfl) hq ?_)
  rintro v w ⟨rfl, hS⟩
  have hC := hC.again ⟨_, _, hS⟩
  refine ⟨hC, ?_⟩
  refine ED.one 10 1 (bm 12 2047) (by kernel_rfl) (by kernel_rfl) (by kernel_rfl) (EO.lit hS kS32 32 29 3 #[(0, ag [ia n6, ib i9]), (1, ag [ia j0, ib e6]), (2, ag [ia e7, ib c4])] [ia n6, ib i9, ia j0, ib e6, ia e7, ib c4] o9 174 (by kernel_rfl) (by kernel_rfl) (by kernel_rfl) (fun _ => (by kernel_rfl)) (by rw [y5]; rfl) (by kernel_rfl) (fun w G hr => (by rw [y5]; exact ⟨[ia n6, ib i9], [ia j0, ib e6, ia e7, ib c4], rfl, ⟨[ia n6], [ib i9], rfl, rfl, ⟨[ib i9], [], rfl, rfl, rfl⟩⟩, ⟨[ia j0, ib e6], [ia e7, ib c4], rfl, ⟨[ia j0], [ib e6], rfl, rfl, ⟨[ib e6], [], rfl, rfl, rfl⟩⟩, ⟨[ia e7, ib c4], [], rfl, ⟨[ia e7], [ib c4], rfl, rfl, ⟨[ib c4], [], rfl, rfl, rfl⟩⟩, rfl⟩⟩⟩)) ?_)
  intro t1 w hS
  have hC := hC.again ⟨_, _, hS⟩
  refine ⟨hC, ?_⟩
  refine ED.quick hN hF hC [11] [14] 0 [(14, sv (some ⟨t1, 0, none⟩) 3 o9)] (bm 12 4095) (by kernel_rfl) (by kernel_rfl) ?_
  refine ED.done (by kernel_rfl) ?_
  refine EQ.code ?_
  refine EW.ret (by kernel_rfl) ?_
  refine EQ.ret ?_
  refine EQ.ret ?_
  obtain rfl := Option.some.inj H
  exact EQ.leave (sv (some ⟨t1, 0, none⟩) 3 o9) (by kernel_rfl) ⟨_, rfl, (some ⟨t1, 0, none⟩), 3, rfl, (hS.re [0] [] rfl (sub_self))⟩
 rw [if_neg x7] at H
 refine EW.sq (by kernel_rfl) ?_
 refine EW.rg (by kernel_rfl) ?_
 refine EL.quick 2 [1, 2, 5, 26, 175] [(1, ig a51), (2, ig a52), (5, ia a55), (26, ig (Int.tmod a50 16)), (175, .bool (decide ((Int.tmod a50 16) = 13)))] (by kernel_rfl) ?_
 refine EL.done (by kernel_rfl) ?_
 refine EQ.code ?_
 refine EW.cdP ((Int.tmod a50 16) = 13) (by kernel_rfl) (by kernel_rfl) (fun v4 => ?_) (fun v4 => ?_)
 ·rw [if_pos v4] at H
  refine EW.sq (by kernel_rfl) ?_
  refine EW.sq (by kernel_rfl) ?_
  refine EW.rg (by kernel_rfl) ?_
  refine EL.quick 2 [1, 2, 5, 178] [(1, ig a51), (2, ig a52), (5, ia a55), (178, .bool (decide (a55 = 0)))] (by kernel_rfl) ?_
  refine EL.done (by kernel_rfl) ?_
  refine EQ.code ?_
  refine EW.cdP (a55 = 0) (by kernel_rfl) (by kernel_rfl) (fun q5 => ?_) (fun q5 => ?_)
  ·rw [if_pos q5] at H
   refine EW.sq (by kernel_rfl) ?_
   refine EW.rg (by kernel_rfl) ?_
   refine EL.quick 8 [186] [(186, ia (IntKind.i64.wrap ((IntKind.i64.wrap ((IntKind.i64.wrap (Int.tmod a51 4)) * 65536)) + (IntKind.i64.wrap (Int.tmod a52 3)))))] (by kernel_rfl) ?_
   obtain ⟨n7, j1, A8, H⟩ := b2_out H
   have hq := confidantseat_in.calls A8 hS
   refine EL.of (EO.callD 41 [ia 1, ia (IntKind.i64.wrap ((IntKind.i64.wrap ((IntKind.i64.wrap (Int.tmod a51 4)) * 65536)) + (IntKind.i64.wrap (Int.tmod a52 3))))] _ 187 (by kernel_rfl) (by kernel_rfl) (by kernel_rfl) hq ?_)
   rintro v w ⟨rfl, hS⟩
   obtain ⟨j2, e8, A9, H⟩ := b2_out H
   have hq := confidantseat_in.calls A9 hS
   refine EL.of (EO.callD 41 [ia 18, ia 0] _ 188 (by kernel_rfl) (by kernel_rfl) (by kernel_rfl) hq ?_)
   rintro v w ⟨rfl, hS⟩
   obtain ⟨e9, c5, B0, H⟩ := b2_out H
   have hq := confidantseat_in.calls B0 hS
   refine EL.of (EO.callD 41 [ia 2, ia 0] _ 189 (by kernel_rfl) (by kernel_rfl) (by kernel_rfl) hq ?_)
   rintro v w ⟨rfl, hS⟩
   obtain ⟨p0, y6, H⟩ := lt_out H
   refine EL.of (EO.lit hS kS32 32 29 3 #[(0, ag [ia n7, ib j1]), (1, ag [ia j2, ib e8]), (2, ag [ia e9, ib c5])] [ia n7, ib j1, ia j2, ib e8, ia e9, ib c5] p0 190 (by kernel_rfl) (by kernel_rfl) (by kernel_rfl) (fun _ => (by kernel_rfl)) (by rw [y6]; rfl) (by kernel_rfl) (fun w G hr => (by rw [y6]; exact ⟨[ia n7, ib j1], [ia j2, ib e8, ia e9, ib c5], rfl, ⟨[ia n7], [ib j1], rfl, rfl, ⟨[ib j1], [], rfl, rfl, rfl⟩⟩, ⟨[ia j2, ib e8], [ia e9, ib c5], rfl, ⟨[ia j2], [ib e8], rfl, rfl, ⟨[ib e8], [], rfl, rfl, rfl⟩⟩, ⟨[ia e9, ib c5], [], rfl, ⟨[ia e9], [ib c5], rfl, rfl, ⟨[ib c5], [], rfl, rfl, rfl⟩⟩, rfl⟩⟩⟩)) ?_)
   intro t2 w hS
   refine EL.quick 1 [14] [(14, sv (some ⟨t2, 0, none⟩) 3 p0)] (by kernel_rfl) ?_
   refine EL.done (by kernel_rfl) ?_
   refine EQ.code ?_
   refine EW.ret (by kernel_rfl) ?_
   refine EQ.ret ?_
   refine EQ.ret ?_
   refine EQ.ret ?_
   obtain rfl := Option.some.inj H
   exact EQ.leave (sv (some ⟨t2, 0, none⟩) 3 p0) (by kernel_rfl) ⟨_, rfl, (some ⟨t2, 0, none⟩), 3, rfl, (hS.re [0] [] rfl (sub_self))⟩
  rw [if_neg q5] at H
  refine EW.skip (by kernel_rfl) ?_
  refine EQ.code ?_
  refine EW.sq (by kernel_rfl) ?_
  refine EW.rg (by kernel_rfl) ?_
  refine EL.quick 3 [192, 193] [(192, ia (IntKind.i64.wrap a51)), (193, ia a55)] (by kernel_rfl) ?_
  refine EL.of (EO.Y (YO.div .rem .i64 (IntKind.i64.wrap a51) a55 (Int.tmod (IntKind.i64.wrap a51) a55) 194 (by kernel_rfl) (by kernel_rfl) (by kernel_rfl) q5 (by first | exact .inl ⟨rfl, rfl⟩ | exact .inr ⟨rfl, rfl⟩)) ?_)
  obtain ⟨n8, j3, B1, H⟩ := b2_out H
  have hq := confidantseat_in.calls B1 hS
  refine EL.of (EO.callD 41 [ia 24, ia (Int.tmod (IntKind.i64.wrap a51) a55)] _ 195 (by kernel_rfl) (by kernel_rfl) (by kernel_rfl) hq ?_)
  rintro v w ⟨rfl, hS⟩
  obtain ⟨j4, f0, B2, H⟩ := b2_out H
  have hq := confidantseat_in.calls B2 hS
  refine EL.of (EO.callD 41 [ia 2, ia 0] _ 196 (by kernel_rfl) (by kernel_rfl) (by kernel_rfl) hq ?_)
  rintro v w ⟨rfl, hS⟩
  obtain ⟨f1, c6, B3, H⟩ := b2_out H
  have hq := confidantseat_in.calls B3 hS
  refine EL.of (EO.callD 41 [ia 13, ia 0] _ 197 (by kernel_rfl) (by kernel_rfl) (by kernel_rfl) hq ?_)
  rintro v w ⟨rfl, hS⟩
  obtain ⟨p1, y7, H⟩ := lt_out H
  refine EL.of (EO.lit hS kS32 32 29 3 #[(0, ag [ia n8, ib j3]), (1, ag [ia j4, ib f0]), (2, ag [ia f1, ib c6])] [ia n8, ib j3, ia j4, ib f0, ia f1, ib c6] p1 198 (by kernel_rfl) (by kernel_rfl) (by kernel_rfl) (fun _ => (by kernel_rfl)) (by rw [y7]; rfl) (by kernel_rfl) (fun w G hr => (by rw [y7]; exact ⟨[ia n8, ib j3], [ia j4, ib f0, ia f1, ib c6], rfl, ⟨[ia n8], [ib j3], rfl, rfl, ⟨[ib j3], [], rfl, rfl, rfl⟩⟩, ⟨[ia j4, ib f0], [ia f1, ib c6], rfl, ⟨[ia j4], [ib f0], rfl, rfl, ⟨[ib f0], [], rfl, rfl, rfl⟩⟩, ⟨[ia f1, ib c6], [], rfl, ⟨[ia f1], [ib c6], rfl, rfl, ⟨[ib c6], [], rfl, rfl, rfl⟩⟩, rfl⟩⟩⟩)) ?_)
  intro t3 w hS
  refine EL.quick 1 [14] [(14, sv (some ⟨t3, 0, none⟩) 3 p1)] (by kernel_rfl) ?_
  refine EL.done (by kernel_rfl) ?_
  refine EQ.code ?_
  refine EW.ret (by kernel_rfl) ?_
  refine EQ.ret ?_
  refine EQ.ret ?_
  obtain rfl := Option.some.inj H
  exact EQ.leave (sv (some ⟨t3, 0, none⟩) 3 p1) (by kernel_rfl) ⟨_, rfl, (some ⟨t3, 0, none⟩), 3, rfl, (hS.re [0] [] rfl (sub_self))⟩
 rw [if_neg v4] at H
 refine EW.sq (by kernel_rfl) ?_
 refine EW.rg (by kernel_rfl) ?_
 refine EL.quick 2 [1, 199] [(1, ig a51), (199, .bool (decide ((Int.tmod a50 16) = 14)))] (by kernel_rfl) ?_
 refine EL.done (by kernel_rfl) ?_
 refine EQ.code ?_
 refine EW.cdP ((Int.tmod a50 16) = 14) (by kernel_rfl) (by kernel_rfl) (fun v5 => ?_) (fun v5 => ?_)
 ·rw [if_pos v5] at H
  refine EW.sq (by kernel_rfl) ?_
  refine EW.rg (by kernel_rfl) ?_
  refine EL.quick 3 [203] [(203, ia (IntKind.i64.wrap (Int.tmod a51 4)))] (by kernel_rfl) ?_
  obtain ⟨n9, j5, B4, H⟩ := b2_out H
  have hq := confidantseat_in.calls B4 hS
  refine EL.of (EO.callD 41 [ia 1, ia (IntKind.i64.wrap (Int.tmod a51 4))] _ 204 (by kernel_rfl) (by kernel_rfl) (by kernel_rfl) hq ?_)
  rintro v w ⟨rfl, hS⟩
  obtain ⟨j6, f2, B5, H⟩ := b2_out H
  have hq := confidantseat_in.calls B5 hS
  refine EL.of (EO.callD 41 [ia 13, ia 1] _ 205 (by kernel_rfl) (by kernel_rfl) (by kernel_rfl) hq ?_)
  rintro v w ⟨rfl, hS⟩
  obtain ⟨p2, y8, H⟩ := lt_out H
  refine EL.of (EO.lit hS kS32 32 29 2 #[(0, ag [ia n9, ib j5]), (1, ag [ia j6, ib f2])] [ia n9, ib j5, ia j6, ib f2] p2 206 (by kernel_rfl) (by kernel_rfl) (by kernel_rfl) (fun _ => (by kernel_rfl)) (by rw [y8]; rfl) (by kernel_rfl) (fun w G hr => (by rw [y8]; exact ⟨[ia n9, ib j5], [ia j6, ib f2], rfl, ⟨[ia n9], [ib j5], rfl, rfl, ⟨[ib j5], [], rfl, rfl, rfl⟩⟩, ⟨[ia j6, ib f2], [], rfl, ⟨[ia j6], [ib f2], rfl, rfl, ⟨[ib f2], [], rfl, rfl, rfl⟩⟩, rfl⟩⟩)) ?_)
  intro t4 w hS
  refine EL.quick 1 [14] [(14, sv (some ⟨t4, 0, none⟩) 2 p2)] (by kernel_rfl) ?_
  refine EL.done (by kernel_rfl) ?_
  refine EQ.code ?_
  refine EW.ret (by kernel_rfl) ?_
  refine EQ.ret ?_
  refine EQ.ret ?_
  obtain rfl := Option.some.inj H
  exact EQ.leave (sv (some ⟨t4, 0, none⟩) 2 p2) (by kernel_rfl) ⟨_, rfl, (some ⟨t4, 0, none⟩), 2, rfl, (hS.re [0] [] rfl (sub_self))⟩
 rw [if_neg v5] at H
 refine EW.skip (by kernel_rfl) ?_
 refine EQ.pop ?_
 refine EQ.code ?_
 refine EW.sq (by kernel_rfl) ?_
 refine EW.rg (by kernel_rfl) ?_
 refine EL.quick 2 [208] [(208, ia (IntKind.i64.wrap a51))] (by kernel_rfl) ?_
 obtain ⟨o0, j7, B6, H⟩ := b2_out H
 have hq := confidantseat_in.calls B6 hS
 refine EL.of (EO.callD 41 [ia 1, ia (IntKind.i64.wrap a51)] _ 209 (by kernel_rfl) (by kernel_rfl) (by kernel_rfl) hq ?_)
 rintro v w ⟨rfl, hS⟩
 obtain ⟨j8, f3, B7, H⟩ := b2_out H
 have hq := confidantseat_in.calls B7 hS
 refine EL.of (EO.callD 41 [ia 3, ia 0] _ 210 (by kernel_rfl) (by kernel_rfl) (by kernel_rfl) hq ?_)
 rintro v w ⟨rfl, hS⟩
 obtain ⟨f4, c7, B8, H⟩ := b2_out H
 have hq := confidantseat_in.calls B8 hS
 refine EL.of (EO.callD 41 [ia 4, ia 0] _ 211 (by kernel_rfl) (by kernel_rfl) (by kernel_rfl) hq ?_)
 rintro v w ⟨rfl, hS⟩
 obtain ⟨c8, b4, B9, H⟩ := b2_out H
 have hq := confidantseat_in.calls B9 hS
 refine EL.of (EO.callD 41 [ia 2, ia 0] _ 212 (by kernel_rfl) (by kernel_rfl) (by kernel_rfl) hq ?_)
 rintro v w ⟨rfl, hS⟩
 obtain ⟨p3, y9, H⟩ := lt_out H
 refine EL.of (EO.lit hS kS32 32 29 4 #[(0, ag [ia o0, ib j7]), (1, ag [ia j8, ib f3]), (2, ag [ia f4, ib c7]), (3, ag [ia c8, ib b4])] [ia o0, ib j7, ia j8, ib f3, ia f4, ib c7, ia c8, ib b4] p3 213 (by kernel_rfl) (by kernel_rfl) (by kernel_rfl) (fun _ => (by kernel_rfl)) (by rw [y9]; rfl) (by kernel_rfl) (fun w G hr => (by rw [y9]; exact ⟨[ia o0, ib j7], [ia j8, ib f3, ia f4, ib c7, ia c8, ib b4], rfl, ⟨[ia o0], [ib j7], rfl, rfl, ⟨[ib j7], [], rfl, rfl, rfl⟩⟩, ⟨[ia j8, ib f3], [ia f4, ib c7, ia c8, ib b4], rfl, ⟨[ia j8], [ib f3], rfl, rfl, ⟨[ib f3], [], rfl, rfl, rfl⟩⟩, ⟨[ia f4, ib c7], [ia c8, ib b4], rfl, ⟨[ia f4], [ib c7], rfl, rfl, ⟨[ib c7], [], rfl, rfl, rfl⟩⟩, ⟨[ia c8, ib b4], [], rfl, ⟨[ia c8], [ib b4], rfl, rfl, ⟨[ib b4], [], rfl, rfl, rfl⟩⟩, rfl⟩⟩⟩⟩)) ?_)
 intro t5 w hS
 refine EL.quick 1 [14] [(14, sv (some ⟨t5, 0, none⟩) 4 p3)] (by kernel_rfl) ?_
 refine EL.done (by kernel_rfl) ?_
 refine EQ.code ?_
 refine EW.ret (by kernel_rfl) ?_
 obtain rfl := Option.some.inj H
 exact EQ.leave (sv (some ⟨t5, 0, none⟩) 4 p3) (by kernel_rfl) ⟨_, rfl, (some ⟨t5, 0, none⟩), 4, rfl, (hS.re [0] [] rfl (sub_self))⟩

/-! ### confidant/confidantseat.Code: function 14 -/
def confidantseat_Code.l1 (K : Nat) (a27 : Int) (l23 : List Int) (a26 : Int) (a28 : Int) (a29 : Bool) (e5 : (List S32) → Option (List (List S32))) : Nat → (List S32) → Int → Option (List (List S32))
 | 0, _, _ => none
 | n + 1, a5, a4 => lt (fun (g6 : Bool) => (if g6 = true then (lt (fun (m5 : List S32) (d8 : List S32) => (confidantseat_Code.l1 K a27 l23 a26 a28 a29 e5 n d8 (IntKind.i64.wrap (a4 + (IntKind.i64.wrap (3 * a27)))))) fun m2 => (if 0 ≤ a4 then (if a4 < (l23.length : Int) then (if 0 ≤ (IntKind.i64.wrap (a4 + 1)) then (if (IntKind.i64.wrap (a4 + 1)) < (l23.length : Int) then (if 0 ≤ (IntKind.i64.wrap (a4 + 2)) then (if (IntKind.i64.wrap (a4 + 2)) < (l23.length : Int) then (b1 (confidantseat_piece.f K (l23.getD a4.toNat 0) (l23.getD (IntKind.i64.wrap (a4 + 1)).toNat 0) (l23.getD (IntKind.i64.wrap (a4 + 2)).toNat 0) a26 a27 a28 a29) fun (a7 : List S32) => (lt (fun (d9 : List S32) => (if (d9.length + a7.length) * 16 ≤ 140737488355328 then (lt (d9 ++ a7) fun b7 => (if (Int.tmod (l23.getD a4.toNat 0) 16) = 14 then (b2 (confidantseat_in.f K 12 1) fun (e2 : Int) (d5 : Int) => (b2 (confidantseat_in.f K 1 1) fun (d6 : Int) (d1 : Int) => (b2 (confidantseat_in.f K 5 0) fun (d2 : Int) (c9 : Int) => (b2 (confidantseat_in.f K 13 1) fun (d0 : Int) (c4 : Int) => (b2 (confidantseat_in.f K 12 1) fun (c5 : Int) (c1 : Int) => (b2 (confidantseat_in.f K 11 (IntKind.i64.wrap ((b7.length : Int) + 7))) fun (c6 : Int) (c2 : Int) => (b2 (confidantseat_in.f K 10 (mx (IntKind.i64.wrap ((IntKind.i64.wrap ((b7.length : Int) - (a7.length : Int))) + 2)) 0)) fun (c7 : Int) (c3 : Int) => (lt ([(⟨e2, d5⟩ : S32), (⟨d6, d1⟩ : S32), (⟨d2, c9⟩ : S32), (⟨d0, c4⟩ : S32), (⟨c5, c1⟩ : S32), (⟨c6, c2⟩ : S32), (⟨c7, c3⟩ : S32)] : List S32) fun g1 => (if (b7.length + g1.length) * 16 ≤ 140737488355328 then (lt (b7 ++ g1) fun e7 => (m2 a7 e7)) else none))))))))) else (m2 a7 b7))) else none)) fun m3 => (if (Int.tmod (l23.getD (IntKind.i64.wrap (a4 + 1)).toNat 0) 5) = 4 then (b2 (confidantseat_in.f K 12 (IntKind.i64.wrap (Int.tmod (l23.getD (IntKind.i64.wrap (a4 + 2)).toNat 0) 4))) fun (f1 : Int) (e0 : Int) => (b2 (confidantseat_in.f K 11 (IntKind.i64.wrap ((IntKind.i64.wrap ((a5.length : Int) + 2)) + (a7.length : Int)))) fun (f2 : Int) (e1 : Int) => (lt ([(⟨f1, e0⟩ : S32), (⟨f2, e1⟩ : S32)] : List S32) fun g0 => (if (a5.length + g0.length) * 16 ≤ 140737488355328 then (lt (a5 ++ g0) fun e6 => (m3 e6)) else none)))) else (m3 a5)))) else none) else none) else none) else none) else none) else none)) else (e5 a5))) fun m1 => (if (IntKind.i64.wrap (a4 + 2)) < (l23.length : Int) then (m1 (decide ((a5.length : Int) < 30))) else (m1 false))
def confidantseat_Code.l0 (K : Nat) (a27 : Int) (l23 : List Int) (a26 : Int) (a28 : Int) (a29 : Bool) : Nat → (List (List S32)) → Int → Option (List (List S32))
 | 0, _, _ => none
 | n + 1, a1, a0 => if a0 < a27 then (lt (fun (d7 : List (List S32)) => (confidantseat_Code.l0 K a27 l23 a26 a28 a29 n d7 (IntKind.i64.wrap (a0 + 1)))) fun n5 => (lt (fun (a8 : List S32) => (lt (fun (b8 : List S32) => (if (a1.length + ([b8] : List (List S32)).length) * 24 ≤ 140737488355328 then (lt (a1 ++ ([b8] : List (List S32))) fun f0 => (n5 f0)) else none)) fun m4 => (lt (fun (g7 : Bool) => (if g7 = true then (if 0 ≤ a0 then (if a0 < (l23.length : Int) then (b2 (confidantseat_in.f K 26 (IntKind.i64.wrap (IntKind.u8.wrap (Int.tdiv (l23.getD a0.toNat 0) 8)))) fun (g4 : Int) (f3 : Int) => (lt ([(⟨g4, f3⟩ : S32)] : List S32) fun g2 => (if (a8.length + g2.length) * 16 ≤ 140737488355328 then (lt (a8 ++ g2) fun e8 => (m4 e8)) else none))) else none) else none) else (b2 (confidantseat_in.f K 12 (Int.tmod a0 4)) fun (g5 : Int) (f4 : Int) => (b2 (confidantseat_in.f K 25 0) fun (f5 : Int) (e3 : Int) => (lt ([(⟨g5, f4⟩ : S32), (⟨f5, e3⟩ : S32)] : List S32) fun g3 => (if (a8.length + g3.length) * 16 ≤ 140737488355328 then (lt (a8 ++ g3) fun e9 => (m4 e9)) else none)))))) fun j3 => (if (Int.tmod a0 3) = 2 then (if (l23.length : Int) > a0 then (if 0 ≤ a0 then (if a0 < (l23.length : Int) then (j3 (decide ((Int.tmod (l23.getD a0.toNat 0) 8) = 0))) else none) else none) else (j3 false)) else (j3 false))))) fun e5 => (confidantseat_Code.l1 K a27 l23 a26 a28 a29 e5 K ([] : List S32) (IntKind.i64.wrap (3 * a0))))) else (some a1)
def confidantseat_Code.f (K : Nat) (l23 : List Int) (a26 : Int) (a27 : Int) (a28 : Int) (a29 : Bool) : Option (List (List S32)) := confidantseat_Code.l0 K a27 l23 a26 a28 a29 K ([] : List (List S32)) 0
set_option maxRecDepth 100000 in
theorem confidantseat_Code.calls {K : Nat} {l23 : List Int} {a26 : Int} {a27 : Int} {a28 : Int} {a29 : Bool} {A24 : Option Addr} {C25 : Nat} {c8 : List (List S32)} {B w : World} {os : List Ass} {rs : List Ro} (H : confidantseat_Code.f K l23 a26 a27 a28 a29 = some c8) (hS : St B w (os) (Ro.sl (Kd.int .u8) A24 C25 l23 :: rs)) :
  Calls Try.prog 14 [sv A24 C25 l23, ia a26, ia a27, ia a28, .bool (a29)].toArray w (fun en w' => ∃ v, en = .returned v ∧ ∃ n7 : Option Addr, ∃ n9 : Nat, v = sv n7 n9 c8 ∧ St B w' (Ass.deep 29 32 kS32 n7 n9 c8 :: os) (Ro.sl (Kd.int .u8) A24 C25 l23 :: rs)) := by
 unfold confidantseat_Code.f at H
 refine calls_of_EW (args := [sv A24 C25 l23, ia a26, ia a27, ia a28, .bool (a29)]) (c := Cd14) 149 Try.func14 (by kernel_rfl) (by kernel_rfl) (by kernel_rfl) ?_
 refine EW.sq (by kernel_rfl) ?_
 refine EW.rg (by kernel_rfl) ?_
 refine EL.quick 1 [0, 1, 2, 3, 4] [(0, sv A24 C25 l23), (1, ia a26), (2, ia a27), (3, ia a28), (4, .bool (a29))] (by kernel_rfl) ?_
 refine EL.done (by kernel_rfl) ?_
 refine EQ.code ?_
 refine EW.sq (by kernel_rfl) ?_
 refine EW.rg (by kernel_rfl) ?_
 refine EL.quick 1 [0, 1, 2, 3, 4, 11] [(0, sv A24 C25 l23), (1, ia a26), (2, ia a27), (3, ia a28), (4, .bool (a29)), (11, sv none 0 ([] : List (List S32)))] (by kernel_rfl) ?_
 refine EL.done (by kernel_rfl) ?_
 refine EQ.code ?_
 refine EW.sq (by kernel_rfl) ?_
 refine EW.sq (by kernel_rfl) ?_
 refine EW.rg (by kernel_rfl) ?_
 refine EL.quick 1 [0, 1, 2, 3, 4, 11, 12] [(0, sv A24 C25 l23), (1, ia a26), (2, ia a27), (3, ia a28), (4, .bool (a29)), (11, sv none 0 ([] : List (List S32))), (12, ia 0)] (by kernel_rfl) ?_
 refine EL.done (by kernel_rfl) ?_
 refine EQ.code ?_
 refine EW.bl 0 (by kernel_rfl) ?_
 have hS := St.nilDeep hS 29 32 kS32
 refine EW.lp (fun n a w => ∃ a1 : List (List S32), ∃ a0 : Int, ∃ a2 : Option Addr, ∃ a3 : Nat, Sat 149 [(0, sv A24 C25 l23), (1, ia a26), (2, ia a27), (3, ia a28), (4, .bool (a29)), (11, sv a2 a3 a1), (12, ia a0)] a ∧ St B w (Ass.deep 29 32 kS32 a2 a3 a1 :: os) (Ro.sl (Kd.int .u8) A24 C25 l23 :: rs) ∧ confidantseat_Code.l0 K a27 l23 a26 a28 a29 n a1 a0 = some c8) K (by kernel_rfl) ?_ (fun n a w hI => ?_)
 ·refine EQ.keep [0, 1, 2, 3, 4, 11, 12] [(0, sv A24 C25 l23), (1, ia a26), (2, ia a27), (3, ia a28), (4, .bool (a29)), (11, sv none 0 ([] : List (List S32))), (12, ia 0)] (by kernel_rfl) ?_
  exact fun a ha => ⟨([] : List (List S32)), 0, none, 0, ha, (hS.re [0] [] rfl (sub_cons 0 rfl (sub_tail (sub_self)))), H⟩
 obtain ⟨a1, a0, a2, a3, ha, hS, H⟩ := hI
 obtain _ | n := n
 ·simp [confidantseat_Code.l0] at H
 rw [confidantseat_Code.l0.eq_2] at H
 refine EW.at ?_ a ha
 clear ha a
 refine EW.sq (by kernel_rfl) ?_
 refine EW.sq (by kernel_rfl) ?_
 refine EW.rg (by kernel_rfl) ?_
 refine EL.quick 3 [0, 1, 2, 3, 4, 11, 12, 18] [(0, sv A24 C25 l23), (1, ia a26), (2, ia a27), (3, ia a28), (4, .bool (a29)), (11, sv a2 a3 a1), (12, ia a0), (18, .bool (decide (a0 < a27)))] (by kernel_rfl) ?_
 refine EL.done (by kernel_rfl) ?_
 refine EQ.code ?_
 refine EW.cdP (a0 < a27) (by kernel_rfl) (by kernel_rfl) (fun n4 => ?_) (fun n4 => ?_)
 ·rw [if_pos n4] at H
  refine EW.skip (by kernel_rfl) ?_
  refine EQ.code ?_
  obtain ⟨n5, q8, H⟩ := lt_out H
  refine EW.ct (fun a w => ∃ d7 : List (List S32), ∃ f6 : Option Addr, ∃ f8 : Nat, Sat 149 [(0, sv A24 C25 l23), (1, ia a26), (2, ia a27), (3, ia a28), (4, .bool (a29)), (11, sv f6 f8 d7), (12, ia a0)] a ∧ St B w (Ass.deep 29 32 kS32 f6 f8 d7 :: os) (Ro.sl (Kd.int .u8) A24 C25 l23 :: rs) ∧ n5 d7 = some c8) (by kernel_rfl) ?_ (fun a w hI => ?_)
  ·refine EW.bl 1 (by kernel_rfl) ?_
   refine EW.sq (by kernel_rfl) ?_
   refine EW.rg (by kernel_rfl) ?_
   refine EL.quick 1 [0, 1, 2, 3, 4, 11, 12, 13] [(0, sv A24 C25 l23), (1, ia a26), (2, ia a27), (3, ia a28), (4, .bool (a29)), (11, sv a2 a3 a1), (12, ia a0), (13, sv none 0 ([] : List S32))] (by kernel_rfl) ?_
   refine EL.done (by kernel_rfl) ?_
   refine EQ.code ?_
   obtain ⟨e5, q9, H⟩ := lt_out H
   refine EW.ct (fun a w => ∃ a8 : List S32, ∃ b3 : Option Addr, ∃ b4 : Nat, Sat 149 [(0, sv A24 C25 l23), (1, ia a26), (2, ia a27), (3, ia a28), (4, .bool (a29)), (11, sv a2 a3 a1), (12, ia a0), (13, sv b3 b4 a8)] a ∧ St B w (Ass.deep 29 32 kS32 a2 a3 a1 :: Ass.own 32 kS32 b3 b4 a8 :: os) (Ro.sl (Kd.int .u8) A24 C25 l23 :: rs) ∧ e5 a8 = some c8) (by kernel_rfl) ?_ (fun a w hI => ?_)
   ·refine EW.sq (by kernel_rfl) ?_
    refine EW.rg (by kernel_rfl) ?_
    refine EL.quick 3 [0, 1, 2, 3, 4, 11, 12, 13, 14] [(0, sv A24 C25 l23), (1, ia a26), (2, ia a27), (3, ia a28), (4, .bool (a29)), (11, sv a2 a3 a1), (12, ia a0), (13, sv none 0 ([] : List S32)), (14, ia (IntKind.i64.wrap (3 * a0)))] (by kernel_rfl) ?_
    refine EL.done (by kernel_rfl) ?_
    refine EQ.code ?_
    refine EW.bl 2 (by kernel_rfl) ?_
    have hS := St.nilO hS 32 kS32
    refine EW.lp (fun n a w => ∃ a5 : List S32, ∃ a4 : Int, ∃ a9 : Option Addr, ∃ b0 : Nat, Sat 149 [(0, sv A24 C25 l23), (1, ia a26), (2, ia a27), (3, ia a28), (4, .bool (a29)), (11, sv a2 a3 a1), (12, ia a0), (13, sv a9 b0 a5), (14, ia a4)] a ∧ St B w (Ass.deep 29 32 kS32 a2 a3 a1 :: Ass.own 32 kS32 a9 b0 a5 :: os) (Ro.sl (Kd.int .u8) A24 C25 l23 :: rs) ∧ confidantseat_Code.l1 K a27 l23 a26 a28 a29 e5 n a5 a4 = some c8) K (by kernel_rfl) ?_ (fun n a w hI => ?_)
    ·refine EQ.keep [0, 1, 2, 3, 4, 11, 12, 13, 14] [(0, sv A24 C25 l23), (1, ia a26), (2, ia a27), (3, ia a28), (4, .bool (a29)), (11, sv a2 a3 a1), (12, ia a0), (13, sv none 0 ([] : List S32)), (14, ia (IntKind.i64.wrap (3 * a0)))] (by kernel_rfl) ?_
     exact fun a ha => ⟨([] : List S32), IntKind.i64.wrap (3 * a0), none, 0, ha, (hS.re [0, 1] [] rfl (sub_cons 0 rfl (sub_tail (sub_self)))), H⟩
    obtain ⟨a5, a4, a9, b0, ha, hS, H⟩ := hI
    obtain _ | n := n
    ·simp [confidantseat_Code.l1] at H
    rw [confidantseat_Code.l1.eq_2] at H
    refine EW.at ?_ a ha
    clear ha a
    refine EW.sq (by kernel_rfl) ?_
    obtain ⟨m1, t0, H⟩ := lt_out H
    refine EW.ct (fun a w => ∃ g6 : Bool, Sat 149 [(0, sv A24 C25 l23), (1, ia a26), (2, ia a27), (3, ia a28), (4, .bool (a29)), (11, sv a2 a3 a1), (12, ia a0), (13, sv a9 b0 a5), (14, ia a4), (32, .bool (g6))] a ∧ St B w (Ass.deep 29 32 kS32 a2 a3 a1 :: Ass.own 32 kS32 a9 b0 a5 :: os) (Ro.sl (Kd.int .u8) A24 C25 l23 :: rs) ∧ m1 g6 = some c8) (by kernel_rfl) ?_ (fun a w hI => ?_)
    ·refine EW.rg (by kernel_rfl) ?_
     refine EL.quick 6 [0, 1, 2, 3, 4, 11, 12, 13, 14, 28] [(0, sv A24 C25 l23), (1, ia a26), (2, ia a27), (3, ia a28), (4, .bool (a29)), (11, sv a2 a3 a1), (12, ia a0), (13, sv a9 b0 a5), (14, ia a4), (28, .bool (decide ((IntKind.i64.wrap (a4 + 2)) < (l23.length : Int))))] (by kernel_rfl) ?_
     by_cases j4 : (IntKind.i64.wrap (a4 + 2)) < (l23.length : Int)
     ·rw [if_pos j4] at H
      refine EL.keep [0, 1, 2, 3, 4, 11, 12, 13, 14, 28] [(0, sv A24 C25 l23), (1, ia a26), (2, ia a27), (3, ia a28), (4, .bool (a29)), (11, sv a2 a3 a1), (12, ia a0), (13, sv a9 b0 a5), (14, ia a4), (28, .bool (decide ((IntKind.i64.wrap (a4 + 2)) < (l23.length : Int))))] (by kernel_rfl) ?_
      refine EL.as' [(0, sv A24 C25 l23), (1, ia a26), (2, ia a27), (3, ia a28), (4, .bool (a29)), (11, sv a2 a3 a1), (12, ia a0), (13, sv a9 b0 a5), (14, ia a4), (28, .bool (true))] (by simp only [dec_t j4, Bool.not_true, Bool.not_false]) ?_
      refine EL.quick 4 [0, 1, 2, 3, 4, 11, 12, 13, 14, 29, 30, 31, 32] [(0, sv A24 C25 l23), (1, ia a26), (2, ia a27), (3, ia a28), (4, .bool (a29)), (11, sv a2 a3 a1), (12, ia a0), (13, sv a9 b0 a5), (14, ia a4), (29, sv a9 b0 a5), (30, ia (a5.length : Int)), (31, .bool (decide ((a5.length : Int) < 30))), (32, .bool (decide ((a5.length : Int) < 30)))] (by kernel_rfl) ?_
      refine EL.done (by kernel_rfl) ?_
      refine EQ.to ?_
      refine EQ.keep [0, 1, 2, 3, 4, 11, 12, 13, 14, 32] [(0, sv A24 C25 l23), (1, ia a26), (2, ia a27), (3, ia a28), (4, .bool (a29)), (11, sv a2 a3 a1), (12, ia a0), (13, sv a9 b0 a5), (14, ia a4), (32, .bool (decide ((a5.length : Int) < 30)))] (by kernel_rfl) ?_
      exact fun a ha => ⟨decide ((a5.length : Int) < 30), ha, (hS.re [1, 1] [] rfl (sub_cons 0 rfl (sub_tail (sub_self)))), H⟩
     rw [if_neg j4] at H
     refine EL.keep [0, 1, 2, 3, 4, 11, 12, 13, 14, 28] [(0, sv A24 C25 l23), (1, ia a26), (2, ia a27), (3, ia a28), (4, .bool (a29)), (11, sv a2 a3 a1), (12, ia a0), (13, sv a9 b0 a5), (14, ia a4), (28, .bool (decide ((IntKind.i64.wrap (a4 + 2)) < (l23.length : Int))))] (by kernel_rfl) ?_
     refine EL.as' [(0, sv A24 C25 l23), (1, ia a26), (2, ia a27), (3, ia a28), (4, .bool (a29)), (11, sv a2 a3 a1), (12, ia a0), (13, sv a9 b0 a5), (14, ia a4), (28, .bool (false))] (by simp only [dec_f j4, Bool.not_true, Bool.not_false]) ?_
     refine EL.quick 4 [0, 1, 2, 3, 4, 11, 12, 13, 14, 32] [(0, sv A24 C25 l23), (1, ia a26), (2, ia a27), (3, ia a28), (4, .bool (a29)), (11, sv a2 a3 a1), (12, ia a0), (13, sv a9 b0 a5), (14, ia a4), (32, .bool (false))] (by kernel_rfl) ?_
     refine EL.done (by kernel_rfl) ?_
     refine EQ.to ?_
     refine EQ.keep [0, 1, 2, 3, 4, 11, 12, 13, 14, 32] [(0, sv A24 C25 l23), (1, ia a26), (2, ia a27), (3, ia a28), (4, .bool (a29)), (11, sv a2 a3 a1), (12, ia a0), (13, sv a9 b0 a5), (14, ia a4), (32, .bool (false))] (by kernel_rfl) ?_
     exact fun a ha => ⟨false, ha, (hS.re [1, 1] [] rfl (sub_cons 0 rfl (sub_tail (sub_self)))), H⟩
    obtain ⟨g6, ha, hS, H⟩ := hI
    rw [t0] at H
    (try dsimp only at H)
    refine EW.at ?_ a ha
    clear ha a
    refine EW.cdP' (g6) (by kernel_rfl) (by kernel_rfl) (fun m6 => ?_) (fun m6 => ?_)
    ·rw [if_pos m6] at H
     refine EW.skip (by kernel_rfl) ?_
     refine EQ.code ?_
     obtain ⟨m2, t1, H⟩ := lt_out H
     refine EW.ct (fun a w => ∃ m5 : List S32, ∃ d8 : List S32, ∃ n6 : Option Addr, ∃ n8 : Nat, ∃ f7 : Option Addr, ∃ f9 : Nat, Sat 149 [(0, sv A24 C25 l23), (1, ia a26), (2, ia a27), (3, ia a28), (4, .bool (a29)), (11, sv a2 a3 a1), (12, ia a0), (13, sv f7 f9 d8), (14, ia a4)] a ∧ St B w (Ass.own 32 kS32 n6 n8 m5 :: Ass.deep 29 32 kS32 a2 a3 a1 :: Ass.own 32 kS32 f7 f9 d8 :: os) (Ro.sl (Kd.int .u8) A24 C25 l23 :: rs) ∧ m2 m5 d8 = some c8) (by kernel_rfl) ?_ (fun a w hI => ?_)
     ·refine EW.bl 3 (by kernel_rfl) ?_
      refine EW.sq (by kernel_rfl) ?_
      obtain ⟨j1, H⟩ := ite_in H
      obtain ⟨j2, H⟩ := ite_in H
      obtain ⟨a6, rfl⟩ := St.rd_some hS (Rd.ro 0 rfl) j1 j2
      obtain ⟨j5, H⟩ := ite_in H
      obtain ⟨j6, H⟩ := ite_in H
      obtain ⟨j7, H⟩ := ite_in H
      obtain ⟨j8, H⟩ := ite_in H
      obtain ⟨a7, p5, H⟩ := b1_out H
      have hS := hS.drew
      refine EW.dr (B := B) [Ass.deep 29 32 kS32 a2 a3 a1, Ass.own 32 kS32 a9 b0 a5] [Ro.sl (Kd.int .u8) (some a6) C25 l23] (by kernel_rfl) (by kernel_rfl) ?_
      have hN : Region.noSelect Cd14.r.r.l.r.l.l.r.l.l.r.l.r.l.l.r.l.l.l.ops = true := (by kernel_rfl)
      have hF : freeAll Cd14.r.r.l.r.l.l.r.l.l.r.l.r.l.l.r.l.l.l.ops = true := (by kernel_rfl)
      have hC : Core B [Ass.deep 29 32 kS32 a2 a3 a1, Ass.own 32 kS32 a9 b0 a5] [Ro.sl (Kd.int .u8) (some a6) C25 l23] _ := ⟨_, _, hS⟩
      refine ED.quick hN hF hC [0, 1, 4, 5, 6, 9, 10, 11, 14, 15, 16, 17] [0, 1, 2, 3, 4, 11, 12, 13, 14, 37, 38, 41, 43, 46, 48, 51, 52, 53, 54] 8 [(0, sv (some a6) C25 l23), (1, ia a26), (2, ia a27), (3, ia a28), (4, .bool (a29)), (11, sv a2 a3 a1), (12, ia a0), (13, sv a9 b0 a5), (14, ia a4), (37, sv (some a6) C25 l23), (38, ia a4), (41, sv (some a6) C25 l23), (43, ia (IntKind.i64.wrap (a4 + 1))), (46, sv (some a6) C25 l23), (48, ia (IntKind.i64.wrap (a4 + 2))), (51, ia a26), (52, ia a27), (53, ia a28), (54, .bool (a29))] (bm 20 249459) (by kernel_rfl) (by kernel_rfl) ?_
      refine ED.Y hN hF hC 2 7 (bm 20 249463) (by kernel_rfl) (by kernel_rfl) rfl (fun _ _ _ hS => YO.idx 25 1 a6 l23.length C25 .i64 a4 39 (by kernel_rfl) (by kernel_rfl) (by kernel_rfl) (by kernel_rfl) j1 j2) ?_
      refine ED.Y hN hF hC 3 6 (bm 20 249471) (by kernel_rfl) (by kernel_rfl) rfl (fun _ _ _ hS => YO.loadEl hS (Kd.int .u8) a6 C25 l23 (Rd.ro 0 rfl) 0 (encI .u8) encI_of a4 j1 j2 5 1 0 1 rfl (ig (l23.getD a4.toNat 0)) 40 (by kernel_rfl) (by kernel_rfl) (by kernel_rfl) (by kernel_rfl)) ?_
      refine ED.Y hN hF hC 7 5 (bm 20 249599) (by kernel_rfl) (by kernel_rfl) rfl (fun _ _ _ hS => YO.idx 25 1 a6 l23.length C25 .i64 (IntKind.i64.wrap (a4 + 1)) 44 (by kernel_rfl) (by kernel_rfl) (by kernel_rfl) (by kernel_rfl) j5 j6) ?_
      refine ED.Y hN hF hC 8 4 (bm 20 249855) (by kernel_rfl) (by kernel_rfl) rfl (fun _ _ _ hS => YO.loadEl hS (Kd.int .u8) a6 C25 l23 (Rd.ro 0 rfl) 0 (encI .u8) encI_of (IntKind.i64.wrap (a4 + 1)) j5 j6 5 1 0 1 rfl (ig (l23.getD (IntKind.i64.wrap (a4 + 1)).toNat 0)) 45 (by kernel_rfl) (by kernel_rfl) (by kernel_rfl) (by kernel_rfl)) ?_
      refine ED.Y hN hF hC 12 3 (bm 20 253951) (by kernel_rfl) (by kernel_rfl) rfl (fun _ _ _ hS => YO.idx 25 1 a6 l23.length C25 .i64 (IntKind.i64.wrap (a4 + 2)) 49 (by kernel_rfl) (by kernel_rfl) (by kernel_rfl) (by kernel_rfl) j7 j8) ?_
      refine ED.Y hN hF hC 13 2 (bm 20 262143) (by kernel_rfl) (by kernel_rfl) rfl (fun _ _ _ hS => YO.loadEl hS (Kd.int .u8) a6 C25 l23 (Rd.ro 0 rfl) 0 (encI .u8) encI_of (IntKind.i64.wrap (a4 + 2)) j7 j8 5 1 0 1 rfl (ig (l23.getD (IntKind.i64.wrap (a4 + 2)).toNat 0)) 50 (by kernel_rfl) (by kernel_rfl) (by kernel_rfl) (by kernel_rfl)) ?_
      have hq := confidantseat_piece.calls p5 hS
      refine ED.one 18 1 (bm 20 524287) (by kernel_rfl) (by kernel_rfl) (by kernel_rfl) (EO.callD 40 [ig (l23.getD a4.toNat 0), ig (l23.getD (IntKind.i64.wrap (a4 + 1)).toNat 0), ig (l23.getD (IntKind.i64.wrap (a4 + 2)).toNat 0), ia a26, ia a27, ia a28, .bool (a29)] _ 55 (by kernel_rfl) (by kernel_rfl) (by kernel_rfl) hq ?_)
      rintro v w ⟨b5, b6, rfl, hS⟩
      have hC := hC.again ⟨_, _, hS.re [2, 2] [] rfl sub_self⟩
      refine ⟨hC, ?_⟩
      refine ED.quick hN hF hC [19] [0, 1, 2, 3, 4, 11, 12, 13, 14, 15] 0 [(0, sv (some a6) C25 l23), (1, ia a26), (2, ia a27), (3, ia a28), (4, .bool (a29)), (11, sv a2 a3 a1), (12, ia a0), (13, sv a9 b0 a5), (14, ia a4), (15, sv b5 b6 a7)] (bm 20 1048575) (by kernel_rfl) (by kernel_rfl) ?_
      refine ED.done (by kernel_rfl) ?_
      refine EQ.code ?_
      obtain ⟨m3, t2, H⟩ := lt_out H
      refine EW.ct (fun a w => ∃ d9 : List S32, ∃ g8 : Option Addr, ∃ i4 : Nat, Sat 149 [(0, sv (some a6) C25 l23), (1, ia a26), (2, ia a27), (3, ia a28), (4, .bool (a29)), (11, sv a2 a3 a1), (12, ia a0), (13, sv g8 i4 d9), (14, ia a4), (15, sv b5 b6 a7)] a ∧ St B w (Ass.own 32 kS32 b5 b6 a7 :: Ass.deep 29 32 kS32 a2 a3 a1 :: Ass.own 32 kS32 g8 i4 d9 :: os) (Ro.sl (Kd.int .u8) (some a6) C25 l23 :: rs) ∧ m3 d9 = some c8) (by kernel_rfl) ?_ (fun a w hI => ?_)
      ·refine EW.sq (by kernel_rfl) ?_
       refine EW.rg (by kernel_rfl) ?_
       refine EL.quick 3 [0, 1, 2, 3, 4, 11, 12, 13, 14, 15, 56, 58] [(0, sv (some a6) C25 l23), (1, ia a26), (2, ia a27), (3, ia a28), (4, .bool (a29)), (11, sv a2 a3 a1), (12, ia a0), (13, sv a9 b0 a5), (14, ia a4), (15, sv b5 b6 a7), (56, sv (some a6) C25 l23), (58, ia (IntKind.i64.wrap (a4 + 1)))] (by kernel_rfl) ?_
       refine EL.of (EO.Y (YO.idx 25 1 a6 l23.length C25 .i64 (IntKind.i64.wrap (a4 + 1)) 59 (by kernel_rfl) (by kernel_rfl) (by kernel_rfl) (by kernel_rfl) j5 j6) ?_)
       refine EL.of (EO.Y (YO.loadEl hS (Kd.int .u8) a6 C25 l23 (Rd.ro 0 rfl) 0 (encI .u8) encI_of (IntKind.i64.wrap (a4 + 1)) j5 j6 5 1 0 1 rfl (ig (l23.getD (IntKind.i64.wrap (a4 + 1)).toNat 0)) 60 (by kernel_rfl) (by kernel_rfl) (by kernel_rfl) (by kernel_rfl)) ?_)
       refine EL.quick 2 [0, 1, 2, 3, 4, 11, 12, 13, 14, 15, 62] [(0, sv (some a6) C25 l23), (1, ia a26), (2, ia a27), (3, ia a28), (4, .bool (a29)), (11, sv a2 a3 a1), (12, ia a0), (13, sv a9 b0 a5), (14, ia a4), (15, sv b5 b6 a7), (62, .bool (decide ((Int.tmod (l23.getD (IntKind.i64.wrap (a4 + 1)).toNat 0) 5) = 4)))] (by kernel_rfl) ?_
       refine EL.done (by kernel_rfl) ?_
       refine EQ.code ?_
       refine EW.cdP ((Int.tmod (l23.getD (IntKind.i64.wrap (a4 + 1)).toNat 0) 5) = 4) (by kernel_rfl) (by kernel_rfl) (fun m7 => ?_) (fun m7 => ?_)
       ·rw [if_pos m7] at H
        refine EW.rg (by kernel_rfl) ?_
        refine EL.quick 4 [0, 1, 2, 3, 4, 11, 12, 13, 14, 15, 63, 64, 66] [(0, sv (some a6) C25 l23), (1, ia a26), (2, ia a27), (3, ia a28), (4, .bool (a29)), (11, sv a2 a3 a1), (12, ia a0), (13, sv a9 b0 a5), (14, ia a4), (15, sv b5 b6 a7), (63, sv a9 b0 a5), (64, sv (some a6) C25 l23), (66, ia (IntKind.i64.wrap (a4 + 2)))] (by kernel_rfl) ?_
        refine EL.of (EO.Y (YO.idx 25 1 a6 l23.length C25 .i64 (IntKind.i64.wrap (a4 + 2)) 67 (by kernel_rfl) (by kernel_rfl) (by kernel_rfl) (by kernel_rfl) j7 j8) ?_)
        refine EL.of (EO.Y (YO.loadEl hS (Kd.int .u8) a6 C25 l23 (Rd.ro 0 rfl) 0 (encI .u8) encI_of (IntKind.i64.wrap (a4 + 2)) j7 j8 5 1 0 1 rfl (ig (l23.getD (IntKind.i64.wrap (a4 + 2)).toNat 0)) 68 (by kernel_rfl) (by kernel_rfl) (by kernel_rfl) (by kernel_rfl)) ?_)
        refine EL.quick 2 [0, 1, 2, 3, 4, 11, 12, 13, 14, 15, 63, 70] [(0, sv (some a6) C25 l23), (1, ia a26), (2, ia a27), (3, ia a28), (4, .bool (a29)), (11, sv a2 a3 a1), (12, ia a0), (13, sv a9 b0 a5), (14, ia a4), (15, sv b5 b6 a7), (63, sv a9 b0 a5), (70, ia (IntKind.i64.wrap (Int.tmod (l23.getD (IntKind.i64.wrap (a4 + 2)).toNat 0) 4)))] (by kernel_rfl) ?_
        obtain ⟨f1, e0, p6, H⟩ := b2_out H
        have hq := confidantseat_in.calls p6 hS
        refine EL.of (EO.callD 41 [ia 12, ia (IntKind.i64.wrap (Int.tmod (l23.getD (IntKind.i64.wrap (a4 + 2)).toNat 0) 4))] _ 71 (by kernel_rfl) (by kernel_rfl) (by kernel_rfl) hq ?_)
        rintro v w ⟨rfl, hS⟩
        refine EL.quick 6 [0, 1, 2, 3, 4, 11, 12, 14, 15, 63, 71, 77] [(0, sv (some a6) C25 l23), (1, ia a26), (2, ia a27), (3, ia a28), (4, .bool (a29)), (11, sv a2 a3 a1), (12, ia a0), (14, ia a4), (15, sv b5 b6 a7), (63, sv a9 b0 a5), (71, ag [ia f1, ib e0]), (77, ia (IntKind.i64.wrap ((IntKind.i64.wrap ((a5.length : Int) + 2)) + (a7.length : Int))))] (by kernel_rfl) ?_
        obtain ⟨f2, e1, p7, H⟩ := b2_out H
        have hq := confidantseat_in.calls p7 hS
        refine EL.of (EO.callD 41 [ia 11, ia (IntKind.i64.wrap ((IntKind.i64.wrap ((a5.length : Int) + 2)) + (a7.length : Int)))] _ 78 (by kernel_rfl) (by kernel_rfl) (by kernel_rfl) hq ?_)
        rintro v w ⟨rfl, hS⟩
        obtain ⟨g0, o5, H⟩ := lt_out H
        refine EL.of (EO.lit hS kS32 32 29 2 #[(0, ag [ia f1, ib e0]), (1, ag [ia f2, ib e1])] [ia f1, ib e0, ia f2, ib e1] g0 79 (by kernel_rfl) (by kernel_rfl) (by kernel_rfl) (fun _ => (by kernel_rfl)) (by rw [o5]; rfl) (by kernel_rfl) (fun w G hr => (by rw [o5]; exact ⟨[ia f1, ib e0], [ia f2, ib e1], rfl, ⟨[ia f1], [ib e0], rfl, rfl, ⟨[ib e0], [], rfl, rfl, rfl⟩⟩, ⟨[ia f2, ib e1], [], rfl, ⟨[ia f2], [ib e1], rfl, rfl, ⟨[ib e1], [], rfl, rfl, rfl⟩⟩, rfl⟩⟩)) ?_)
        intro o0 w hS
        obtain ⟨o9, H⟩ := ite_in H
        obtain ⟨e6, t5, H⟩ := lt_out H
        refine EL.of (EO.append hS 29 29 32 16 3 kS32 a9 b0 a5 rfl (some ⟨o0, 0, none⟩) 2 g0 (Rd.own 0 32 rfl) e6 t5 (fun g9 i5 => Ass.own 32 kS32 (some ⟨o0, 0, none⟩) 2 g0 :: Ass.own 32 kS32 b5 b6 a7 :: Ass.deep 29 32 kS32 a2 a3 a1 :: Ass.own 32 kS32 g9 i5 e6 :: os) 80 (by kernel_rfl) (by kernel_rfl) (by kernel_rfl) (by kernel_rfl) o9 (fun _ _ => rfl) ?_)
        intro g9 i5 w hS
        refine EL.quick 1 [0, 1, 2, 3, 4, 11, 12, 13, 14, 15] [(0, sv (some a6) C25 l23), (1, ia a26), (2, ia a27), (3, ia a28), (4, .bool (a29)), (11, sv a2 a3 a1), (12, ia a0), (13, sv g9 i5 e6), (14, ia a4), (15, sv b5 b6 a7)] (by kernel_rfl) ?_
        refine EL.done (by kernel_rfl) ?_
        refine EQ.to ?_
        refine EQ.keep [0, 1, 2, 3, 4, 11, 12, 13, 14, 15] [(0, sv (some a6) C25 l23), (1, ia a26), (2, ia a27), (3, ia a28), (4, .bool (a29)), (11, sv a2 a3 a1), (12, ia a0), (13, sv g9 i5 e6), (14, ia a4), (15, sv b5 b6 a7)] (by kernel_rfl) ?_
        exact fun a ha => ⟨e6, g9, i5, ha, (hS.re [3, 3, 3] [3] rfl (sub_cons 0 rfl (sub_tail (sub_self)))), H⟩
       rw [if_neg m7] at H
       refine EW.skip (by kernel_rfl) ?_
       refine EQ.to ?_
       refine EQ.keep [0, 1, 2, 3, 4, 11, 12, 13, 14, 15] [(0, sv (some a6) C25 l23), (1, ia a26), (2, ia a27), (3, ia a28), (4, .bool (a29)), (11, sv a2 a3 a1), (12, ia a0), (13, sv a9 b0 a5), (14, ia a4), (15, sv b5 b6 a7)] (by kernel_rfl) ?_
       exact fun a ha => ⟨a5, a9, b0, ha, (hS.re [2, 2, 2] [] rfl (sub_cons 0 rfl (sub_tail (sub_self)))), H⟩
      obtain ⟨d9, g8, i4, ha, hS, H⟩ := hI
      rw [t2] at H
      (try dsimp only at H)
      refine EW.at ?_ a ha
      clear ha a
      refine EW.sq (by kernel_rfl) ?_
      refine EW.rg (by kernel_rfl) ?_
      refine EL.quick 2 [0, 1, 2, 3, 4, 11, 12, 14, 15, 81, 82] [(0, sv (some a6) C25 l23), (1, ia a26), (2, ia a27), (3, ia a28), (4, .bool (a29)), (11, sv a2 a3 a1), (12, ia a0), (14, ia a4), (15, sv b5 b6 a7), (81, sv g8 i4 d9), (82, sv b5 b6 a7)] (by kernel_rfl) ?_
      obtain ⟨p0, H⟩ := ite_in H
      obtain ⟨b7, t6, H⟩ := lt_out H
      refine EL.of (EO.append hS 29 29 32 16 2 kS32 g8 i4 d9 rfl b5 b6 a7 (Rd.own 0 32 rfl) b7 t6 (fun b9 c0 => Ass.own 32 kS32 b5 b6 a7 :: Ass.deep 29 32 kS32 a2 a3 a1 :: Ass.own 32 kS32 b9 c0 b7 :: os) 83 (by kernel_rfl) (by kernel_rfl) (by kernel_rfl) (by kernel_rfl) p0 (fun _ _ => rfl) ?_)
      intro b9 c0 w hS
      refine EL.quick 1 [0, 1, 2, 3, 4, 11, 12, 13, 14, 15] [(0, sv (some a6) C25 l23), (1, ia a26), (2, ia a27), (3, ia a28), (4, .bool (a29)), (11, sv a2 a3 a1), (12, ia a0), (13, sv b9 c0 b7), (14, ia a4), (15, sv b5 b6 a7)] (by kernel_rfl) ?_
      refine EL.done (by kernel_rfl) ?_
      refine EQ.code ?_
      refine EW.sq (by kernel_rfl) ?_
      refine EW.rg (by kernel_rfl) ?_
      refine EL.quick 2 [0, 1, 2, 3, 4, 11, 12, 13, 14, 15, 84, 85] [(0, sv (some a6) C25 l23), (1, ia a26), (2, ia a27), (3, ia a28), (4, .bool (a29)), (11, sv a2 a3 a1), (12, ia a0), (13, sv b9 c0 b7), (14, ia a4), (15, sv b5 b6 a7), (84, sv (some a6) C25 l23), (85, ia a4)] (by kernel_rfl) ?_
      refine EL.of (EO.Y (YO.idx 25 1 a6 l23.length C25 .i64 a4 86 (by kernel_rfl) (by kernel_rfl) (by kernel_rfl) (by kernel_rfl) j1 j2) ?_)
      refine EL.of (EO.Y (YO.loadEl hS (Kd.int .u8) a6 C25 l23 (Rd.ro 0 rfl) 0 (encI .u8) encI_of a4 j1 j2 5 1 0 1 rfl (ig (l23.getD a4.toNat 0)) 87 (by kernel_rfl) (by kernel_rfl) (by kernel_rfl) (by kernel_rfl)) ?_)
      refine EL.quick 2 [0, 1, 2, 3, 4, 11, 12, 13, 14, 15, 89] [(0, sv (some a6) C25 l23), (1, ia a26), (2, ia a27), (3, ia a28), (4, .bool (a29)), (11, sv a2 a3 a1), (12, ia a0), (13, sv b9 c0 b7), (14, ia a4), (15, sv b5 b6 a7), (89, .bool (decide ((Int.tmod (l23.getD a4.toNat 0) 16) = 14)))] (by kernel_rfl) ?_
      refine EL.done (by kernel_rfl) ?_
      refine EQ.code ?_
      refine EW.cdP ((Int.tmod (l23.getD a4.toNat 0) 16) = 14) (by kernel_rfl) (by kernel_rfl) (fun m8 => ?_) (fun m8 => ?_)
      ·rw [if_pos m8] at H
       refine EW.rg (by kernel_rfl) ?_
       refine EL.quick 1 [0, 1, 2, 3, 4, 11, 12, 13, 14, 15, 90] [(0, sv (some a6) C25 l23), (1, ia a26), (2, ia a27), (3, ia a28), (4, .bool (a29)), (11, sv a2 a3 a1), (12, ia a0), (13, sv b9 c0 b7), (14, ia a4), (15, sv b5 b6 a7), (90, sv b9 c0 b7)] (by kernel_rfl) ?_
       obtain ⟨e2, d5, p8, H⟩ := b2_out H
       have hq := confidantseat_in.calls p8 hS
       refine EL.of (EO.callD 41 [ia 12, ia 1] _ 91 (by kernel_rfl) (by kernel_rfl) (by kernel_rfl) hq ?_)
       rintro v w ⟨rfl, hS⟩
       obtain ⟨d6, d1, p9, H⟩ := b2_out H
       have hq := confidantseat_in.calls p9 hS
       refine EL.of (EO.callD 41 [ia 1, ia 1] _ 92 (by kernel_rfl) (by kernel_rfl) (by kernel_rfl) hq ?_)
       rintro v w ⟨rfl, hS⟩
       obtain ⟨d2, c9, q0, H⟩ := b2_out H
       have hq := confidantseat_in.calls q0 hS
       refine EL.of (EO.callD 41 [ia 5, ia 0] _ 93 (by kernel_rfl) (by kernel_rfl) (by kernel_rfl) hq ?_)
       rintro v w ⟨rfl, hS⟩
       obtain ⟨d0, c4, q1, H⟩ := b2_out H
       have hq := confidantseat_in.calls q1 hS
       refine EL.of (EO.callD 41 [ia 13, ia 1] _ 94 (by kernel_rfl) (by kernel_rfl) (by kernel_rfl) hq ?_)
       rintro v w ⟨rfl, hS⟩
       obtain ⟨c5, c1, q2, H⟩ := b2_out H
       have hq := confidantseat_in.calls q2 hS
       refine EL.of (EO.callD 41 [ia 12, ia 1] _ 95 (by kernel_rfl) (by kernel_rfl) (by kernel_rfl) hq ?_)
       rintro v w ⟨rfl, hS⟩
       refine EL.quick 3 [0, 1, 2, 3, 4, 11, 12, 13, 14, 15, 90, 91, 92, 93, 94, 95, 98] [(0, sv (some a6) C25 l23), (1, ia a26), (2, ia a27), (3, ia a28), (4, .bool (a29)), (11, sv a2 a3 a1), (12, ia a0), (13, sv b9 c0 b7), (14, ia a4), (15, sv b5 b6 a7), (90, sv b9 c0 b7), (91, ag [ia e2, ib d5]), (92, ag [ia d6, ib d1]), (93, ag [ia d2, ib c9]), (94, ag [ia d0, ib c4]), (95, ag [ia c5, ib c1]), (98, ia (IntKind.i64.wrap ((b7.length : Int) + 7)))] (by kernel_rfl) ?_
       obtain ⟨c6, c2, q3, H⟩ := b2_out H
       have hq := confidantseat_in.calls q3 hS
       refine EL.of (EO.callD 41 [ia 11, ia (IntKind.i64.wrap ((b7.length : Int) + 7))] _ 99 (by kernel_rfl) (by kernel_rfl) (by kernel_rfl) hq ?_)
       rintro v w ⟨rfl, hS⟩
       refine EL.quick 7 [0, 1, 2, 3, 4, 11, 12, 14, 90, 91, 92, 93, 94, 95, 99, 106] [(0, sv (some a6) C25 l23), (1, ia a26), (2, ia a27), (3, ia a28), (4, .bool (a29)), (11, sv a2 a3 a1), (12, ia a0), (14, ia a4), (90, sv b9 c0 b7), (91, ag [ia e2, ib d5]), (92, ag [ia d6, ib d1]), (93, ag [ia d2, ib c9]), (94, ag [ia d0, ib c4]), (95, ag [ia c5, ib c1]), (99, ag [ia c6, ib c2]), (106, ia (mx (IntKind.i64.wrap ((IntKind.i64.wrap ((b7.length : Int) - (a7.length : Int))) + 2)) 0))] (by kernel_rfl) ?_
       obtain ⟨c7, c3, q4, H⟩ := b2_out H
       have hq := confidantseat_in.calls q4 hS
       refine EL.of (EO.callD 41 [ia 10, ia (mx (IntKind.i64.wrap ((IntKind.i64.wrap ((b7.length : Int) - (a7.length : Int))) + 2)) 0)] _ 107 (by kernel_rfl) (by kernel_rfl) (by kernel_rfl) hq ?_)
       rintro v w ⟨rfl, hS⟩
       obtain ⟨g1, o6, H⟩ := lt_out H
       refine EL.of (EO.lit hS kS32 32 29 7 #[(0, ag [ia e2, ib d5]), (1, ag [ia d6, ib d1]), (2, ag [ia d2, ib c9]), (3, ag [ia d0, ib c4]), (4, ag [ia c5, ib c1]), (5, ag [ia c6, ib c2]), (6, ag [ia c7, ib c3])] [ia e2, ib d5, ia d6, ib d1, ia d2, ib c9, ia d0, ib c4, ia c5, ib c1, ia c6, ib c2, ia c7, ib c3] g1 108 (by kernel_rfl) (by kernel_rfl) (by kernel_rfl) (fun _ => (by kernel_rfl)) (by rw [o6]; rfl) (by kernel_rfl) (fun w G hr => (by rw [o6]; exact ⟨[ia e2, ib d5], [ia d6, ib d1, ia d2, ib c9, ia d0, ib c4, ia c5, ib c1, ia c6, ib c2, ia c7, ib c3], rfl, ⟨[ia e2], [ib d5], rfl, rfl, ⟨[ib d5], [], rfl, rfl, rfl⟩⟩, ⟨[ia d6, ib d1], [ia d2, ib c9, ia d0, ib c4, ia c5, ib c1, ia c6, ib c2, ia c7, ib c3], rfl, ⟨[ia d6], [ib d1], rfl, rfl, ⟨[ib d1], [], rfl, rfl, rfl⟩⟩, ⟨[ia d2, ib c9], [ia d0, ib c4, ia c5, ib c1, ia c6, ib c2, ia c7, ib c3], rfl, ⟨[ia d2], [ib c9], rfl, rfl, ⟨[ib c9], [], rfl, rfl, rfl⟩⟩, ⟨[ia d0, ib c4], [ia c5, ib c1, ia c6, ib c2, ia c7, ib c3], rfl, ⟨[ia d0], [ib c4], rfl, rfl, ⟨[ib c4], [], rfl, rfl, rfl⟩⟩, ⟨[ia c5, ib c1], [ia c6, ib c2, ia c7, ib c3], rfl, ⟨[ia c5], [ib c1], rfl, rfl, ⟨[ib c1], [], rfl, rfl, rfl⟩⟩, ⟨[ia c6, ib c2], [ia c7, ib c3], rfl, ⟨[ia c6], [ib c2], rfl, rfl, ⟨[ib c2], [], rfl, rfl, rfl⟩⟩, ⟨[ia c7, ib c3], [], rfl, ⟨[ia c7], [ib c3], rfl, rfl, ⟨[ib c3], [], rfl, rfl, rfl⟩⟩, rfl⟩⟩⟩⟩⟩⟩⟩)) ?_)
       intro o1 w hS
       obtain ⟨p1, H⟩ := ite_in H
       obtain ⟨e7, t7, H⟩ := lt_out H
       refine EL.of (EO.append hS 29 29 32 16 3 kS32 b9 c0 b7 rfl (some ⟨o1, 0, none⟩) 7 g1 (Rd.own 0 32 rfl) e7 t7 (fun i0 i6 => Ass.own 32 kS32 (some ⟨o1, 0, none⟩) 7 g1 :: Ass.own 32 kS32 b5 b6 a7 :: Ass.deep 29 32 kS32 a2 a3 a1 :: Ass.own 32 kS32 i0 i6 e7 :: os) 109 (by kernel_rfl) (by kernel_rfl) (by kernel_rfl) (by kernel_rfl) p1 (fun _ _ => rfl) ?_)
       intro i0 i6 w hS
       refine EL.quick 1 [0, 1, 2, 3, 4, 11, 12, 13, 14] [(0, sv (some a6) C25 l23), (1, ia a26), (2, ia a27), (3, ia a28), (4, .bool (a29)), (11, sv a2 a3 a1), (12, ia a0), (13, sv i0 i6 e7), (14, ia a4)] (by kernel_rfl) ?_
       refine EL.done (by kernel_rfl) ?_
       refine EQ.pop ?_
       refine EQ.to ?_
       refine EQ.keep [0, 1, 2, 3, 4, 11, 12, 13, 14] [(0, sv (some a6) C25 l23), (1, ia a26), (2, ia a27), (3, ia a28), (4, .bool (a29)), (11, sv a2 a3 a1), (12, ia a0), (13, sv i0 i6 e7), (14, ia a4)] (by kernel_rfl) ?_
       exact fun a ha => ⟨a7, e7, b5, b6, i0, i6, ha, (hS.re [3, 3, 3] [3] rfl (sub_cons 0 rfl (sub_tail (sub_self)))), H⟩
      rw [if_neg m8] at H
      refine EW.skip (by kernel_rfl) ?_
      refine EQ.pop ?_
      refine EQ.to ?_
      refine EQ.keep [0, 1, 2, 3, 4, 11, 12, 13, 14] [(0, sv (some a6) C25 l23), (1, ia a26), (2, ia a27), (3, ia a28), (4, .bool (a29)), (11, sv a2 a3 a1), (12, ia a0), (13, sv b9 c0 b7), (14, ia a4)] (by kernel_rfl) ?_
      exact fun a ha => ⟨a7, b7, b5, b6, b9, c0, ha, (hS.re [2, 2, 2] [] rfl (sub_cons 0 rfl (sub_tail (sub_self)))), H⟩
     obtain ⟨m5, d8, n6, n8, f7, f9, ha, hS, H⟩ := hI
     rw [t1] at H
     (try dsimp only at H)
     refine EW.at ?_ a ha
     clear ha a
     refine EW.rg (by kernel_rfl) ?_
     refine EL.quick 5 [0, 1, 2, 3, 4, 11, 12, 13, 14] [(0, sv A24 C25 l23), (1, ia a26), (2, ia a27), (3, ia a28), (4, .bool (a29)), (11, sv a2 a3 a1), (12, ia a0), (13, sv f7 f9 d8), (14, ia (IntKind.i64.wrap (a4 + (IntKind.i64.wrap (3 * a27)))))] (by kernel_rfl) ?_
     refine EL.done (by kernel_rfl) ?_
     refine EQ.to ?_
     refine EQ.keep [0, 1, 2, 3, 4, 11, 12, 13, 14] [(0, sv A24 C25 l23), (1, ia a26), (2, ia a27), (3, ia a28), (4, .bool (a29)), (11, sv a2 a3 a1), (12, ia a0), (13, sv f7 f9 d8), (14, ia (IntKind.i64.wrap (a4 + (IntKind.i64.wrap (3 * a27)))))] (by kernel_rfl) ?_
     exact fun a ha => ⟨n, Nat.lt_succ_self n, d8, IntKind.i64.wrap (a4 + (IntKind.i64.wrap (3 * a27))), f7, f9, ha, (hS.re [2, 2] [2] rfl (sub_cons 0 rfl (sub_tail (sub_self)))), H⟩
    rw [if_neg m6] at H
    refine EW.exit (id := 2) (by kernel_rfl) ?_
    refine EQ.exitCode ?_
    refine EQ.exitTo ?_
    refine EQ.exitHere ?_
    refine EQ.to ?_
    refine EQ.keep [0, 1, 2, 3, 4, 11, 12, 13] [(0, sv A24 C25 l23), (1, ia a26), (2, ia a27), (3, ia a28), (4, .bool (a29)), (11, sv a2 a3 a1), (12, ia a0), (13, sv a9 b0 a5)] (by kernel_rfl) ?_
    exact fun a ha => ⟨a5, a9, b0, ha, (hS.re [1, 1] [] rfl (sub_cons 0 rfl (sub_tail (sub_self)))), H⟩
   obtain ⟨a8, b3, b4, ha, hS, H⟩ := hI
   rw [q9] at H
   (try dsimp only at H)
   refine EW.at ?_ a ha
   clear ha a
   obtain ⟨m4, t3, H⟩ := lt_out H
   refine EW.ct (fun a w => ∃ b8 : List S32, ∃ d3 : Option Addr, ∃ d4 : Nat, Sat 149 [(0, sv A24 C25 l23), (1, ia a26), (2, ia a27), (3, ia a28), (4, .bool (a29)), (11, sv a2 a3 a1), (12, ia a0), (13, sv d3 d4 b8)] a ∧ St B w (Ass.deep 29 32 kS32 a2 a3 a1 :: Ass.own 32 kS32 d3 d4 b8 :: os) (Ro.sl (Kd.int .u8) A24 C25 l23 :: rs) ∧ m4 b8 = some c8) (by kernel_rfl) ?_ (fun a w hI => ?_)
   ·obtain ⟨j3, t4, H⟩ := lt_out H
    refine EW.ct (fun a w => ∃ g7 : Bool, Sat 149 [(0, sv A24 C25 l23), (1, ia a26), (2, ia a27), (3, ia a28), (4, .bool (a29)), (11, sv a2 a3 a1), (12, ia a0), (13, sv b3 b4 a8), (126, .bool (g7))] a ∧ St B w (Ass.deep 29 32 kS32 a2 a3 a1 :: Ass.own 32 kS32 b3 b4 a8 :: os) (Ro.sl (Kd.int .u8) A24 C25 l23 :: rs) ∧ j3 g7 = some c8) (by kernel_rfl) ?_ (fun a w hI => ?_)
    ·refine EW.rg (by kernel_rfl) ?_
     refine EL.quick 4 [0, 1, 2, 3, 4, 11, 12, 13, 113] [(0, sv A24 C25 l23), (1, ia a26), (2, ia a27), (3, ia a28), (4, .bool (a29)), (11, sv a2 a3 a1), (12, ia a0), (13, sv b3 b4 a8), (113, .bool (decide ((Int.tmod a0 3) = 2)))] (by kernel_rfl) ?_
     by_cases j9 : (Int.tmod a0 3) = 2
     ·rw [if_pos j9] at H
      refine EL.keep [0, 1, 2, 3, 4, 11, 12, 13, 113] [(0, sv A24 C25 l23), (1, ia a26), (2, ia a27), (3, ia a28), (4, .bool (a29)), (11, sv a2 a3 a1), (12, ia a0), (13, sv b3 b4 a8), (113, .bool (decide ((Int.tmod a0 3) = 2)))] (by kernel_rfl) ?_
      refine EL.as' [(0, sv A24 C25 l23), (1, ia a26), (2, ia a27), (3, ia a28), (4, .bool (a29)), (11, sv a2 a3 a1), (12, ia a0), (13, sv b3 b4 a8), (113, .bool (true))] (by simp only [dec_t j9, Bool.not_true, Bool.not_false]) ?_
      refine EL.quick 6 [0, 1, 2, 3, 4, 11, 12, 13, 114, 115, 116, 117, 119] [(0, sv A24 C25 l23), (1, ia a26), (2, ia a27), (3, ia a28), (4, .bool (a29)), (11, sv a2 a3 a1), (12, ia a0), (13, sv b3 b4 a8), (114, sv A24 C25 l23), (115, ia (l23.length : Int)), (116, ia a0), (117, .bool (decide ((l23.length : Int) > a0))), (119, .bool (decide ((l23.length : Int) > a0)))] (by kernel_rfl) ?_
      by_cases m0 : (l23.length : Int) > a0
      ·rw [if_pos m0] at H
       refine EL.keep [0, 1, 2, 3, 4, 11, 12, 13, 114, 115, 116, 117, 119] [(0, sv A24 C25 l23), (1, ia a26), (2, ia a27), (3, ia a28), (4, .bool (a29)), (11, sv a2 a3 a1), (12, ia a0), (13, sv b3 b4 a8), (114, sv A24 C25 l23), (115, ia (l23.length : Int)), (116, ia a0), (117, .bool (decide ((l23.length : Int) > a0))), (119, .bool (decide ((l23.length : Int) > a0)))] (by kernel_rfl) ?_
       refine EL.as' [(0, sv A24 C25 l23), (1, ia a26), (2, ia a27), (3, ia a28), (4, .bool (a29)), (11, sv a2 a3 a1), (12, ia a0), (13, sv b3 b4 a8), (114, sv A24 C25 l23), (115, ia (l23.length : Int)), (116, ia a0), (117, .bool (true)), (119, .bool (true))] (by simp only [dec_t m0, Bool.not_true, Bool.not_false]) ?_
       refine EL.quick 2 [0, 1, 2, 3, 4, 11, 12, 13, 114, 115, 116, 117, 119, 120, 121] [(0, sv A24 C25 l23), (1, ia a26), (2, ia a27), (3, ia a28), (4, .bool (a29)), (11, sv a2 a3 a1), (12, ia a0), (13, sv b3 b4 a8), (114, sv A24 C25 l23), (115, ia (l23.length : Int)), (116, ia a0), (117, .bool (true)), (119, .bool (true)), (120, sv A24 C25 l23), (121, ia a0)] (by kernel_rfl) ?_
       obtain ⟨m9, H⟩ := ite_in H
       obtain ⟨n0, H⟩ := ite_in H
       obtain ⟨e4, rfl⟩ := St.rd_some hS (Rd.ro 0 rfl) m9 n0
       refine EL.of (EO.Y (YO.idx 25 1 e4 l23.length C25 .i64 a0 122 (by kernel_rfl) (by kernel_rfl) (by kernel_rfl) (by kernel_rfl) m9 n0) ?_)
       refine EL.of (EO.Y (YO.loadEl hS (Kd.int .u8) e4 C25 l23 (Rd.ro 0 rfl) 0 (encI .u8) encI_of a0 m9 n0 5 1 0 1 rfl (ig (l23.getD a0.toNat 0)) 123 (by kernel_rfl) (by kernel_rfl) (by kernel_rfl) (by kernel_rfl)) ?_)
       refine EL.quick 3 [0, 1, 2, 3, 4, 11, 12, 13, 114, 115, 116, 117, 120, 121, 122, 123, 124, 125, 126] [(0, sv (some e4) C25 l23), (1, ia a26), (2, ia a27), (3, ia a28), (4, .bool (a29)), (11, sv a2 a3 a1), (12, ia a0), (13, sv b3 b4 a8), (114, sv (some e4) C25 l23), (115, ia (l23.length : Int)), (116, ia a0), (117, .bool (true)), (120, sv (some e4) C25 l23), (121, ia a0), (122, .pointer (some ((e4.add (a0.toNat * 1)).add 0))), (123, ig (l23.getD a0.toNat 0)), (124, ig (Int.tmod (l23.getD a0.toNat 0) 8)), (125, .bool (decide ((Int.tmod (l23.getD a0.toNat 0) 8) = 0))), (126, .bool (decide ((Int.tmod (l23.getD a0.toNat 0) 8) = 0)))] (by kernel_rfl) ?_
       refine EL.done (by kernel_rfl) ?_
       refine EQ.to ?_
       refine EQ.keep [0, 1, 2, 3, 4, 11, 12, 13, 126] [(0, sv (some e4) C25 l23), (1, ia a26), (2, ia a27), (3, ia a28), (4, .bool (a29)), (11, sv a2 a3 a1), (12, ia a0), (13, sv b3 b4 a8), (126, .bool (decide ((Int.tmod (l23.getD a0.toNat 0) 8) = 0)))] (by kernel_rfl) ?_
       exact fun a ha => ⟨decide ((Int.tmod (l23.getD a0.toNat 0) 8) = 0), ha, (hS.re [1, 1] [] rfl (sub_cons 0 rfl (sub_tail (sub_self)))), H⟩
      rw [if_neg m0] at H
      refine EL.keep [0, 1, 2, 3, 4, 11, 12, 13, 114, 115, 116, 117, 119] [(0, sv A24 C25 l23), (1, ia a26), (2, ia a27), (3, ia a28), (4, .bool (a29)), (11, sv a2 a3 a1), (12, ia a0), (13, sv b3 b4 a8), (114, sv A24 C25 l23), (115, ia (l23.length : Int)), (116, ia a0), (117, .bool (decide ((l23.length : Int) > a0))), (119, .bool (decide ((l23.length : Int) > a0)))] (by kernel_rfl) ?_
      refine EL.as' [(0, sv A24 C25 l23), (1, ia a26), (2, ia a27), (3, ia a28), (4, .bool (a29)), (11, sv a2 a3 a1), (12, ia a0), (13, sv b3 b4 a8), (114, sv A24 C25 l23), (115, ia (l23.length : Int)), (116, ia a0), (117, .bool (false)), (119, .bool (false))] (by simp only [dec_f m0, Bool.not_true, Bool.not_false]) ?_
      refine EL.quick 7 [0, 1, 2, 3, 4, 11, 12, 13, 114, 115, 116, 117, 126] [(0, sv A24 C25 l23), (1, ia a26), (2, ia a27), (3, ia a28), (4, .bool (a29)), (11, sv a2 a3 a1), (12, ia a0), (13, sv b3 b4 a8), (114, sv A24 C25 l23), (115, ia (l23.length : Int)), (116, ia a0), (117, .bool (false)), (126, .bool (false))] (by kernel_rfl) ?_
      refine EL.done (by kernel_rfl) ?_
      refine EQ.to ?_
      refine EQ.keep [0, 1, 2, 3, 4, 11, 12, 13, 126] [(0, sv A24 C25 l23), (1, ia a26), (2, ia a27), (3, ia a28), (4, .bool (a29)), (11, sv a2 a3 a1), (12, ia a0), (13, sv b3 b4 a8), (126, .bool (false))] (by kernel_rfl) ?_
      exact fun a ha => ⟨false, ha, (hS.re [1, 1] [] rfl (sub_cons 0 rfl (sub_tail (sub_self)))), H⟩
     rw [if_neg j9] at H
     refine EL.keep [0, 1, 2, 3, 4, 11, 12, 13, 113] [(0, sv A24 C25 l23), (1, ia a26), (2, ia a27), (3, ia a28), (4, .bool (a29)), (11, sv a2 a3 a1), (12, ia a0), (13, sv b3 b4 a8), (113, .bool (decide ((Int.tmod a0 3) = 2)))] (by kernel_rfl) ?_
     refine EL.as' [(0, sv A24 C25 l23), (1, ia a26), (2, ia a27), (3, ia a28), (4, .bool (a29)), (11, sv a2 a3 a1), (12, ia a0), (13, sv b3 b4 a8), (113, .bool (false))] (by simp only [dec_f j9, Bool.not_true, Bool.not_false]) ?_
     refine EL.quick 13 [0, 1, 2, 3, 4, 11, 12, 13, 126] [(0, sv A24 C25 l23), (1, ia a26), (2, ia a27), (3, ia a28), (4, .bool (a29)), (11, sv a2 a3 a1), (12, ia a0), (13, sv b3 b4 a8), (126, .bool (false))] (by kernel_rfl) ?_
     refine EL.done (by kernel_rfl) ?_
     refine EQ.to ?_
     refine EQ.keep [0, 1, 2, 3, 4, 11, 12, 13, 126] [(0, sv A24 C25 l23), (1, ia a26), (2, ia a27), (3, ia a28), (4, .bool (a29)), (11, sv a2 a3 a1), (12, ia a0), (13, sv b3 b4 a8), (126, .bool (false))] (by kernel_rfl) ?_
     exact fun a ha => ⟨false, ha, (hS.re [1, 1] [] rfl (sub_cons 0 rfl (sub_tail (sub_self)))), H⟩
    obtain ⟨g7, ha, hS, H⟩ := hI
    rw [t4] at H
    (try dsimp only at H)
    refine EW.at ?_ a ha
    clear ha a
    refine EW.cdP' (g7) (by kernel_rfl) (by kernel_rfl) (fun n1 => ?_) (fun n1 => ?_)
    ·rw [if_pos n1] at H
     refine EW.rg (by kernel_rfl) ?_
     refine EL.quick 3 [0, 1, 2, 3, 4, 11, 12, 127, 128, 129] [(0, sv A24 C25 l23), (1, ia a26), (2, ia a27), (3, ia a28), (4, .bool (a29)), (11, sv a2 a3 a1), (12, ia a0), (127, sv b3 b4 a8), (128, sv A24 C25 l23), (129, ia a0)] (by kernel_rfl) ?_
     obtain ⟨n2, H⟩ := ite_in H
     obtain ⟨n3, H⟩ := ite_in H
     obtain ⟨j0, rfl⟩ := St.rd_some hS (Rd.ro 0 rfl) n2 n3
     refine EL.of (EO.Y (YO.idx 25 1 j0 l23.length C25 .i64 a0 130 (by kernel_rfl) (by kernel_rfl) (by kernel_rfl) (by kernel_rfl) n2 n3) ?_)
     refine EL.of (EO.Y (YO.loadEl hS (Kd.int .u8) j0 C25 l23 (Rd.ro 0 rfl) 0 (encI .u8) encI_of a0 n2 n3 5 1 0 1 rfl (ig (l23.getD a0.toNat 0)) 131 (by kernel_rfl) (by kernel_rfl) (by kernel_rfl) (by kernel_rfl)) ?_)
     refine EL.quick 2 [0, 1, 2, 3, 4, 11, 12, 127, 133] [(0, sv (some j0) C25 l23), (1, ia a26), (2, ia a27), (3, ia a28), (4, .bool (a29)), (11, sv a2 a3 a1), (12, ia a0), (127, sv b3 b4 a8), (133, ia (IntKind.i64.wrap (IntKind.u8.wrap (Int.tdiv (l23.getD a0.toNat 0) 8))))] (by kernel_rfl) ?_
     obtain ⟨g4, f3, q5, H⟩ := b2_out H
     have hq := confidantseat_in.calls q5 hS
     refine EL.of (EO.callD 41 [ia 26, ia (IntKind.i64.wrap (IntKind.u8.wrap (Int.tdiv (l23.getD a0.toNat 0) 8)))] _ 134 (by kernel_rfl) (by kernel_rfl) (by kernel_rfl) hq ?_)
     rintro v w ⟨rfl, hS⟩
     obtain ⟨g2, o7, H⟩ := lt_out H
     refine EL.of (EO.lit hS kS32 32 29 1 #[(0, ag [ia g4, ib f3])] [ia g4, ib f3] g2 135 (by kernel_rfl) (by kernel_rfl) (by kernel_rfl) (fun _ => (by kernel_rfl)) (by rw [o7]; rfl) (by kernel_rfl) (fun w G hr => (by rw [o7]; exact ⟨[ia g4, ib f3], [], rfl, ⟨[ia g4], [ib f3], rfl, rfl, ⟨[ib f3], [], rfl, rfl, rfl⟩⟩, rfl⟩)) ?_)
     intro o2 w hS
     obtain ⟨p2, H⟩ := ite_in H
     obtain ⟨e8, t8, H⟩ := lt_out H
     refine EL.of (EO.append hS 29 29 32 16 2 kS32 b3 b4 a8 rfl (some ⟨o2, 0, none⟩) 1 g2 (Rd.own 0 32 rfl) e8 t8 (fun i1 i7 => Ass.own 32 kS32 (some ⟨o2, 0, none⟩) 1 g2 :: Ass.deep 29 32 kS32 a2 a3 a1 :: Ass.own 32 kS32 i1 i7 e8 :: os) 136 (by kernel_rfl) (by kernel_rfl) (by kernel_rfl) (by kernel_rfl) p2 (fun _ _ => rfl) ?_)
     intro i1 i7 w hS
     refine EL.quick 1 [0, 1, 2, 3, 4, 11, 12, 13] [(0, sv (some j0) C25 l23), (1, ia a26), (2, ia a27), (3, ia a28), (4, .bool (a29)), (11, sv a2 a3 a1), (12, ia a0), (13, sv i1 i7 e8)] (by kernel_rfl) ?_
     refine EL.done (by kernel_rfl) ?_
     refine EQ.to ?_
     refine EQ.keep [0, 1, 2, 3, 4, 11, 12, 13] [(0, sv (some j0) C25 l23), (1, ia a26), (2, ia a27), (3, ia a28), (4, .bool (a29)), (11, sv a2 a3 a1), (12, ia a0), (13, sv i1 i7 e8)] (by kernel_rfl) ?_
     exact fun a ha => ⟨e8, i1, i7, ha, (hS.re [2, 2] [2] rfl (sub_cons 0 rfl (sub_tail (sub_self)))), H⟩
    rw [if_neg n1] at H
    refine EW.rg (by kernel_rfl) ?_
    refine EL.quick 3 [0, 1, 2, 3, 4, 11, 12, 137, 139] [(0, sv A24 C25 l23), (1, ia a26), (2, ia a27), (3, ia a28), (4, .bool (a29)), (11, sv a2 a3 a1), (12, ia a0), (137, sv b3 b4 a8), (139, ia (Int.tmod a0 4))] (by kernel_rfl) ?_
    obtain ⟨g5, f4, q6, H⟩ := b2_out H
    have hq := confidantseat_in.calls q6 hS
    refine EL.of (EO.callD 41 [ia 12, ia (Int.tmod a0 4)] _ 140 (by kernel_rfl) (by kernel_rfl) (by kernel_rfl) hq ?_)
    rintro v w ⟨rfl, hS⟩
    obtain ⟨f5, e3, q7, H⟩ := b2_out H
    have hq := confidantseat_in.calls q7 hS
    refine EL.of (EO.callD 41 [ia 25, ia 0] _ 141 (by kernel_rfl) (by kernel_rfl) (by kernel_rfl) hq ?_)
    rintro v w ⟨rfl, hS⟩
    obtain ⟨g3, o8, H⟩ := lt_out H
    refine EL.of (EO.lit hS kS32 32 29 2 #[(0, ag [ia g5, ib f4]), (1, ag [ia f5, ib e3])] [ia g5, ib f4, ia f5, ib e3] g3 142 (by kernel_rfl) (by kernel_rfl) (by kernel_rfl) (fun _ => (by kernel_rfl)) (by rw [o8]; rfl) (by kernel_rfl) (fun w G hr => (by rw [o8]; exact ⟨[ia g5, ib f4], [ia f5, ib e3], rfl, ⟨[ia g5], [ib f4], rfl, rfl, ⟨[ib f4], [], rfl, rfl, rfl⟩⟩, ⟨[ia f5, ib e3], [], rfl, ⟨[ia f5], [ib e3], rfl, rfl, ⟨[ib e3], [], rfl, rfl, rfl⟩⟩, rfl⟩⟩)) ?_)
    intro o3 w hS
    obtain ⟨p3, H⟩ := ite_in H
    obtain ⟨e9, t9, H⟩ := lt_out H
    refine EL.of (EO.append hS 29 29 32 16 2 kS32 b3 b4 a8 rfl (some ⟨o3, 0, none⟩) 2 g3 (Rd.own 0 32 rfl) e9 t9 (fun i2 i8 => Ass.own 32 kS32 (some ⟨o3, 0, none⟩) 2 g3 :: Ass.deep 29 32 kS32 a2 a3 a1 :: Ass.own 32 kS32 i2 i8 e9 :: os) 143 (by kernel_rfl) (by kernel_rfl) (by kernel_rfl) (by kernel_rfl) p3 (fun _ _ => rfl) ?_)
    intro i2 i8 w hS
    refine EL.quick 1 [0, 1, 2, 3, 4, 11, 12, 13] [(0, sv A24 C25 l23), (1, ia a26), (2, ia a27), (3, ia a28), (4, .bool (a29)), (11, sv a2 a3 a1), (12, ia a0), (13, sv i2 i8 e9)] (by kernel_rfl) ?_
    refine EL.done (by kernel_rfl) ?_
    refine EQ.to ?_
    refine EQ.keep [0, 1, 2, 3, 4, 11, 12, 13] [(0, sv A24 C25 l23), (1, ia a26), (2, ia a27), (3, ia a28), (4, .bool (a29)), (11, sv a2 a3 a1), (12, ia a0), (13, sv i2 i8 e9)] (by kernel_rfl) ?_
    exact fun a ha => ⟨e9, i2, i8, ha, (hS.re [2, 2] [2] rfl (sub_cons 0 rfl (sub_tail (sub_self)))), H⟩
   obtain ⟨b8, d3, d4, ha, hS, H⟩ := hI
   rw [t3] at H
   (try dsimp only at H)
   refine EW.at ?_ a ha
   clear ha a
   refine EW.rg (by kernel_rfl) ?_
   refine EL.quick 2 [0, 1, 2, 3, 4, 12, 144, 145] [(0, sv A24 C25 l23), (1, ia a26), (2, ia a27), (3, ia a28), (4, .bool (a29)), (12, ia a0), (144, sv a2 a3 a1), (145, sv d3 d4 b8)] (by kernel_rfl) ?_
   refine EL.of (EO.lit (xs := ([(d3, b8.length, d4)] : List Hdr)) hS Kd.hdr 29 23 1 #[(0, sv d3 d4 b8)] [sv d3 d4 b8] 146 (by kernel_rfl) (by kernel_rfl) (by kernel_rfl) (fun _ => (by kernel_rfl)) rfl (by kernel_rfl) (fun w G hr => ⟨[sv d3 d4 b8], [], rfl, rfl, rfl⟩) ?_)
   intro o4 w hS
   have hS := St.as (os' := Ass.deep 29 32 kS32 (some ⟨o4, 0, none⟩) 1 ([b8] : List (List S32)) :: Ass.deep 29 32 kS32 a2 a3 a1 :: os) (St.fold (B := B) (os := _) (rs := _) (et := 29) (et' := 32) (K := kS32) (hs := [(d3, b8.length, d4)]) (xs := ([b8] : List (List S32))) ⟨rfl, trivial⟩ (St.re hS [2, 1] [] rfl sub_self)) rfl
   obtain ⟨p4, H⟩ := ite_in H
   obtain ⟨f0, u0, H⟩ := lt_out H
   refine EL.of (EO.appendDeep hS 23 23 24 1 0 kS32 a2 a3 a1 rfl (some ⟨o4, 0, none⟩) 1 ([b8] : List (List S32)) rfl f0 u0 (fun i3 i9 => Ass.deep 29 32 kS32 i3 i9 f0 :: os) 147 (by kernel_rfl) (by kernel_rfl) (by kernel_rfl) (by kernel_rfl) p4 (fun _ _ => rfl) ?_)
   intro i3 i9 w hS
   refine EL.quick 1 [0, 1, 2, 3, 4, 11, 12] [(0, sv A24 C25 l23), (1, ia a26), (2, ia a27), (3, ia a28), (4, .bool (a29)), (11, sv i3 i9 f0), (12, ia a0)] (by kernel_rfl) ?_
   refine EL.done (by kernel_rfl) ?_
   refine EQ.pop ?_
   refine EQ.to ?_
   refine EQ.keep [0, 1, 2, 3, 4, 11, 12] [(0, sv A24 C25 l23), (1, ia a26), (2, ia a27), (3, ia a28), (4, .bool (a29)), (11, sv i3 i9 f0), (12, ia a0)] (by kernel_rfl) ?_
   exact fun a ha => ⟨f0, i3, i9, ha, (hS.re [0] [] rfl (sub_cons 0 rfl (sub_tail (sub_self)))), H⟩
  obtain ⟨d7, f6, f8, ha, hS, H⟩ := hI
  rw [q8] at H
  (try dsimp only at H)
  refine EW.at ?_ a ha
  clear ha a
  refine EW.rg (by kernel_rfl) ?_
  refine EL.quick 3 [0, 1, 2, 3, 4, 11, 12] [(0, sv A24 C25 l23), (1, ia a26), (2, ia a27), (3, ia a28), (4, .bool (a29)), (11, sv f6 f8 d7), (12, ia (IntKind.i64.wrap (a0 + 1)))] (by kernel_rfl) ?_
  refine EL.done (by kernel_rfl) ?_
  refine EQ.to ?_
  refine EQ.keep [0, 1, 2, 3, 4, 11, 12] [(0, sv A24 C25 l23), (1, ia a26), (2, ia a27), (3, ia a28), (4, .bool (a29)), (11, sv f6 f8 d7), (12, ia (IntKind.i64.wrap (a0 + 1)))] (by kernel_rfl) ?_
  exact fun a ha => ⟨n, Nat.lt_succ_self n, d7, IntKind.i64.wrap (a0 + 1), f6, f8, ha, (hS.re [0] [] rfl (sub_cons 0 rfl (sub_tail (sub_self)))), H⟩
 rw [if_neg n4] at H
 refine EW.exit (id := 0) (by kernel_rfl) ?_
 refine EQ.exitCode ?_
 refine EQ.exitTo ?_
 refine EQ.exitHere ?_
 refine EQ.code ?_
 refine EW.sq (by kernel_rfl) ?_
 refine EW.rg (by kernel_rfl) ?_
 refine EL.quick 2 [10] [(10, sv a2 a3 a1)] (by kernel_rfl) ?_
 refine EL.done (by kernel_rfl) ?_
 refine EQ.code ?_
 refine EW.ret (by kernel_rfl) ?_
 obtain rfl := Option.some.inj H
 exact EQ.leave (sv a2 a3 a1) (by kernel_rfl) ⟨_, rfl, a2, a3, rfl, (hS.re [0] [] rfl (sub_self))⟩

/-! ### confidant/confidantref9.New: function 37 -/
def confidantref9_New.f (K : Nat) (a1 : Int) (a0 : S71) : Option S58 := some (⟨a1, a0.f0, 0, ([] : List Int), ({zS55 with f0 := a0.f1} : S55), a0.f2, a0.f3, a0.f4, a0.f5⟩ : S58)
set_option maxRecDepth 100000 in
theorem confidantref9_New.calls {K : Nat} {a1 : Int} {a0 : S71} {a5 : S58} {B w : World} {os : List Ass} {rs : List Ro} (H : confidantref9_New.f K a1 a0 = some a5) (hS : St B w (os) (rs)) :
  Calls Try.prog 37 [ib a1, ag (encS71 a0)].toArray w (fun en w' => ∃ v, en = .returned v ∧ ∃ a6 : Option Addr, ∃ a7 : Nat, v = ag (cellsS58 a5 (a6, a7)) ∧ St B w' (os) (Ro.sl (Kd.int .i32) a6 a7 a5.f3 :: rs)) := by
 unfold confidantref9_New.f at H
 refine calls_of_EW (args := [ib a1, ag (encS71 a0)]) (c := Cd37) 23 Try.func37 (by kernel_rfl) (by kernel_rfl) (by kernel_rfl) ?_
 refine EW.sq (by kernel_rfl) ?_
 refine EW.rg (by kernel_rfl) ?_
 refine EL.of (EO.box hS 71 (ag (encS71 a0)) (encS71 a0) 3 (by kernel_rfl) (by kernel_rfl) (by kernel_rfl) (by first | rfl | kernel_rfl) ?_)
 intro a2 w hS
 refine EL.of (EO.alloc hS 58 (ag (cellsS58 zS58 (none, 0))) (cellsS58 zS58 (none, 0)) 4 (by kernel_rfl) (by kernel_rfl) (by kernel_rfl) (by kernel_rfl) (by first | rfl | kernel_rfl) ?_)
 intro a3 w hS
 refine EL.done (by kernel_rfl) ?_
 refine EQ.code ?_
 refine EW.sq (by kernel_rfl) ?_
 refine EW.rg (by kernel_rfl) ?_
 refine EL.quick 2 [3, 4, 6, 7] [(3, pt a2 0), (4, pt a3 0), (6, ib a1), (7, pt a2 0)] (by kernel_rfl) ?_
 refine EL.of (EO.Y (YO.loadBox hS 1 rfl 3 0 1 (ia a0.f0) 8 (by kernel_rfl) (by kernel_rfl) (by kernel_rfl) (by kernel_rfl)) ?_)
 refine EL.quick 1 [3, 4, 6, 8, 9] [(3, pt a2 0), (4, pt a3 0), (6, ib a1), (8, ia a0.f0), (9, pt a2 2)] (by kernel_rfl) ?_
 refine EL.of (EO.Y (YO.loadBox hS 1 rfl 3 2 1 (ia a0.f2) 10 (by kernel_rfl) (by kernel_rfl) (by kernel_rfl) (by kernel_rfl)) ?_)
 refine EL.quick 1 [3, 4, 6, 8, 10, 11] [(3, pt a2 0), (4, pt a3 0), (6, ib a1), (8, ia a0.f0), (10, ia a0.f2), (11, pt a2 3)] (by kernel_rfl) ?_
 refine EL.of (EO.Y (YO.loadBox hS 1 rfl 3 3 1 (ia a0.f3) 12 (by kernel_rfl) (by kernel_rfl) (by kernel_rfl) (by kernel_rfl)) ?_)
 refine EL.quick 1 [3, 4, 6, 8, 10, 12, 13] [(3, pt a2 0), (4, pt a3 0), (6, ib a1), (8, ia a0.f0), (10, ia a0.f2), (12, ia a0.f3), (13, pt a2 4)] (by kernel_rfl) ?_
 refine EL.of (EO.Y (YO.loadBox hS 1 rfl 56 4 1 (ie a0.f4) 14 (by kernel_rfl) (by kernel_rfl) (by kernel_rfl) (by kernel_rfl)) ?_)
 refine EL.quick 1 [3, 4, 6, 8, 10, 12, 14, 15] [(3, pt a2 0), (4, pt a3 0), (6, ib a1), (8, ia a0.f0), (10, ia a0.f2), (12, ia a0.f3), (14, ie a0.f4), (15, pt a2 5)] (by kernel_rfl) ?_
 refine EL.of (EO.Y (YO.loadBox hS 1 rfl 3 5 1 (ia a0.f5) 16 (by kernel_rfl) (by kernel_rfl) (by kernel_rfl) (by kernel_rfl)) ?_)
 refine EL.quick 1 [3, 4, 17] [(3, pt a2 0), (4, pt a3 0), (17, ag [ib a1, ia a0.f0, ia 0, sv none 0 ([] : List Int), ib 0, ib 0, ib 0, ib 0, ia a0.f2, ia a0.f3, ie a0.f4, ia a0.f5])] (by kernel_rfl) ?_
 refine EL.of (EO.alloc hS 58 (ag (cellsS58 zS58 (none, 0))) (cellsS58 zS58 (none, 0)) 5 (by kernel_rfl) (by kernel_rfl) (by kernel_rfl) (by kernel_rfl) (by first | rfl | kernel_rfl) ?_)
 intro a4 w hS
 refine EL.of (EO.storeBox (os' := Ass.box 58 a4 [ib a1, ia a0.f0, ia 0, sv none 0 ([] : List Int), ib 0, ib 0, ib 0, ib 0, ia a0.f2, ia a0.f3, ie a0.f4, ia a0.f5] :: Ass.box 58 a3 (cellsS58 zS58 (none, 0)) :: Ass.box 71 a2 (encS71 a0) :: os) hS 0 rfl 58 0 (ag [ib a1, ia a0.f0, ia 0, sv none 0 ([] : List Int), ib 0, ib 0, ib 0, ib 0, ia a0.f2, ia a0.f3, ie a0.f4, ia a0.f5]) [ib a1, ia a0.f0, ia 0, sv none 0 ([] : List Int), ib 0, ib 0, ib 0, ib 0, ia a0.f2, ia a0.f3, ie a0.f4, ia a0.f5] (by kernel_rfl) (by kernel_rfl) (by kernel_rfl) (by kernel_rfl) (by kernel_rfl) (by kernel_rfl) rfl rfl ?_)
 intro w hS
 refine EL.done (by kernel_rfl) ?_
 refine EQ.code ?_
 refine EW.sq (by kernel_rfl) ?_
 refine EW.rg (by kernel_rfl) ?_
 refine EL.quick 1 [4, 5, 18] [(4, pt a3 0), (5, pt a4 0), (18, pt a2 1)] (by kernel_rfl) ?_
 refine EL.of (EO.Y (YO.loadBox hS 2 rfl 21 1 1 (ib a0.f1) 19 (by kernel_rfl) (by kernel_rfl) (by kernel_rfl) (by kernel_rfl)) ?_)
 refine EL.quick 2 [4, 5, 19, 21] [(4, pt a3 0), (5, pt a4 0), (19, ib a0.f1), (21, pt a4 4)] (by kernel_rfl) ?_
 refine EL.of (EO.storeBox (os' := Ass.box 58 a4 [ib a1, ia a0.f0, ia 0, sv none 0 ([] : List Int), ib a0.f1, ib 0, ib 0, ib 0, ia a0.f2, ia a0.f3, ie a0.f4, ia a0.f5] :: Ass.box 58 a3 (cellsS58 zS58 (none, 0)) :: Ass.box 71 a2 (encS71 a0) :: os) hS 0 rfl 21 4 (ib a0.f1) [ib a1, ia a0.f0, ia 0, sv none 0 ([] : List Int), ib a0.f1, ib 0, ib 0, ib 0, ia a0.f2, ia a0.f3, ie a0.f4, ia a0.f5] (by kernel_rfl) (by kernel_rfl) (by kernel_rfl) (by kernel_rfl) (by kernel_rfl) (by kernel_rfl) rfl rfl ?_)
 intro w hS
 refine EL.done (by kernel_rfl) ?_
 refine EQ.code ?_
 refine EW.sq (by kernel_rfl) ?_
 refine EW.rg (by kernel_rfl) ?_
 refine EL.of (EO.Y (YO.loadBox hS 0 rfl 58 0 12 (ag [ib a1, ia a0.f0, ia 0, sv none 0 ([] : List Int), ib a0.f1, ib 0, ib 0, ib 0, ia a0.f2, ia a0.f3, ie a0.f4, ia a0.f5]) 22 (by kernel_rfl) (by kernel_rfl) (by kernel_rfl) (by kernel_rfl)) ?_)
 refine EL.of (EO.storeBox (os' := Ass.box 58 a4 [ib a1, ia a0.f0, ia 0, sv none 0 ([] : List Int), ib a0.f1, ib 0, ib 0, ib 0, ia a0.f2, ia a0.f3, ie a0.f4, ia a0.f5] :: Ass.box 58 a3 [ib a1, ia a0.f0, ia 0, sv none 0 ([] : List Int), ib a0.f1, ib 0, ib 0, ib 0, ia a0.f2, ia a0.f3, ie a0.f4, ia a0.f5] :: Ass.box 71 a2 (encS71 a0) :: os) hS 1 rfl 58 0 (ag [ib a1, ia a0.f0, ia 0, sv none 0 ([] : List Int), ib a0.f1, ib 0, ib 0, ib 0, ia a0.f2, ia a0.f3, ie a0.f4, ia a0.f5]) [ib a1, ia a0.f0, ia 0, sv none 0 ([] : List Int), ib a0.f1, ib 0, ib 0, ib 0, ia a0.f2, ia a0.f3, ie a0.f4, ia a0.f5] (by kernel_rfl) (by kernel_rfl) (by kernel_rfl) (by kernel_rfl) (by kernel_rfl) (by kernel_rfl) rfl rfl ?_)
 intro w hS
 refine EL.done (by kernel_rfl) ?_
 refine EQ.code ?_
 refine EW.ret (by kernel_rfl) ?_
 have hS := St.nilR hS (Kd.int .i32)
 obtain rfl := Option.some.inj H
 exact EQ.leaveC hS 1 rfl 4 58 0 12 (ag [ib a1, ia a0.f0, ia 0, sv none 0 ([] : List Int), ib a0.f1, ib 0, ib 0, ib 0, ia a0.f2, ia a0.f3, ie a0.f4, ia a0.f5]) (by kernel_rfl) (by kernel_rfl) (by kernel_rfl) ⟨_, rfl, none, 0, rfl, (hS.re [] [0, 0, 0] rfl (sub_cons 0 rfl (sub_tail (sub_self))))⟩

/-! ### confidant/confidantref9.At: function 52 -/
def confidantref9_At.f (K : Nat) (a0 : S58) (a1 : List (List S32)) : Option (Int × Int × Bool) := lt (fun (b1 : Bool) => (if b1 = true then (some (0, 0, false)) else (if 0 ≤ a0.f1 then (if a0.f1 < (a1.length : Int) then (if 0 ≤ a0.f2 then (if a0.f2 < ((a1.getD a0.f1.toNat []).length : Int) then (some (((a1.getD a0.f1.toNat []).getD a0.f2.toNat zS32).f0, ((a1.getD a0.f1.toNat []).getD a0.f2.toNat zS32).f1, true)) else none) else none) else none) else none))) fun b0 => (if a0.f1 < 0 then (b0 true) else (if a0.f1 ≥ (a1.length : Int) then (b0 true) else (if a0.f2 < 0 then (b0 true) else (if 0 ≤ a0.f1 then (if a0.f1 < (a1.length : Int) then (b0 (decide (a0.f2 ≥ ((a1.getD a0.f1.toNat []).length : Int)))) else none) else none))))
set_option maxRecDepth 100000 in
theorem confidantref9_At.calls {K : Nat} {a0 : S58} {a1 : List (List S32)} {a6 : Option Addr} {a7 : Nat} {a5 : Option Addr} {a3 : Nat} {c2 : Int} {c3 : Int} {c4 : Bool} {B w : World} {os : List Ass} {rs : List Ro} (H : confidantref9_At.f K a0 a1 = some (c2, c3, c4)) (hS : St B w (os) (Ro.sl (Kd.int .i32) a6 a7 a0.f3 :: Ro.sl (Kd.slice kS32) a5 a3 a1 :: rs)) :
  Calls Try.prog 52 [ag (cellsS58 a0 (a6, a7)), sv a5 a3 a1].toArray w (fun en w' => ∃ v, en = .returned v ∧ v = .tuple #[ag [ia c2, ib c3], .bool (c4)] ∧ St B w' (os) (Ro.sl (Kd.int .i32) a6 a7 a0.f3 :: Ro.sl (Kd.slice kS32) a5 a3 a1 :: rs)) := by
 unfold confidantref9_At.f at H
 refine calls_of_EW (args := [ag (cellsS58 a0 (a6, a7)), sv a5 a3 a1]) (c := Cd52) 42 Try.func52 (by kernel_rfl) (by kernel_rfl) (by kernel_rfl) ?_
 refine EW.sq (by kernel_rfl) ?_
 refine EW.rg (by kernel_rfl) ?_
 refine EL.of (EO.box hS 58 (ag (cellsS58 a0 (a6, a7))) (cellsS58 a0 (a6, a7)) 2 (by kernel_rfl) (by kernel_rfl) (by kernel_rfl) (by first | rfl | kernel_rfl) ?_)
 intro a2 w hS
 refine EL.of (EO.alloc hS 32 (ag [ia 0, ib 0]) [ia 0, ib 0] 4 (by kernel_rfl) (by kernel_rfl) (by kernel_rfl) (by kernel_rfl) (by first | rfl | kernel_rfl) ?_)
 intro a4 w hS
 refine EL.quick 1 [1, 2, 4] [(1, sv a5 a3 a1), (2, pt a2 0), (4, pt a4 0)] (by kernel_rfl) ?_
 refine EL.done (by kernel_rfl) ?_
 refine EQ.code ?_
 refine EW.sq (by kernel_rfl) ?_
 obtain ⟨b0, c7, H⟩ := lt_out H
 refine EW.ct (fun a w => ∃ b1 : Bool, Sat 42 [(1, sv a5 a3 a1), (2, pt a2 0), (4, pt a4 0), (31, .bool (b1))] a ∧ St B w (Ass.box 32 a4 [ia 0, ib 0] :: Ass.box 58 a2 (cellsS58 a0 (a6, a7)) :: os) (Ro.sl (Kd.int .i32) a6 a7 a0.f3 :: Ro.sl (Kd.slice kS32) a5 a3 a1 :: rs) ∧ b0 b1 = some (c2, c3, c4)) (by kernel_rfl) ?_ (fun a w hI => ?_)
 ·by_cases a9 : a0.f1 < 0
  ·rw [if_pos a9] at H
   have hS := hS.drew
   refine EW.dr (B := B) [Ass.box 32 a4 [ia 0, ib 0], Ass.box 58 a2 (cellsS58 a0 (a6, a7))] [Ro.sl (Kd.int .i32) a6 a7 a0.f3, Ro.sl (Kd.slice kS32) a5 a3 a1] (by kernel_rfl) (by kernel_rfl) ?_
   have hN : Region.noSelect Cd52.r.l.l.ops = true := (by kernel_rfl)
   have hF : freeAll Cd52.r.l.l.ops = true := (by kernel_rfl)
   have hC : Core B [Ass.box 32 a4 [ia 0, ib 0], Ass.box 58 a2 (cellsS58 a0 (a6, a7))] [Ro.sl (Kd.int .i32) a6 a7 a0.f3, Ro.sl (Kd.slice kS32) a5 a3 a1] _ := ⟨_, _, hS⟩
   refine ED.quick hN hF hC [0] [1, 2, 4, 6] 25 [(1, sv a5 a3 a1), (2, pt a2 0), (4, pt a4 0), (6, pt a2 1)] (bm 26 1) (by kernel_rfl) (by kernel_rfl) ?_
   refine ED.Y hN hF hC 1 24 (bm 26 3) (by kernel_rfl) (by kernel_rfl) rfl (fun _ _ _ hS => YO.loadBox hS 1 rfl 3 1 1 (ia a0.f1) 7 (by kernel_rfl) (by kernel_rfl) (by kernel_rfl) (by kernel_rfl)) ?_
   refine ED.quick hN hF hC [2, 3] [1, 2, 4, 9] 22 [(1, sv a5 a3 a1), (2, pt a2 0), (4, pt a4 0), (9, .bool (decide (a0.f1 < 0)))] (bm 26 15) (by kernel_rfl) (by kernel_rfl) ?_
   refine ED.keep [1, 2, 4, 9] [(1, sv a5 a3 a1), (2, pt a2 0), (4, pt a4 0), (9, .bool (decide (a0.f1 < 0)))] (by kernel_rfl) ?_
   refine ED.as' [(1, sv a5 a3 a1), (2, pt a2 0), (4, pt a4 0), (9, .bool (true))] (by simp only [cellsS58, encS32, dec_t a9, Bool.not_true, Bool.not_false]) ?_
   refine ED.quick hN hF hC [4, 5, 6, 7, 8, 9, 10, 11, 12, 13, 14, 15, 16, 17, 18, 19, 20, 21, 22, 23, 24, 25] [1, 2, 4, 31] 0 [(1, sv a5 a3 a1), (2, pt a2 0), (4, pt a4 0), (31, .bool (true))] (bm 26 67108863) (by kernel_rfl) (by kernel_rfl) ?_
   refine ED.done (by kernel_rfl) ?_
   refine EQ.to ?_
   refine EQ.keep [1, 2, 4, 31] [(1, sv a5 a3 a1), (2, pt a2 0), (4, pt a4 0), (31, .bool (true))] (by kernel_rfl) ?_
   exact fun a ha => ⟨true, ha, (hS.re [1, 1] [] rfl (sub_cons 0 rfl (sub_cons 1 rfl (sub_tail (sub_tail (sub_self)))))), H⟩
  rw [if_neg a9] at H
  by_cases b3 : a0.f1 ≥ (a1.length : Int)
  ·rw [if_pos b3] at H
   have hS := hS.drew
   refine EW.dr (B := B) [Ass.box 32 a4 [ia 0, ib 0], Ass.box 58 a2 (cellsS58 a0 (a6, a7))] [Ro.sl (Kd.int .i32) a6 a7 a0.f3, Ro.sl (Kd.slice kS32) a5 a3 a1] (by kernel_rfl) (by kernel_rfl) ?_
   have hN : Region.noSelect Cd52.r.l.l.ops = true := (by kernel_rfl)
   have hF : freeAll Cd52.r.l.l.ops = true := (by kernel_rfl)
   have hC : Core B [Ass.box 32 a4 [ia 0, ib 0], Ass.box 58 a2 (cellsS58 a0 (a6, a7))] [Ro.sl (Kd.int .i32) a6 a7 a0.f3, Ro.sl (Kd.slice kS32) a5 a3 a1] _ := ⟨_, _, hS⟩
   refine ED.quick hN hF hC [0] [1, 2, 4, 6] 25 [(1, sv a5 a3 a1), (2, pt a2 0), (4, pt a4 0), (6, pt a2 1)] (bm 26 1) (by kernel_rfl) (by kernel_rfl) ?_
   refine ED.Y hN hF hC 1 24 (bm 26 3) (by kernel_rfl) (by kernel_rfl) rfl (fun _ _ _ hS => YO.loadBox hS 1 rfl 3 1 1 (ia a0.f1) 7 (by kernel_rfl) (by kernel_rfl) (by kernel_rfl) (by kernel_rfl)) ?_
   refine ED.quick hN hF hC [2, 3] [1, 2, 4, 9] 22 [(1, sv a5 a3 a1), (2, pt a2 0), (4, pt a4 0), (9, .bool (decide (a0.f1 < 0)))] (bm 26 15) (by kernel_rfl) (by kernel_rfl) ?_
   refine ED.keep [1, 2, 4, 9] [(1, sv a5 a3 a1), (2, pt a2 0), (4, pt a4 0), (9, .bool (decide (a0.f1 < 0)))] (by kernel_rfl) ?_
   refine ED.as' [(1, sv a5 a3 a1), (2, pt a2 0), (4, pt a4 0), (9, .bool (false))] (by simp only [cellsS58, encS32, dec_f a9, Bool.not_true, Bool.not_false]) ?_
   refine ED.quick hN hF hC [4, 6, 7] [1, 2, 4, 9, 10, 13] 19 [(1, sv a5 a3 a1), (2, pt a2 0), (4, pt a4 0), (9, .bool (false)), (10, pt a2 1), (13, ia (a1.length : Int))] (bm 26 223) (by kernel_rfl) (by kernel_rfl) ?_
   refine ED.Y hN hF hC 5 18 (bm 26 255) (by kernel_rfl) (by kernel_rfl) rfl (fun _ _ _ hS => YO.loadBox hS 1 rfl 3 1 1 (ia a0.f1) 11 (by kernel_rfl) (by kernel_rfl) (by kernel_rfl) (by kernel_rfl)) ?_
   refine ED.quick hN hF hC [8, 9, 10] [1, 2, 4, 16] 15 [(1, sv a5 a3 a1), (2, pt a2 0), (4, pt a4 0), (16, .bool (decide (a0.f1 ≥ (a1.length : Int))))] (bm 26 2047) (by kernel_rfl) (by kernel_rfl) ?_
   refine ED.keep [1, 2, 4, 16] [(1, sv a5 a3 a1), (2, pt a2 0), (4, pt a4 0), (16, .bool (decide (a0.f1 ≥ (a1.length : Int))))] (by kernel_rfl) ?_
   refine ED.as' [(1, sv a5 a3 a1), (2, pt a2 0), (4, pt a4 0), (16, .bool (true))] (by simp only [cellsS58, encS32, dec_t b3, Bool.not_true, Bool.not_false]) ?_
   refine ED.quick hN hF hC [11, 12, 13, 14, 15, 16, 17, 18, 19, 20, 21, 22, 23, 24, 25] [1, 2, 4, 31] 0 [(1, sv a5 a3 a1), (2, pt a2 0), (4, pt a4 0), (31, .bool (true))] (bm 26 67108863) (by kernel_rfl) (by kernel_rfl) ?_
   refine ED.done (by kernel_rfl) ?_
   refine EQ.to ?_
   refine EQ.keep [1, 2, 4, 31] [(1, sv a5 a3 a1), (2, pt a2 0), (4, pt a4 0), (31, .bool (true))] (by kernel_rfl) ?_
   exact fun a ha => ⟨true, ha, (hS.re [1, 1] [] rfl (sub_cons 0 rfl (sub_cons 1 rfl (sub_tail (sub_tail (sub_self)))))), H⟩
  rw [if_neg b3] at H
  by_cases b4 : a0.f2 < 0
  ·rw [if_pos b4] at H
   have hS := hS.drew
   refine EW.dr (B := B) [Ass.box 32 a4 [ia 0, ib 0], Ass.box 58 a2 (cellsS58 a0 (a6, a7))] [Ro.sl (Kd.int .i32) a6 a7 a0.f3, Ro.sl (Kd.slice kS32) a5 a3 a1] (by kernel_rfl) (by kernel_rfl) ?_
   have hN : Region.noSelect Cd52.r.l.l.ops = true := (by kernel_rfl)
   have hF : freeAll Cd52.r.l.l.ops = true := (by kernel_rfl)
   have hC : Core B [Ass.box 32 a4 [ia 0, ib 0], Ass.box 58 a2 (cellsS58 a0 (a6, a7))] [Ro.sl (Kd.int .i32) a6 a7 a0.f3, Ro.sl (Kd.slice kS32) a5 a3 a1] _ := ⟨_, _, hS⟩
   refine ED.quick hN hF hC [0] [1, 2, 4, 6] 25 [(1, sv a5 a3 a1), (2, pt a2 0), (4, pt a4 0), (6, pt a2 1)] (bm 26 1) (by kernel_rfl) (by kernel_rfl) ?_
   refine ED.Y hN hF hC 1 24 (bm 26 3) (by kernel_rfl) (by kernel_rfl) rfl (fun _ _ _ hS => YO.loadBox hS 1 rfl 3 1 1 (ia a0.f1) 7 (by kernel_rfl) (by kernel_rfl) (by kernel_rfl) (by kernel_rfl)) ?_
   refine ED.quick hN hF hC [2, 3] [1, 2, 4, 9] 22 [(1, sv a5 a3 a1), (2, pt a2 0), (4, pt a4 0), (9, .bool (decide (a0.f1 < 0)))] (bm 26 15) (by kernel_rfl) (by kernel_rfl) ?_
   refine ED.keep [1, 2, 4, 9] [(1, sv a5 a3 a1), (2, pt a2 0), (4, pt a4 0), (9, .bool (decide (a0.f1 < 0)))] (by kernel_rfl) ?_
   refine ED.as' [(1, sv a5 a3 a1), (2, pt a2 0), (4, pt a4 0), (9, .bool (false))] (by simp only [cellsS58, encS32, dec_f a9, Bool.not_true, Bool.not_false]) ?_
   refine ED.quick hN hF hC [4, 6, 7] [1, 2, 4, 9, 10, 13] 19 [(1, sv a5 a3 a1), (2, pt a2 0), (4, pt a4 0), (9, .bool (false)), (10, pt a2 1), (13, ia (a1.length : Int))] (bm 26 223) (by kernel_rfl) (by kernel_rfl) ?_
   refine ED.Y hN hF hC 5 18 (bm 26 255) (by kernel_rfl) (by kernel_rfl) rfl (fun _ _ _ hS => YO.loadBox hS 1 rfl 3 1 1 (ia a0.f1) 11 (by kernel_rfl) (by kernel_rfl) (by kernel_rfl) (by kernel_rfl)) ?_
   refine ED.quick hN hF hC [8, 9, 10] [1, 2, 4, 16] 15 [(1, sv a5 a3 a1), (2, pt a2 0), (4, pt a4 0), (16, .bool (decide (a0.f1 ≥ (a1.length : Int))))] (bm 26 2047) (by kernel_rfl) (by kernel_rfl) ?_
   refine ED.keep [1, 2, 4, 16] [(1, sv a5 a3 a1), (2, pt a2 0), (4, pt a4 0), (16, .bool (decide (a0.f1 ≥ (a1.length : Int))))] (by kernel_rfl) ?_
   refine ED.as' [(1, sv a5 a3 a1), (2, pt a2 0), (4, pt a4 0), (16, .bool (false))] (by simp only [cellsS58, encS32, dec_f b3, Bool.not_true, Bool.not_false]) ?_
   refine ED.quick hN hF hC [11] [1, 2, 4, 16, 17] 14 [(1, sv a5 a3 a1), (2, pt a2 0), (4, pt a4 0), (16, .bool (false)), (17, pt a2 2)] (bm 26 4095) (by kernel_rfl) (by kernel_rfl) ?_
   refine ED.Y hN hF hC 12 13 (bm 26 8191) (by kernel_rfl) (by kernel_rfl) rfl (fun _ _ _ hS => YO.loadBox hS 1 rfl 3 2 1 (ia a0.f2) 18 (by kernel_rfl) (by kernel_rfl) (by kernel_rfl) (by kernel_rfl)) ?_
   refine ED.quick hN hF hC [13, 14, 15] [1, 2, 4, 21] 10 [(1, sv a5 a3 a1), (2, pt a2 0), (4, pt a4 0), (21, .bool (decide (a0.f2 < 0)))] (bm 26 65535) (by kernel_rfl) (by kernel_rfl) ?_
   refine ED.keep [1, 2, 4, 21] [(1, sv a5 a3 a1), (2, pt a2 0), (4, pt a4 0), (21, .bool (decide (a0.f2 < 0)))] (by kernel_rfl) ?_
   refine ED.as' [(1, sv a5 a3 a1), (2, pt a2 0), (4, pt a4 0), (21, .bool (true))] (by simp only [cellsS58, encS32, dec_t b4, Bool.not_true, Bool.not_false]) ?_
   refine ED.quick hN hF hC [16, 17, 18, 19, 20, 21, 22, 23, 24, 25] [1, 2, 4, 31] 0 [(1, sv a5 a3 a1), (2, pt a2 0), (4, pt a4 0), (31, .bool (true))] (bm 26 67108863) (by kernel_rfl) (by kernel_rfl) ?_
   refine ED.done (by kernel_rfl) ?_
   refine EQ.to ?_
   refine EQ.keep [1, 2, 4, 31] [(1, sv a5 a3 a1), (2, pt a2 0), (4, pt a4 0), (31, .bool (true))] (by kernel_rfl) ?_
   exact fun a ha => ⟨true, ha, (hS.re [1, 1] [] rfl (sub_cons 0 rfl (sub_cons 1 rfl (sub_tail (sub_tail (sub_self)))))), H⟩
  rw [if_neg b4] at H
  obtain ⟨b5, H⟩ := ite_in H
  obtain ⟨b6, H⟩ := ite_in H
  obtain ⟨a8, rfl⟩ := St.rd_some hS (Rd.ro 1 rfl) b5 b6
  have hS := hS.drew
  refine EW.dr (B := B) [Ass.box 32 a4 [ia 0, ib 0], Ass.box 58 a2 (cellsS58 a0 (a6, a7))] [Ro.sl (Kd.int .i32) a6 a7 a0.f3, Ro.sl (Kd.slice kS32) (some a8) a3 a1] (by kernel_rfl) (by kernel_rfl) ?_
  have hN : Region.noSelect Cd52.r.l.l.ops = true := (by kernel_rfl)
  have hF : freeAll Cd52.r.l.l.ops = true := (by kernel_rfl)
  have hC : Core B [Ass.box 32 a4 [ia 0, ib 0], Ass.box 58 a2 (cellsS58 a0 (a6, a7))] [Ro.sl (Kd.int .i32) a6 a7 a0.f3, Ro.sl (Kd.slice kS32) (some a8) a3 a1] _ := ⟨_, _, hS⟩
  refine ED.quick hN hF hC [0] [1, 2, 4, 6] 25 [(1, sv (some a8) a3 a1), (2, pt a2 0), (4, pt a4 0), (6, pt a2 1)] (bm 26 1) (by kernel_rfl) (by kernel_rfl) ?_
  refine ED.Y hN hF hC 1 24 (bm 26 3) (by kernel_rfl) (by kernel_rfl) rfl (fun _ _ _ hS => YO.loadBox hS 1 rfl 3 1 1 (ia a0.f1) 7 (by kernel_rfl) (by kernel_rfl) (by kernel_rfl) (by kernel_rfl)) ?_
  refine ED.quick hN hF hC [2, 3] [1, 2, 4, 9] 22 [(1, sv (some a8) a3 a1), (2, pt a2 0), (4, pt a4 0), (9, .bool (decide (a0.f1 < 0)))] (bm 26 15) (by kernel_rfl) (by kernel_rfl) ?_
  refine ED.keep [1, 2, 4, 9] [(1, sv (some a8) a3 a1), (2, pt a2 0), (4, pt a4 0), (9, .bool (decide (a0.f1 < 0)))] (by kernel_rfl) ?_
  refine ED.as' [(1, sv (some a8) a3 a1), (2, pt a2 0), (4, pt a4 0), (9, .bool (false))] (by simp only [cellsS58, encS32, dec_f a9, Bool.not_true, Bool.not_false]) ?_
  refine ED.quick hN hF hC [4, 6, 7] [1, 2, 4, 9, 10, 13] 19 [(1, sv (some a8) a3 a1), (2, pt a2 0), (4, pt a4 0), (9, .bool (false)), (10, pt a2 1), (13, ia (a1.length : Int))] (bm 26 223) (by kernel_rfl) (by kernel_rfl) ?_
  refine ED.Y hN hF hC 5 18 (bm 26 255) (by kernel_rfl) (by kernel_rfl) rfl (fun _ _ _ hS => YO.loadBox hS 1 rfl 3 1 1 (ia a0.f1) 11 (by kernel_rfl) (by kernel_rfl) (by kernel_rfl) (by kernel_rfl)) ?_
  refine ED.quick hN hF hC [8, 9, 10] [1, 2, 4, 16] 15 [(1, sv (some a8) a3 a1), (2, pt a2 0), (4, pt a4 0), (16, .bool (decide (a0.f1 ≥ (a1.length : Int))))] (bm 26 2047) (by kernel_rfl) (by kernel_rfl) ?_
  refine ED.keep [1, 2, 4, 16] [(1, sv (some a8) a3 a1), (2, pt a2 0), (4, pt a4 0), (16, .bool (decide (a0.f1 ≥ (a1.length : Int))))] (by kernel_rfl) ?_
  refine ED.as' [(1, sv (some a8) a3 a1), (2, pt a2 0), (4, pt a4 0), (16, .bool (false))] (by simp only [cellsS58, encS32, dec_f b3, Bool.not_true, Bool.not_false]) ?_
  refine ED.quick hN hF hC [11] [1, 2, 4, 16, 17] 14 [(1, sv (some a8) a3 a1), (2, pt a2 0), (4, pt a4 0), (16, .bool (false)), (17, pt a2 2)] (bm 26 4095) (by kernel_rfl) (by kernel_rfl) ?_
  refine ED.Y hN hF hC 12 13 (bm 26 8191) (by kernel_rfl) (by kernel_rfl) rfl (fun _ _ _ hS => YO.loadBox hS 1 rfl 3 2 1 (ia a0.f2) 18 (by kernel_rfl) (by kernel_rfl) (by kernel_rfl) (by kernel_rfl)) ?_
  refine ED.quick hN hF hC [13, 14, 15] [1, 2, 4, 21] 10 [(1, sv (some a8) a3 a1), (2, pt a2 0), (4, pt a4 0), (21, .bool (decide (a0.f2 < 0)))] (bm 26 65535) (by kernel_rfl) (by kernel_rfl) ?_
  refine ED.keep [1, 2, 4, 21] [(1, sv (some a8) a3 a1), (2, pt a2 0), (4, pt a4 0), (21, .bool (decide (a0.f2 < 0)))] (by kernel_rfl) ?_
  refine ED.as' [(1, sv (some a8) a3 a1), (2, pt a2 0), (4, pt a4 0), (21, .bool (false))] (by simp only [cellsS58, encS32, dec_f b4, Bool.not_true, Bool.not_false]) ?_
  refine ED.quick hN hF hC [16, 18, 19] [1, 2, 4, 21, 22, 24, 25] 7 [(1, sv (some a8) a3 a1), (2, pt a2 0), (4, pt a4 0), (21, .bool (false)), (22, pt a2 2), (24, sv (some a8) a3 a1), (25, pt a2 1)] (bm 26 917503) (by kernel_rfl) (by kernel_rfl) ?_
  refine ED.Y hN hF hC 17 6 (bm 26 1048575) (by kernel_rfl) (by kernel_rfl) rfl (fun _ _ _ hS => YO.loadBox hS 1 rfl 3 2 1 (ia a0.f2) 23 (by kernel_rfl) (by kernel_rfl) (by kernel_rfl) (by kernel_rfl)) ?_
  refine ED.Y hN hF hC 20 5 (bm 26 2097151) (by kernel_rfl) (by kernel_rfl) rfl (fun _ _ _ hS => YO.loadBox hS 1 rfl 3 1 1 (ia a0.f1) 26 (by kernel_rfl) (by kernel_rfl) (by kernel_rfl) (by kernel_rfl)) ?_
  refine ED.Y hN hF hC 21 4 (bm 26 4194303) (by kernel_rfl) (by kernel_rfl) rfl (fun _ _ _ hS => YO.idx 23 1 a8 a1.length a3 .i64 a0.f1 27 (by kernel_rfl) (by kernel_rfl) (by kernel_rfl) (by kernel_rfl) b5 b6) ?_
  refine ED.one 22 3 (bm 26 8388607) (by kernel_rfl) (by kernel_rfl) (by kernel_rfl) (EO.loadSl hS kS32 a8 a3 a1 (Rd.ro 1 rfl) a0.f1 b5 b6 29 28 (by kernel_rfl) (by kernel_rfl) (by kernel_rfl) (by kernel_rfl) ?_)
  intro c8 d0 hS
  have hC := hC.again ⟨_, _, hS.re [1, 1] [] rfl (sub_cons 1 rfl (sub_cons 2 rfl sub_self))⟩
  refine ⟨hC, ?_⟩
  refine ED.quick hN hF hC [23, 24, 25] [1, 2, 4, 31] 0 [(1, sv (some a8) a3 a1), (2, pt a2 0), (4, pt a4 0), (31, .bool (decide (a0.f2 ≥ ((a1.getD a0.f1.toNat []).length : Int))))] (bm 26 67108863) (by kernel_rfl) (by kernel_rfl) ?_
  refine ED.done (by kernel_rfl) ?_
  refine EQ.to ?_
  refine EQ.keep [1, 2, 4, 31] [(1, sv (some a8) a3 a1), (2, pt a2 0), (4, pt a4 0), (31, .bool (decide (a0.f2 ≥ ((a1.getD a0.f1.toNat []).length : Int))))] (by kernel_rfl) ?_
  exact fun a ha => ⟨decide (a0.f2 ≥ ((a1.getD a0.f1.toNat []).length : Int)), ha, (hS.re [1, 1] [] rfl (sub_cons 1 rfl (sub_cons 2 rfl (sub_tail (sub_tail (sub_tail (sub_self))))))), H⟩
 obtain ⟨b1, ha, hS, H⟩ := hI
 rw [c7] at H
 (try dsimp only at H)
 refine EW.at ?_ a ha
 clear ha a
 refine EW.cdP' (b1) (by kernel_rfl) (by kernel_rfl) (fun b7 => ?_) (fun b7 => ?_)
 ·rw [if_pos b7] at H
  refine EW.sq (by kernel_rfl) ?_
  refine EW.rg (by kernel_rfl) ?_
  refine EL.quick 1 [4, 32] [(4, pt a4 0), (32, ag [ia 0, ib 0])] (by kernel_rfl) ?_
  refine EL.of (EO.storeBox (os' := Ass.box 32 a4 [ia 0, ib 0] :: Ass.box 58 a2 (cellsS58 a0 (a6, a7)) :: os) hS 0 rfl 32 0 (ag [ia 0, ib 0]) [ia 0, ib 0] (by kernel_rfl) (by kernel_rfl) (by kernel_rfl) (by kernel_rfl) (by kernel_rfl) (by kernel_rfl) rfl rfl ?_)
  intro w hS
  refine EL.quick 1 [4, 5] [(4, pt a4 0), (5, .bool (false))] (by kernel_rfl) ?_
  refine EL.done (by kernel_rfl) ?_
  refine EQ.code ?_
  refine EW.ret (by kernel_rfl) ?_
  refine EQ.ret ?_
  simp only [cellsS58, encS32, Option.some.injEq, Prod.mk.injEq] at H
  obtain ⟨rfl, rfl, rfl⟩ := H
  exact EQ.leave2 hS (.cell 4 32) (.tmp 5) (ag [ia 0, ib 0]) (.bool (false)) (by kernel_rfl) ⟨0, 32, a4, [ia 0, ib 0], 0, 2, rfl, (by kernel_rfl), (by kernel_rfl)⟩ (oneTmp (by kernel_rfl)) ⟨_, rfl, rfl, (hS.re [] [0, 0] rfl (sub_self))⟩
 rw [if_neg b7] at H
 refine EW.skip (by kernel_rfl) ?_
 refine EQ.code ?_
 refine EW.sq (by kernel_rfl) ?_
 obtain ⟨b8, H⟩ := ite_in H
 obtain ⟨b9, H⟩ := ite_in H
 obtain ⟨b2, rfl⟩ := St.rd_some hS (Rd.ro 1 rfl) b8 b9
 obtain ⟨c0, H⟩ := ite_in H
 obtain ⟨c1, H⟩ := ite_in H
 have hS := hS.drew
 refine EW.dr (B := B) [Ass.box 58 a2 (cellsS58 a0 (a6, a7))] [Ro.sl (Kd.int .i32) a6 a7 a0.f3, Ro.sl (Kd.slice kS32) (some b2) a3 a1] (by kernel_rfl) (by kernel_rfl) ?_
 have hN : Region.noSelect Cd52.r.r.l.ops = true := (by kernel_rfl)
 have hF : freeAll Cd52.r.r.l.ops = true := (by kernel_rfl)
 have hC : Core B [Ass.box 58 a2 (cellsS58 a0 (a6, a7))] [Ro.sl (Kd.int .i32) a6 a7 a0.f3, Ro.sl (Kd.slice kS32) (some b2) a3 a1] _ := ⟨_, _, hS.re [1] [] rfl sub_self⟩
 refine ED.quick hN hF hC [0, 1, 5] [4, 33, 34, 38] 8 [(4, pt a4 0), (33, sv (some b2) a3 a1), (34, pt a2 1), (38, pt a2 2)] (bm 11 35) (by kernel_rfl) (by kernel_rfl) ?_
 refine ED.Y hN hF hC 2 7 (bm 11 39) (by kernel_rfl) (by kernel_rfl) rfl (fun _ _ _ hS => YO.loadBox hS 0 rfl 3 1 1 (ia a0.f1) 35 (by kernel_rfl) (by kernel_rfl) (by kernel_rfl) (by kernel_rfl)) ?_
 refine ED.Y hN hF hC 3 6 (bm 11 47) (by kernel_rfl) (by kernel_rfl) rfl (fun _ _ _ hS => YO.idx 23 1 b2 a1.length a3 .i64 a0.f1 36 (by kernel_rfl) (by kernel_rfl) (by kernel_rfl) (by kernel_rfl) b8 b9) ?_
 refine ED.Y hN hF hC 6 5 (bm 11 111) (by kernel_rfl) (by kernel_rfl) rfl (fun _ _ _ hS => YO.loadBox hS 0 rfl 3 2 1 (ia a0.f2) 39 (by kernel_rfl) (by kernel_rfl) (by kernel_rfl) (by kernel_rfl)) ?_
 refine ED.one 4 4 (bm 11 127) (by kernel_rfl) (by kernel_rfl) (by kernel_rfl) (EO.loadSl hS kS32 b2 a3 a1 (Rd.ro 1 rfl) a0.f1 b8 b9 29 37 (by kernel_rfl) (by kernel_rfl) (by kernel_rfl) (by kernel_rfl) ?_)
 intro c9 c5 hS
 have hC := hC.again ⟨_, _, hS.re [1] [] rfl (sub_cons 1 rfl (sub_cons 2 rfl sub_self))⟩
 refine ⟨hC, ?_⟩
 obtain ⟨c6, rfl⟩ := St.rd_some hS (Rd.ro 0 rfl) c0 c1
 refine ED.Y hN hF hC 7 3 (bm 11 255) (by kernel_rfl) (by kernel_rfl) rfl (fun _ _ _ hS => YO.idx 29 2 c6 (a1.getD a0.f1.toNat []).length c5 .i64 a0.f2 40 (by kernel_rfl) (by kernel_rfl) (by kernel_rfl) (by kernel_rfl) c0 c1) ?_
 refine ED.one 8 2 (bm 11 511) (by kernel_rfl) (by kernel_rfl) (by kernel_rfl) (EO.Y (YO.loadEl hS kS32 c6 c5 (a1.getD a0.f1.toNat []) (Rd.ro 0 rfl) zS32 encS32 encS32_of a0.f2 c0 c1 32 2 0 2 rfl (ag [ia (((a1.getD a0.f1.toNat []).getD a0.f2.toNat zS32).f0), ib (((a1.getD a0.f1.toNat []).getD a0.f2.toNat zS32).f1)]) 41 (by kernel_rfl) (by kernel_rfl) (by kernel_rfl) (by kernel_rfl)) ?_)
 have hC := hC.again ⟨_, _, hS.re [1] [] rfl (sub_cons 1 rfl (sub_cons 2 rfl sub_self))⟩
 refine ⟨hC, ?_⟩
 refine ED.one 9 1 (bm 11 1023) (by kernel_rfl) (by kernel_rfl) (by kernel_rfl) (EO.storeBox (os' := Ass.box 32 a4 [ia (((a1.getD a0.f1.toNat []).getD a0.f2.toNat zS32).f0), ib (((a1.getD a0.f1.toNat []).getD a0.f2.toNat zS32).f1)] :: Ass.box 58 a2 (cellsS58 a0 (a6, a7)) :: os) hS 0 rfl 32 0 (ag [ia (((a1.getD a0.f1.toNat []).getD a0.f2.toNat zS32).f0), ib (((a1.getD a0.f1.toNat []).getD a0.f2.toNat zS32).f1)]) [ia (((a1.getD a0.f1.toNat []).getD a0.f2.toNat zS32).f0), ib (((a1.getD a0.f1.toNat []).getD a0.f2.toNat zS32).f1)] (by kernel_rfl) (by kernel_rfl) (by kernel_rfl) (by kernel_rfl) (by kernel_rfl) (by kernel_rfl) rfl rfl ?_)
 intro w hS
 have hC := hC.again ⟨_, _, hS.re [1] [] rfl (sub_cons 1 rfl (sub_cons 2 rfl sub_self))⟩
 refine ⟨hC, ?_⟩
 refine ED.quick hN hF hC [10] [4, 5] 0 [(4, pt a4 0), (5, .bool (true))] (bm 11 2047) (by kernel_rfl) (by kernel_rfl) ?_
 refine ED.done (by kernel_rfl) ?_
 refine EQ.code ?_
 refine EW.ret (by kernel_rfl) ?_
 simp only [cellsS58, encS32, Option.some.injEq, Prod.mk.injEq] at H
 obtain ⟨rfl, rfl, rfl⟩ := H
 exact EQ.leave2 hS (.cell 4 32) (.tmp 5) (ag [ia (((a1.getD a0.f1.toNat []).getD a0.f2.toNat zS32).f0), ib (((a1.getD a0.f1.toNat []).getD a0.f2.toNat zS32).f1)]) (.bool (true)) (by kernel_rfl) ⟨0, 32, a4, [ia (((a1.getD a0.f1.toNat []).getD a0.f2.toNat zS32).f0), ib (((a1.getD a0.f1.toNat []).getD a0.f2.toNat zS32).f1)], 0, 2, rfl, (by kernel_rfl), (by kernel_rfl)⟩ (oneTmp (by kernel_rfl)) ⟨_, rfl, rfl, (hS.re [] [0, 0] rfl (sub_tail (sub_self)))⟩

/-! ### confidant/confidantref9.failed: function 53 -/
def confidantref9_failed.f (K : Nat) (a0 : S58) (a3 : Int) : Option (S63 × S58) := some ((⟨3, 0, a3⟩ : S63), a0)
set_option maxRecDepth 100000 in
theorem confidantref9_failed.calls {K : Nat} {a0 : S58} {a3 : Int} {a1 : Option Addr} {a2 : Nat} {b0 : S63} {a6 : S58} {B w : World} {os : List Ass} {rs : List Ro} (H : confidantref9_failed.f K a0 a3 = some (b0, a6)) (hS : St B w (os) (Ro.sl (Kd.int .i32) a1 a2 a0.f3 :: rs)) :
  Calls Try.prog 53 [ag (cellsS58 a0 (a1, a2)), ia a3].toArray w (fun en w' => ∃ v, en = .returned v ∧ ∃ a7 : Option Addr, ∃ a8 : Nat, v = .tuple #[ag (cellsS58 a6 (a7, a8)), ag (encS63 b0)] ∧ St B w' (os) (Ro.sl (Kd.int .i32) a7 a8 a6.f3 :: Ro.sl (Kd.int .i32) a1 a2 a0.f3 :: rs)) := by
 unfold confidantref9_failed.f at H
 refine calls_of_EW (args := [ag (cellsS58 a0 (a1, a2)), ia a3]) (c := Cd53) 9 Try.func53 (by kernel_rfl) (by kernel_rfl) (by kernel_rfl) ?_
 refine EW.sq (by kernel_rfl) ?_
 refine EW.rg (by kernel_rfl) ?_
 refine EL.of (EO.box hS 58 (ag (cellsS58 a0 (a1, a2))) (cellsS58 a0 (a1, a2)) 2 (by kernel_rfl) (by kernel_rfl) (by kernel_rfl) (by first | rfl | kernel_rfl) ?_)
 intro a9 w hS
 refine EL.of (EO.alloc hS 58 (ag (cellsS58 zS58 (none, 0))) (cellsS58 zS58 (none, 0)) 4 (by kernel_rfl) (by kernel_rfl) (by kernel_rfl) (by kernel_rfl) (by first | rfl | kernel_rfl) ?_)
 intro a4 w hS
 refine EL.of (EO.alloc hS 63 (ag (encS63 zS63)) (encS63 zS63) 5 (by kernel_rfl) (by kernel_rfl) (by kernel_rfl) (by kernel_rfl) (by first | rfl | kernel_rfl) ?_)
 intro a5 w hS
 refine EL.done (by kernel_rfl) ?_
 refine EQ.code ?_
 refine EW.sq (by kernel_rfl) ?_
 refine EW.rg (by kernel_rfl) ?_
 refine EL.of (EO.Y (YO.loadBox hS 2 rfl 58 0 12 (ag (cellsS58 a0 (a1, a2))) 6 (by kernel_rfl) (by kernel_rfl) (by kernel_rfl) (by kernel_rfl)) ?_)
 refine EL.quick 2 [4, 5, 6, 8] [(4, pt a4 0), (5, pt a5 0), (6, ag (cellsS58 a0 (a1, a2))), (8, ag [ia 3, ib 0, ia a3])] (by kernel_rfl) ?_
 refine EL.of (EO.storeBox (os' := Ass.box 63 a5 (encS63 zS63) :: Ass.box 58 a4 (cellsS58 a0 (a1, a2)) :: Ass.box 58 a9 (cellsS58 a0 (a1, a2)) :: os) hS 1 rfl 58 0 (ag (cellsS58 a0 (a1, a2))) (cellsS58 a0 (a1, a2)) (by kernel_rfl) (by kernel_rfl) (by kernel_rfl) (by kernel_rfl) (by kernel_rfl) (by kernel_rfl) rfl rfl ?_)
 intro w hS
 refine EL.of (EO.storeBox (os' := Ass.box 63 a5 [ia 3, ib 0, ia a3] :: Ass.box 58 a4 (cellsS58 a0 (a1, a2)) :: Ass.box 58 a9 (cellsS58 a0 (a1, a2)) :: os) hS 0 rfl 63 0 (ag [ia 3, ib 0, ia a3]) [ia 3, ib 0, ia a3] (by kernel_rfl) (by kernel_rfl) (by kernel_rfl) (by kernel_rfl) (by kernel_rfl) (by kernel_rfl) rfl rfl ?_)
 intro w hS
 refine EL.done (by kernel_rfl) ?_
 refine EQ.code ?_
 refine EW.ret (by kernel_rfl) ?_
 simp only [cellsS58, encS63, Option.some.injEq, Prod.mk.injEq] at H
 obtain ⟨rfl, rfl⟩ := H
 exact EQ.leave2 hS (.cell 4 58) (.cell 5 63) (ag (cellsS58 a0 (a1, a2))) (ag [ia 3, ib 0, ia a3]) (by kernel_rfl) ⟨1, 58, a4, (cellsS58 a0 (a1, a2)), 0, 12, rfl, (by kernel_rfl), (by kernel_rfl)⟩ ⟨0, 63, a5, [ia 3, ib 0, ia a3], 0, 3, rfl, (by kernel_rfl), (by kernel_rfl)⟩ ⟨_, rfl, a1, a2, rfl, (hS.re [] [0, 0, 0] rfl (sub_cons 0 rfl (sub_self)))⟩

/-! ### confidant/confidantref9.asks: function 54 -/
def confidantref9_asks.f (K : Nat) (a0 : Int) : Option (Int × Bool) := lt (fun (a2 : Bool) => (if a2 = true then (some (0, true)) else (lt (fun (a3 : Bool) => (if a3 = true then (some (1, true)) else (lt (fun (a4 : Bool) => (if a4 = true then (some (2, true)) else (some (0, false)))) fun b5 => (if a0 = 19 then (b5 true) else (b5 (decide (a0 = 20))))))) fun a1 => (if a0 = 16 then (a1 true) else (if a0 = 17 then (a1 true) else (if a0 = 18 then (a1 true) else (if a0 = 21 then (a1 true) else (if a0 = 22 then (a1 true) else (a1 (decide (a0 = 23))))))))))) fun b4 => (if a0 = 15 then (b4 true) else (b4 (decide (a0 = 24))))
set_option maxRecDepth 100000 in
theorem confidantref9_asks.calls {K : Nat} {a0 : Int} {a5 : Int} {a6 : Bool} {B w : World} {os : List Ass} {rs : List Ro} (H : confidantref9_asks.f K a0 = some (a5, a6)) (hS : St B w (os) (rs)) :
  Calls Try.prog 54 [ia a0].toArray w (fun en w' => ∃ v, en = .returned v ∧ v = .tuple #[ia a5, .bool (a6)] ∧ St B w' (os) (rs)) := by
 unfold confidantref9_asks.f at H
 refine calls_of_EW (args := [ia a0]) (c := Cd54) 18 Try.func54 (by kernel_rfl) (by kernel_rfl) (by kernel_rfl) ?_
 refine EW.sq (by kernel_rfl) ?_
 refine EW.rg (by kernel_rfl) ?_
 refine EL.quick 2 [0] [(0, ia a0)] (by kernel_rfl) ?_
 refine EL.done (by kernel_rfl) ?_
 refine EQ.code ?_
 refine EW.sq (by kernel_rfl) ?_
 refine EW.sq (by kernel_rfl) ?_
 refine EW.rg (by kernel_rfl) ?_
 refine EL.quick 1 [4] [(4, ia a0)] (by kernel_rfl) ?_
 refine EL.done (by kernel_rfl) ?_
 refine EQ.code ?_
 refine EW.bl 0 (by kernel_rfl) ?_
 obtain ⟨b4, b9, H⟩ := lt_out H
 refine EW.ct (fun a w => ∃ a2 : Bool, Sat 18 [(4, ia a0), (5, .bool (a2))] a ∧ St B w (os) (rs) ∧ b4 a2 = some (a5, a6)) (by kernel_rfl) ?_ (fun a w hI => ?_)
 ·refine EW.sq (by kernel_rfl) ?_
  refine EW.rg (by kernel_rfl) ?_
  refine EL.quick 2 [4, 5] [(4, ia a0), (5, .bool (decide (a0 = 15)))] (by kernel_rfl) ?_
  refine EL.done (by kernel_rfl) ?_
  refine EQ.code ?_
  refine EW.cdP (a0 = 15) (by kernel_rfl) (by kernel_rfl) (fun a7 => ?_) (fun a7 => ?_)
  ·rw [if_pos a7] at H
   refine EW.keep [4, 5] [(4, ia a0), (5, .bool (decide (a0 = 15)))] (by kernel_rfl) ?_
   refine EW.as' [(4, ia a0), (5, .bool (true))] (by simp only [dec_t a7, Bool.not_true, Bool.not_false]) ?_
   refine EW.skip (by kernel_rfl) ?_
   refine EQ.to ?_
   refine EQ.keep [4, 5] [(4, ia a0), (5, .bool (true))] (by kernel_rfl) ?_
   exact fun a ha => ⟨true, ha, (hS.re [] [] rfl (sub_self)), H⟩
  rw [if_neg a7] at H
  refine EW.rg (by kernel_rfl) ?_
  refine EL.quick 2 [4, 5] [(4, ia a0), (5, .bool (decide (a0 = 24)))] (by kernel_rfl) ?_
  refine EL.done (by kernel_rfl) ?_
  refine EQ.to ?_
  refine EQ.keep [4, 5] [(4, ia a0), (5, .bool (decide (a0 = 24)))] (by kernel_rfl) ?_
  exact fun a ha => ⟨decide (a0 = 24), ha, (hS.re [] [] rfl (sub_self)), H⟩
 obtain ⟨a2, ha, hS, H⟩ := hI
 rw [b9] at H
 (try dsimp only at H)
 refine EW.at ?_ a ha
 clear ha a
 refine EW.cdP' (a2) (by kernel_rfl) (by kernel_rfl) (fun b6 => ?_) (fun b6 => ?_)
 ·rw [if_pos b6] at H
  refine EW.sq (by kernel_rfl) ?_
  refine EW.rg (by kernel_rfl) ?_
  refine EL.quick 2 [2, 3] [(2, ia 0), (3, .bool (true))] (by kernel_rfl) ?_
  refine EL.done (by kernel_rfl) ?_
  refine EQ.code ?_
  refine EW.ret (by kernel_rfl) ?_
  refine EQ.ret ?_
  refine EQ.ret ?_
  simp only [Option.some.injEq, Prod.mk.injEq] at H
  obtain ⟨rfl, rfl⟩ := H
  exact EQ.leave (.tuple #[ia 0, .bool (true)]) (by kernel_rfl) ⟨_, rfl, rfl, (hS.re [] [] rfl (sub_self))⟩
 rw [if_neg b6] at H
 obtain ⟨a1, c0, H⟩ := lt_out H
 refine EW.ct (fun a w => ∃ a3 : Bool, Sat 18 [(4, ia a0), (8, .bool (a3))] a ∧ St B w (os) (rs) ∧ a1 a3 = some (a5, a6)) (by kernel_rfl) ?_ (fun a w hI => ?_)
 ·refine EW.sq (by kernel_rfl) ?_
  refine EW.rg (by kernel_rfl) ?_
  refine EL.quick 2 [4, 8] [(4, ia a0), (8, .bool (decide (a0 = 16)))] (by kernel_rfl) ?_
  refine EL.done (by kernel_rfl) ?_
  refine EQ.code ?_
  refine EW.cdP (a0 = 16) (by kernel_rfl) (by kernel_rfl) (fun a8 => ?_) (fun a8 => ?_)
  ·rw [if_pos a8] at H
   refine EW.keep [4, 8] [(4, ia a0), (8, .bool (decide (a0 = 16)))] (by kernel_rfl) ?_
   refine EW.as' [(4, ia a0), (8, .bool (true))] (by simp only [dec_t a8, Bool.not_true, Bool.not_false]) ?_
   refine EW.skip (by kernel_rfl) ?_
   refine EQ.to ?_
   refine EQ.keep [4, 8] [(4, ia a0), (8, .bool (true))] (by kernel_rfl) ?_
   exact fun a ha => ⟨true, ha, (hS.re [] [] rfl (sub_self)), H⟩
  rw [if_neg a8] at H
  refine EW.sq (by kernel_rfl) ?_
  refine EW.rg (by kernel_rfl) ?_
  refine EL.quick 2 [4, 8] [(4, ia a0), (8, .bool (decide (a0 = 17)))] (by kernel_rfl) ?_
  refine EL.done (by kernel_rfl) ?_
  refine EQ.code ?_
  refine EW.cdP (a0 = 17) (by kernel_rfl) (by kernel_rfl) (fun a9 => ?_) (fun a9 => ?_)
  ·rw [if_pos a9] at H
   refine EW.keep [4, 8] [(4, ia a0), (8, .bool (decide (a0 = 17)))] (by kernel_rfl) ?_
   refine EW.as' [(4, ia a0), (8, .bool (true))] (by simp only [dec_t a9, Bool.not_true, Bool.not_false]) ?_
   refine EW.skip (by kernel_rfl) ?_
   refine EQ.to ?_
   refine EQ.keep [4, 8] [(4, ia a0), (8, .bool (true))] (by kernel_rfl) ?_
   exact fun a ha => ⟨true, ha, (hS.re [] [] rfl (sub_self)), H⟩
  rw [if_neg a9] at H
  refine EW.sq (by kernel_rfl) ?_
  refine EW.rg (by kernel_rfl) ?_
  refine EL.quick 2 [4, 8] [(4, ia a0), (8, .bool (decide (a0 = 18)))] (by kernel_rfl) ?_
  refine EL.done (by kernel_rfl) ?_
  refine EQ.code ?_
  refine EW.cdP (a0 = 18) (by kernel_rfl) (by kernel_rfl) (fun b0 => ?_) (fun b0 => ?_)
  ·rw [if_pos b0] at H
   refine EW.keep [4, 8] [(4, ia a0), (8, .bool (decide (a0 = 18)))] (by kernel_rfl) ?_
   refine EW.as' [(4, ia a0), (8, .bool (true))] (by simp only [dec_t b0, Bool.not_true, Bool.not_false]) ?_
   refine EW.skip (by kernel_rfl) ?_
   refine EQ.to ?_
   refine EQ.keep [4, 8] [(4, ia a0), (8, .bool (true))] (by kernel_rfl) ?_
   exact fun a ha => ⟨true, ha, (hS.re [] [] rfl (sub_self)), H⟩
  rw [if_neg b0] at H
  refine EW.sq (by kernel_rfl) ?_
  refine EW.rg (by kernel_rfl) ?_
  refine EL.quick 2 [4, 8] [(4, ia a0), (8, .bool (decide (a0 = 21)))] (by kernel_rfl) ?_
  refine EL.done (by kernel_rfl) ?_
  refine EQ.code ?_
  refine EW.cdP (a0 = 21) (by kernel_rfl) (by kernel_rfl) (fun b1 => ?_) (fun b1 => ?_)
  ·rw [if_pos b1] at H
   refine EW.keep [4, 8] [(4, ia a0), (8, .bool (decide (a0 = 21)))] (by kernel_rfl) ?_
   refine EW.as' [(4, ia a0), (8, .bool (true))] (by simp only [dec_t b1, Bool.not_true, Bool.not_false]) ?_
   refine EW.skip (by kernel_rfl) ?_
   refine EQ.to ?_
   refine EQ.keep [4, 8] [(4, ia a0), (8, .bool (true))] (by kernel_rfl) ?_
   exact fun a ha => ⟨true, ha, (hS.re [] [] rfl (sub_self)), H⟩
  rw [if_neg b1] at H
  refine EW.sq (by kernel_rfl) ?_
  refine EW.rg (by kernel_rfl) ?_
  refine EL.quick 2 [4, 8] [(4, ia a0), (8, .bool (decide (a0 = 22)))] (by kernel_rfl) ?_
  refine EL.done (by kernel_rfl) ?_
  refine EQ.code ?_
  refine EW.cdP (a0 = 22) (by kernel_rfl) (by kernel_rfl) (fun b2 => ?_) (fun b2 => ?_)
  ·rw [if_pos b2] at H
   refine EW.keep [4, 8] [(4, ia a0), (8, .bool (decide (a0 = 22)))] (by kernel_rfl) ?_
   refine EW.as' [(4, ia a0), (8, .bool (true))] (by simp only [dec_t b2, Bool.not_true, Bool.not_false]) ?_
   refine EW.skip (by kernel_rfl) ?_
   refine EQ.to ?_
   refine EQ.keep [4, 8] [(4, ia a0), (8, .bool (true))] (by kernel_rfl) ?_
   exact fun a ha => ⟨true, ha, (hS.re [] [] rfl (sub_self)), H⟩
  rw [if_neg b2] at H
  refine EW.rg (by kernel_rfl) ?_
  refine EL.quick 2 [4, 8] [(4, ia a0), (8, .bool (decide (a0 = 23)))] (by kernel_rfl) ?_
  refine EL.done (by kernel_rfl) ?_
  refine EQ.to ?_
  refine EQ.keep [4, 8] [(4, ia a0), (8, .bool (decide (a0 = 23)))] (by kernel_rfl) ?_
  exact fun a ha => ⟨decide (a0 = 23), ha, (hS.re [] [] rfl (sub_self)), H⟩
 obtain ⟨a3, ha, hS, H⟩ := hI
 rw [c0] at H
 (try dsimp only at H)
 refine EW.at ?_ a ha
 clear ha a
 refine EW.cdP' (a3) (by kernel_rfl) (by kernel_rfl) (fun b7 => ?_) (fun b7 => ?_)
 ·rw [if_pos b7] at H
  refine EW.sq (by kernel_rfl) ?_
  refine EW.rg (by kernel_rfl) ?_
  refine EL.quick 2 [2, 3] [(2, ia 1), (3, .bool (true))] (by kernel_rfl) ?_
  refine EL.done (by kernel_rfl) ?_
  refine EQ.code ?_
  refine EW.ret (by kernel_rfl) ?_
  refine EQ.ret ?_
  refine EQ.ret ?_
  simp only [Option.some.injEq, Prod.mk.injEq] at H
  obtain ⟨rfl, rfl⟩ := H
  exact EQ.leave (.tuple #[ia 1, .bool (true)]) (by kernel_rfl) ⟨_, rfl, rfl, (hS.re [] [] rfl (sub_self))⟩
 rw [if_neg b7] at H
 obtain ⟨b5, c1, H⟩ := lt_out H
 refine EW.ct (fun a w => ∃ a4 : Bool, Sat 18 [(15, .bool (a4))] a ∧ St B w (os) (rs) ∧ b5 a4 = some (a5, a6)) (by kernel_rfl) ?_ (fun a w hI => ?_)
 ·refine EW.sq (by kernel_rfl) ?_
  refine EW.rg (by kernel_rfl) ?_
  refine EL.quick 2 [4, 15] [(4, ia a0), (15, .bool (decide (a0 = 19)))] (by kernel_rfl) ?_
  refine EL.done (by kernel_rfl) ?_
  refine EQ.code ?_
  refine EW.cdP (a0 = 19) (by kernel_rfl) (by kernel_rfl) (fun b3 => ?_) (fun b3 => ?_)
  ·rw [if_pos b3] at H
   refine EW.keep [15] [(15, .bool (decide (a0 = 19)))] (by kernel_rfl) ?_
   refine EW.as' [(15, .bool (true))] (by simp only [dec_t b3, Bool.not_true, Bool.not_false]) ?_
   refine EW.skip (by kernel_rfl) ?_
   refine EQ.to ?_
   refine EQ.keep [15] [(15, .bool (true))] (by kernel_rfl) ?_
   exact fun a ha => ⟨true, ha, (hS.re [] [] rfl (sub_self)), H⟩
  rw [if_neg b3] at H
  refine EW.rg (by kernel_rfl) ?_
  refine EL.quick 2 [15] [(15, .bool (decide (a0 = 20)))] (by kernel_rfl) ?_
  refine EL.done (by kernel_rfl) ?_
  refine EQ.to ?_
  refine EQ.keep [15] [(15, .bool (decide (a0 = 20)))] (by kernel_rfl) ?_
  exact fun a ha => ⟨decide (a0 = 20), ha, (hS.re [] [] rfl (sub_self)), H⟩
 obtain ⟨a4, ha, hS, H⟩ := hI
 rw [c1] at H
 (try dsimp only at H)
 refine EW.at ?_ a ha
 clear ha a
 refine EW.cdP' (a4) (by kernel_rfl) (by kernel_rfl) (fun b8 => ?_) (fun b8 => ?_)
 ·rw [if_pos b8] at H
  refine EW.sq (by kernel_rfl) ?_
  refine EW.rg (by kernel_rfl) ?_
  refine EL.quick 2 [2, 3] [(2, ia 2), (3, .bool (true))] (by kernel_rfl) ?_
  refine EL.done (by kernel_rfl) ?_
  refine EQ.code ?_
  refine EW.ret (by kernel_rfl) ?_
  refine EQ.ret ?_
  refine EQ.ret ?_
  simp only [Option.some.injEq, Prod.mk.injEq] at H
  obtain ⟨rfl, rfl⟩ := H
  exact EQ.leave (.tuple #[ia 2, .bool (true)]) (by kernel_rfl) ⟨_, rfl, rfl, (hS.re [] [] rfl (sub_self))⟩
 rw [if_neg b8] at H
 refine EW.skip (by kernel_rfl) ?_
 refine EQ.pop ?_
 refine EQ.code ?_
 refine EW.sq (by kernel_rfl) ?_
 refine EW.rg (by kernel_rfl) ?_
 refine EL.quick 2 [2, 3] [(2, ia 0), (3, .bool (false))] (by kernel_rfl) ?_
 refine EL.done (by kernel_rfl) ?_
 refine EQ.code ?_
 refine EW.ret (by kernel_rfl) ?_
 simp only [Option.some.injEq, Prod.mk.injEq] at H
 obtain ⟨rfl, rfl⟩ := H
 exact EQ.leave (.tuple #[ia 0, .bool (false)]) (by kernel_rfl) ⟨_, rfl, rfl, (hS.re [] [] rfl (sub_self))⟩

/-! ### confidant/confidantref9.pops: function 55 -/
def confidantref9_pops.f (K : Nat) (a0 : Int) : Option Int := lt (fun (a3 : Bool) => (if a3 = true then (some 1) else (lt (fun (a4 : Bool) => (if a4 = true then (some 2) else (some 0))) fun a1 => (if a0 = 4 then (a1 true) else (if a0 = 5 then (a1 true) else (if a0 = 6 then (a1 true) else (if a0 = 7 then (a1 true) else (if a0 = 8 then (a1 true) else (a1 (decide (a0 = 9))))))))))) fun a2 => (if a0 = 2 then (a2 true) else (if a0 = 3 then (a2 true) else (if a0 = 11 then (a2 true) else (if a0 = 13 then (a2 true) else (a2 (decide (a0 = 25)))))))
set_option maxRecDepth 100000 in
theorem confidantref9_pops.calls {K : Nat} {a0 : Int} {b4 : Int} {B w : World} {os : List Ass} {rs : List Ro} (H : confidantref9_pops.f K a0 = some b4) (hS : St B w (os) (rs)) :
  Calls Try.prog 55 [ia a0].toArray w (fun en w' => ∃ v, en = .returned v ∧ v = ia b4 ∧ St B w' (os) (rs)) := by
 unfold confidantref9_pops.f at H
 refine calls_of_EW (args := [ia a0]) (c := Cd55) 17 Try.func55 (by kernel_rfl) (by kernel_rfl) (by kernel_rfl) ?_
 refine EW.sq (by kernel_rfl) ?_
 refine EW.rg (by kernel_rfl) ?_
 refine EL.quick 1 [0] [(0, ia a0)] (by kernel_rfl) ?_
 refine EL.done (by kernel_rfl) ?_
 refine EQ.code ?_
 refine EW.sq (by kernel_rfl) ?_
 refine EW.sq (by kernel_rfl) ?_
 refine EW.rg (by kernel_rfl) ?_
 refine EL.quick 1 [3] [(3, ia a0)] (by kernel_rfl) ?_
 refine EL.done (by kernel_rfl) ?_
 refine EQ.code ?_
 refine EW.bl 0 (by kernel_rfl) ?_
 obtain ⟨a2, b7, H⟩ := lt_out H
 refine EW.ct (fun a w => ∃ a3 : Bool, Sat 17 [(3, ia a0), (4, .bool (a3))] a ∧ St B w (os) (rs) ∧ a2 a3 = some b4) (by kernel_rfl) ?_ (fun a w hI => ?_)
 ·refine EW.sq (by kernel_rfl) ?_
  refine EW.rg (by kernel_rfl) ?_
  refine EL.quick 2 [3, 4] [(3, ia a0), (4, .bool (decide (a0 = 2)))] (by kernel_rfl) ?_
  refine EL.done (by kernel_rfl) ?_
  refine EQ.code ?_
  refine EW.cdP (a0 = 2) (by kernel_rfl) (by kernel_rfl) (fun a5 => ?_) (fun a5 => ?_)
  ·rw [if_pos a5] at H
   refine EW.keep [3, 4] [(3, ia a0), (4, .bool (decide (a0 = 2)))] (by kernel_rfl) ?_
   refine EW.as' [(3, ia a0), (4, .bool (true))] (by simp only [dec_t a5, Bool.not_true, Bool.not_false]) ?_
   refine EW.skip (by kernel_rfl) ?_
   refine EQ.to ?_
   refine EQ.keep [3, 4] [(3, ia a0), (4, .bool (true))] (by kernel_rfl) ?_
   exact fun a ha => ⟨true, ha, (hS.re [] [] rfl (sub_self)), H⟩
  rw [if_neg a5] at H
  refine EW.sq (by kernel_rfl) ?_
  refine EW.rg (by kernel_rfl) ?_
  refine EL.quick 2 [3, 4] [(3, ia a0), (4, .bool (decide (a0 = 3)))] (by kernel_rfl) ?_
  refine EL.done (by kernel_rfl) ?_
  refine EQ.code ?_
  refine EW.cdP (a0 = 3) (by kernel_rfl) (by kernel_rfl) (fun a6 => ?_) (fun a6 => ?_)
  ·rw [if_pos a6] at H
   refine EW.keep [3, 4] [(3, ia a0), (4, .bool (decide (a0 = 3)))] (by kernel_rfl) ?_
   refine EW.as' [(3, ia a0), (4, .bool (true))] (by simp only [dec_t a6, Bool.not_true, Bool.not_false]) ?_
   refine EW.skip (by kernel_rfl) ?_
   refine EQ.to ?_
   refine EQ.keep [3, 4] [(3, ia a0), (4, .bool (true))] (by kernel_rfl) ?_
   exact fun a ha => ⟨true, ha, (hS.re [] [] rfl (sub_self)), H⟩
  rw [if_neg a6] at H
  refine EW.sq (by kernel_rfl) ?_
  refine EW.rg (by kernel_rfl) ?_
  refine EL.quick 2 [3, 4] [(3, ia a0), (4, .bool (decide (a0 = 11)))] (by kernel_rfl) ?_
  refine EL.done (by kernel_rfl) ?_
  refine EQ.code ?_
  refine EW.cdP (a0 = 11) (by kernel_rfl) (by kernel_rfl) (fun a7 => ?_) (fun a7 => ?_)
  ·rw [if_pos a7] at H
   refine EW.keep [3, 4] [(3, ia a0), (4, .bool (decide (a0 = 11)))] (by kernel_rfl) ?_
   refine EW.as' [(3, ia a0), (4, .bool (true))] (by simp only [dec_t a7, Bool.not_true, Bool.not_false]) ?_
   refine EW.skip (by kernel_rfl) ?_
   refine EQ.to ?_
   refine EQ.keep [3, 4] [(3, ia a0), (4, .bool (true))] (by kernel_rfl) ?_
   exact fun a ha => ⟨true, ha, (hS.re [] [] rfl (sub_self)), H⟩
  rw [if_neg a7] at H
  refine EW.sq (by kernel_rfl) ?_
  refine EW.rg (by kernel_rfl) ?_
  refine EL.quick 2 [3, 4] [(3, ia a0), (4, .bool (decide (a0 = 13)))] (by kernel_rfl) ?_
  refine EL.done (by kernel_rfl) ?_
  refine EQ.code ?_
  refine EW.cdP (a0 = 13) (by kernel_rfl) (by kernel_rfl) (fun a8 => ?_) (fun a8 => ?_)
  ·rw [if_pos a8] at H
   refine EW.keep [3, 4] [(3, ia a0), (4, .bool (decide (a0 = 13)))] (by kernel_rfl) ?_
   refine EW.as' [(3, ia a0), (4, .bool (true))] (by simp only [dec_t a8, Bool.not_true, Bool.not_false]) ?_
   refine EW.skip (by kernel_rfl) ?_
   refine EQ.to ?_
   refine EQ.keep [3, 4] [(3, ia a0), (4, .bool (true))] (by kernel_rfl) ?_
   exact fun a ha => ⟨true, ha, (hS.re [] [] rfl (sub_self)), H⟩
  rw [if_neg a8] at H
  refine EW.rg (by kernel_rfl) ?_
  refine EL.quick 2 [3, 4] [(3, ia a0), (4, .bool (decide (a0 = 25)))] (by kernel_rfl) ?_
  refine EL.done (by kernel_rfl) ?_
  refine EQ.to ?_
  refine EQ.keep [3, 4] [(3, ia a0), (4, .bool (decide (a0 = 25)))] (by kernel_rfl) ?_
  exact fun a ha => ⟨decide (a0 = 25), ha, (hS.re [] [] rfl (sub_self)), H⟩
 obtain ⟨a3, ha, hS, H⟩ := hI
 rw [b7] at H
 (try dsimp only at H)
 refine EW.at ?_ a ha
 clear ha a
 refine EW.cdP' (a3) (by kernel_rfl) (by kernel_rfl) (fun b5 => ?_) (fun b5 => ?_)
 ·rw [if_pos b5] at H
  refine EW.sq (by kernel_rfl) ?_
  refine EW.rg (by kernel_rfl) ?_
  refine EL.quick 1 [2] [(2, ia 1)] (by kernel_rfl) ?_
  refine EL.done (by kernel_rfl) ?_
  refine EQ.code ?_
  refine EW.ret (by kernel_rfl) ?_
  refine EQ.ret ?_
  refine EQ.ret ?_
  obtain rfl := Option.some.inj H
  exact EQ.leave (ia 1) (by kernel_rfl) ⟨_, rfl, rfl, (hS.re [] [] rfl (sub_self))⟩
 rw [if_neg b5] at H
 obtain ⟨a1, b8, H⟩ := lt_out H
 refine EW.ct (fun a w => ∃ a4 : Bool, Sat 17 [(10, .bool (a4))] a ∧ St B w (os) (rs) ∧ a1 a4 = some b4) (by kernel_rfl) ?_ (fun a w hI => ?_)
 ·refine EW.sq (by kernel_rfl) ?_
  refine EW.rg (by kernel_rfl) ?_
  refine EL.quick 2 [3, 10] [(3, ia a0), (10, .bool (decide (a0 = 4)))] (by kernel_rfl) ?_
  refine EL.done (by kernel_rfl) ?_
  refine EQ.code ?_
  refine EW.cdP (a0 = 4) (by kernel_rfl) (by kernel_rfl) (fun a9 => ?_) (fun a9 => ?_)
  ·rw [if_pos a9] at H
   refine EW.keep [10] [(10, .bool (decide (a0 = 4)))] (by kernel_rfl) ?_
   refine EW.as' [(10, .bool (true))] (by simp only [dec_t a9, Bool.not_true, Bool.not_false]) ?_
   refine EW.skip (by kernel_rfl) ?_
   refine EQ.to ?_
   refine EQ.keep [10] [(10, .bool (true))] (by kernel_rfl) ?_
   exact fun a ha => ⟨true, ha, (hS.re [] [] rfl (sub_self)), H⟩
  rw [if_neg a9] at H
  refine EW.sq (by kernel_rfl) ?_
  refine EW.rg (by kernel_rfl) ?_
  refine EL.quick 2 [3, 10] [(3, ia a0), (10, .bool (decide (a0 = 5)))] (by kernel_rfl) ?_
  refine EL.done (by kernel_rfl) ?_
  refine EQ.code ?_
  refine EW.cdP (a0 = 5) (by kernel_rfl) (by kernel_rfl) (fun b0 => ?_) (fun b0 => ?_)
  ·rw [if_pos b0] at H
   refine EW.keep [10] [(10, .bool (decide (a0 = 5)))] (by kernel_rfl) ?_
   refine EW.as' [(10, .bool (true))] (by simp only [dec_t b0, Bool.not_true, Bool.not_false]) ?_
   refine EW.skip (by kernel_rfl) ?_
   refine EQ.to ?_
   refine EQ.keep [10] [(10, .bool (true))] (by kernel_rfl) ?_
   exact fun a ha => ⟨true, ha, (hS.re [] [] rfl (sub_self)), H⟩
  rw [if_neg b0] at H
  refine EW.sq (by kernel_rfl) ?_
  refine EW.rg (by kernel_rfl) ?_
  refine EL.quick 2 [3, 10] [(3, ia a0), (10, .bool (decide (a0 = 6)))] (by kernel_rfl) ?_
  refine EL.done (by kernel_rfl) ?_
  refine EQ.code ?_
  refine EW.cdP (a0 = 6) (by kernel_rfl) (by kernel_rfl) (fun b1 => ?_) (fun b1 => ?_)
  ·rw [if_pos b1] at H
   refine EW.keep [10] [(10, .bool (decide (a0 = 6)))] (by kernel_rfl) ?_
   refine EW.as' [(10, .bool (true))] (by simp only [dec_t b1, Bool.not_true, Bool.not_false]) ?_
   refine EW.skip (by kernel_rfl) ?_
   refine EQ.to ?_
   refine EQ.keep [10] [(10, .bool (true))] (by kernel_rfl) ?_
   exact fun a ha => ⟨true, ha, (hS.re [] [] rfl (sub_self)), H⟩
  rw [if_neg b1] at H
  refine EW.sq (by kernel_rfl) ?_
  refine EW.rg (by kernel_rfl) ?_
  refine EL.quick 2 [3, 10] [(3, ia a0), (10, .bool (decide (a0 = 7)))] (by kernel_rfl) ?_
  refine EL.done (by kernel_rfl) ?_
  refine EQ.code ?_
  refine EW.cdP (a0 = 7) (by kernel_rfl) (by kernel_rfl) (fun b2 => ?_) (fun b2 => ?_)
  ·rw [if_pos b2] at H
   refine EW.keep [10] [(10, .bool (decide (a0 = 7)))] (by kernel_rfl) ?_
   refine EW.as' [(10, .bool (true))] (by simp only [dec_t b2, Bool.not_true, Bool.not_false]) ?_
   refine EW.skip (by kernel_rfl) ?_
   refine EQ.to ?_
   refine EQ.keep [10] [(10, .bool (true))] (by kernel_rfl) ?_
   exact fun a ha => ⟨true, ha, (hS.re [] [] rfl (sub_self)), H⟩
  rw [if_neg b2] at H
  refine EW.sq (by kernel_rfl) ?_
  refine EW.rg (by kernel_rfl) ?_
  refine EL.quick 2 [3, 10] [(3, ia a0), (10, .bool (decide (a0 = 8)))] (by kernel_rfl) ?_
  refine EL.done (by kernel_rfl) ?_
  refine EQ.code ?_
  refine EW.cdP (a0 = 8) (by kernel_rfl) (by kernel_rfl) (fun b3 => ?_) (fun b3 => ?_)
  ·rw [if_pos b3] at H
   refine EW.keep [10] [(10, .bool (decide (a0 = 8)))] (by kernel_rfl) ?_
   refine EW.as' [(10, .bool (true))] (by simp only [dec_t b3, Bool.not_true, Bool.not_false]) ?_
   refine EW.skip (by kernel_rfl) ?_
   refine EQ.to ?_
   refine EQ.keep [10] [(10, .bool (true))] (by kernel_rfl) ?_
   exact fun a ha => ⟨true, ha, (hS.re [] [] rfl (sub_self)), H⟩
  rw [if_neg b3] at H
  refine EW.rg (by kernel_rfl) ?_
  refine EL.quick 2 [10] [(10, .bool (decide (a0 = 9)))] (by kernel_rfl) ?_
  refine EL.done (by kernel_rfl) ?_
  refine EQ.to ?_
  refine EQ.keep [10] [(10, .bool (decide (a0 = 9)))] (by kernel_rfl) ?_
  exact fun a ha => ⟨decide (a0 = 9), ha, (hS.re [] [] rfl (sub_self)), H⟩
 obtain ⟨a4, ha, hS, H⟩ := hI
 rw [b8] at H
 (try dsimp only at H)
 refine EW.at ?_ a ha
 clear ha a
 refine EW.cdP' (a4) (by kernel_rfl) (by kernel_rfl) (fun b6 => ?_) (fun b6 => ?_)
 ·rw [if_pos b6] at H
  refine EW.sq (by kernel_rfl) ?_
  refine EW.rg (by kernel_rfl) ?_
  refine EL.quick 1 [2] [(2, ia 2)] (by kernel_rfl) ?_
  refine EL.done (by kernel_rfl) ?_
  refine EQ.code ?_
  refine EW.ret (by kernel_rfl) ?_
  refine EQ.ret ?_
  refine EQ.ret ?_
  obtain rfl := Option.some.inj H
  exact EQ.leave (ia 2) (by kernel_rfl) ⟨_, rfl, rfl, (hS.re [] [] rfl (sub_self))⟩
 rw [if_neg b6] at H
 refine EW.skip (by kernel_rfl) ?_
 refine EQ.pop ?_
 refine EQ.code ?_
 refine EW.sq (by kernel_rfl) ?_
 refine EW.rg (by kernel_rfl) ?_
 refine EL.quick 1 [2] [(2, ia 0)] (by kernel_rfl) ?_
 refine EL.done (by kernel_rfl) ?_
 refine EQ.code ?_
 refine EW.ret (by kernel_rfl) ?_
 obtain rfl := Option.some.inj H
 exact EQ.leave (ia 0) (by kernel_rfl) ⟨_, rfl, rfl, (hS.re [] [] rfl (sub_self))⟩

/-! ### confidant/confidantref9.Drop: function 32 -/
def confidantref9_Drop.f (K : Nat) (a0 : S58) (b1 : Int) (a5 : List Int) : Option S58 := lt (IntKind.i64.wrap ((a0.f3.length : Int) - (mn (mx b1 0) (a0.f3.length : Int)))) fun b2 => (if 0 ≤ b2 then (if b2 ≤ (a0.f3.length : Int) then (lt (a0.f3.take b2.toNat) fun b4 => (if (([] : List Int).length + b4.length) * 4 ≤ 140737488355328 then (lt (([] : List Int) ++ b4) fun b3 => (if (b3.length + a5.length) * 4 ≤ 140737488355328 then (lt (b3 ++ a5) fun a2 => (some ({a0 with f2 := IntKind.i64.wrap (a0.f2 + 1), f3 := a2} : S58))) else none)) else none)) else none) else none)
set_option maxRecDepth 100000 in
theorem confidantref9_Drop.calls {K : Nat} {a0 : S58} {b1 : Int} {a5 : List Int} {a8 : Option Addr} {a7 : Nat} {a9 : Option Addr} {b0 : Nat} {b7 : S58} {B w : World} {os : List Ass} {rs : List Ro} (H : confidantref9_Drop.f K a0 b1 a5 = some b7) (hS : St B w (os) (Ro.sl (Kd.int .i32) a8 a7 a0.f3 :: Ro.sl (Kd.int .i32) a9 b0 a5 :: rs)) :
  Calls Try.prog 32 [ag (cellsS58 a0 (a8, a7)), ia b1, sv a9 b0 a5].toArray w (fun en w' => ∃ v, en = .returned v ∧ ∃ b8 : Option Addr, ∃ b9 : Nat, v = ag (cellsS58 b7 (b8, b9)) ∧ St B w' (os) (Ro.sl (Kd.int .i32) b8 b9 b7.f3 :: Ro.sl (Kd.int .i32) a8 a7 a0.f3 :: Ro.sl (Kd.int .i32) a9 b0 a5 :: rs)) := by
 unfold confidantref9_Drop.f at H
 refine calls_of_EW (args := [ag (cellsS58 a0 (a8, a7)), ia b1, sv a9 b0 a5]) (c := Cd32) 31 Try.func32 (by kernel_rfl) (by kernel_rfl) (by kernel_rfl) ?_
 refine EW.sq (by kernel_rfl) ?_
 refine EW.rg (by kernel_rfl) ?_
 refine EL.of (EO.box hS 58 (ag (cellsS58 a0 (a8, a7))) (cellsS58 a0 (a8, a7)) 3 (by kernel_rfl) (by kernel_rfl) (by kernel_rfl) (by first | rfl | kernel_rfl) ?_)
 intro a1 w hS
 refine EL.of (EO.alloc hS 58 (ag (cellsS58 zS58 (none, 0))) (cellsS58 zS58 (none, 0)) 6 (by kernel_rfl) (by kernel_rfl) (by kernel_rfl) (by kernel_rfl) (by first | rfl | kernel_rfl) ?_)
 intro a6 w hS
 refine EL.done (by kernel_rfl) ?_
 refine EQ.code ?_
 refine EW.sq (by kernel_rfl) ?_
 refine EW.rg (by kernel_rfl) ?_
 refine EL.quick 1 [1, 2, 3, 6, 8] [(1, ia b1), (2, sv a9 b0 a5), (3, pt a1 0), (6, pt a6 0), (8, pt a1 3)] (by kernel_rfl) ?_
 refine EL.of (EO.Y (YO.loadBox hS 1 rfl 54 3 1 (sv a8 a7 a0.f3) 9 (by kernel_rfl) (by kernel_rfl) (by kernel_rfl) (by kernel_rfl)) ?_)
 refine EL.quick 4 [2, 3, 6, 10, 12, 13] [(2, sv a9 b0 a5), (3, pt a1 0), (6, pt a6 0), (10, ia (a0.f3.length : Int)), (12, ia (mx b1 0)), (13, pt a1 3)] (by kernel_rfl) ?_
 refine EL.of (EO.Y (YO.loadBox hS 1 rfl 54 3 1 (sv a8 a7 a0.f3) 14 (by kernel_rfl) (by kernel_rfl) (by kernel_rfl) (by kernel_rfl)) ?_)
 refine EL.quick 4 [2, 3, 6, 7] [(2, sv a9 b0 a5), (3, pt a1 0), (6, pt a6 0), (7, ia (IntKind.i64.wrap ((a0.f3.length : Int) - (mn (mx b1 0) (a0.f3.length : Int)))))] (by kernel_rfl) ?_
 obtain ⟨b2, c7, H⟩ := lt_out H
 refine EL.keep [2, 3, 6, 7] [(2, sv a9 b0 a5), (3, pt a1 0), (6, pt a6 0), (7, ia (IntKind.i64.wrap ((a0.f3.length : Int) - (mn (mx b1 0) (a0.f3.length : Int)))))] (by kernel_rfl) ?_
 refine EL.as' [(2, sv a9 b0 a5), (3, pt a1 0), (6, pt a6 0), (7, ia b2)] (by subst c7; rfl) ?_
 refine EL.done (by kernel_rfl) ?_
 refine EQ.code ?_
 refine EW.sq (by kernel_rfl) ?_
 refine EW.rg (by kernel_rfl) ?_
 refine EL.quick 1 [2, 3, 6, 7, 18] [(2, sv a9 b0 a5), (3, pt a1 0), (6, pt a6 0), (7, ia b2), (18, pt a1 3)] (by kernel_rfl) ?_
 refine EL.of (EO.Y (YO.loadBox hS 1 rfl 54 3 1 (sv a8 a7 a0.f3) 19 (by kernel_rfl) (by kernel_rfl) (by kernel_rfl) (by kernel_rfl)) ?_)
 refine EL.quick 1 [2, 3, 6, 19, 20] [(2, sv a9 b0 a5), (3, pt a1 0), (6, pt a6 0), (19, sv a8 a7 a0.f3), (20, ia b2)] (by kernel_rfl) ?_
 obtain ⟨c8, H⟩ := ite_in H
 obtain ⟨c9, H⟩ := ite_in H
 obtain ⟨b4, c4, H⟩ := lt_out H
 refine EL.of (EO.sliceRo hS (Kd.int .i32) a8 a7 a0.f3 0 rfl none (some (ia b2)) none 0 b2.toNat a7 b4 (by rw [c4]; exact (slice_hi _ _)) 54 21 (by kernel_rfl) (by kernel_rfl) (by kernel_rfl) (by kernel_rfl) (rfl) ((Int.toNat_of_nonneg (by omega)).symm) ⟨rfl, fun h => by first | rfl | cases h⟩ (by omega) (by omega) (.inl rfl) ?_)
 intro c0 c1 hS
 have hS := St.nilO hS 21 (Kd.int .i32)
 obtain ⟨c2, H⟩ := ite_in H
 obtain ⟨b3, c5, H⟩ := lt_out H
 refine EL.of (EO.append hS 54 54 21 4 0 (Kd.int .i32) none 0 ([] : List Int) rfl c0 c1 b4 (Rd.ro 0 rfl) b3 c5 (fun b5 b6 => Ass.own 21 (Kd.int .i32) b5 b6 b3 :: Ass.box 58 a6 (cellsS58 zS58 (none, 0)) :: Ass.box 58 a1 (cellsS58 a0 (a8, a7)) :: os) 22 (by kernel_rfl) (by kernel_rfl) (by kernel_rfl) (by kernel_rfl) c2 (fun _ _ => rfl) ?_)
 intro b5 b6 w hS
 refine EL.quick 1 [3, 6, 22, 23] [(3, pt a1 0), (6, pt a6 0), (22, sv b5 b6 b3), (23, sv a9 b0 a5)] (by kernel_rfl) ?_
 obtain ⟨c3, H⟩ := ite_in H
 obtain ⟨a2, c6, H⟩ := lt_out H
 refine EL.of (EO.append hS 54 54 21 4 0 (Kd.int .i32) b5 b6 b3 rfl a9 b0 a5 (Rd.ro 2 rfl) a2 c6 (fun a3 a4 => Ass.own 21 (Kd.int .i32) a3 a4 a2 :: Ass.box 58 a6 (cellsS58 zS58 (none, 0)) :: Ass.box 58 a1 (cellsS58 a0 (a8, a7)) :: os) 24 (by kernel_rfl) (by kernel_rfl) (by kernel_rfl) (by kernel_rfl) c3 (fun _ _ => rfl) ?_)
 intro a3 a4 w hS
 refine EL.quick 1 [3, 6, 24, 25] [(3, pt a1 0), (6, pt a6 0), (24, sv a3 a4 a2), (25, pt a1 3)] (by kernel_rfl) ?_
 refine EL.of (EO.storeBox (os' := Ass.own 21 (Kd.int .i32) a3 a4 a2 :: Ass.box 58 a6 (cellsS58 zS58 (none, 0)) :: Ass.box 58 a1 (cellsS58 {a0 with f3 := a2} (a3, a4)) :: os) hS 2 rfl 54 3 (sv a3 a4 a2) (cellsS58 {a0 with f3 := a2} (a3, a4)) (by kernel_rfl) (by kernel_rfl) (by kernel_rfl) (by kernel_rfl) (by kernel_rfl) (by kernel_rfl) rfl rfl ?_)
 intro w hS
 refine EL.done (by kernel_rfl) ?_
 refine EQ.code ?_
 refine EW.sq (by kernel_rfl) ?_
 refine EW.rg (by kernel_rfl) ?_
 refine EL.quick 1 [3, 6, 26] [(3, pt a1 0), (6, pt a6 0), (26, pt a1 2)] (by kernel_rfl) ?_
 refine EL.of (EO.Y (YO.loadBox hS 2 rfl 3 2 1 (ia a0.f2) 27 (by kernel_rfl) (by kernel_rfl) (by kernel_rfl) (by kernel_rfl)) ?_)
 refine EL.quick 2 [3, 6, 28, 29] [(3, pt a1 0), (6, pt a6 0), (28, ia (IntKind.i64.wrap (a0.f2 + 1))), (29, pt a1 2)] (by kernel_rfl) ?_
 refine EL.of (EO.storeBox (os' := Ass.own 21 (Kd.int .i32) a3 a4 a2 :: Ass.box 58 a6 (cellsS58 zS58 (none, 0)) :: Ass.box 58 a1 (cellsS58 {a0 with f2 := IntKind.i64.wrap (a0.f2 + 1), f3 := a2} (a3, a4)) :: os) hS 2 rfl 3 2 (ia (IntKind.i64.wrap (a0.f2 + 1))) (cellsS58 {a0 with f2 := IntKind.i64.wrap (a0.f2 + 1), f3 := a2} (a3, a4)) (by kernel_rfl) (by kernel_rfl) (by kernel_rfl) (by kernel_rfl) (by kernel_rfl) (by kernel_rfl) rfl rfl ?_)
 intro w hS
 refine EL.done (by kernel_rfl) ?_
 refine EQ.code ?_
 refine EW.sq (by kernel_rfl) ?_
 refine EW.rg (by kernel_rfl) ?_
 refine EL.of (EO.Y (YO.loadBox hS 2 rfl 58 0 12 (ag (cellsS58 {a0 with f2 := IntKind.i64.wrap (a0.f2 + 1), f3 := a2} (a3, a4))) 30 (by kernel_rfl) (by kernel_rfl) (by kernel_rfl) (by kernel_rfl)) ?_)
 refine EL.of (EO.storeBox (os' := Ass.own 21 (Kd.int .i32) a3 a4 a2 :: Ass.box 58 a6 (cellsS58 {a0 with f2 := IntKind.i64.wrap (a0.f2 + 1), f3 := a2} (a3, a4)) :: Ass.box 58 a1 (cellsS58 {a0 with f2 := IntKind.i64.wrap (a0.f2 + 1), f3 := a2} (a3, a4)) :: os) hS 1 rfl 58 0 (ag (cellsS58 {a0 with f2 := IntKind.i64.wrap (a0.f2 + 1), f3 := a2} (a3, a4))) (cellsS58 {a0 with f2 := IntKind.i64.wrap (a0.f2 + 1), f3 := a2} (a3, a4)) (by kernel_rfl) (by kernel_rfl) (by kernel_rfl) (by kernel_rfl) (by kernel_rfl) (by kernel_rfl) rfl rfl ?_)
 intro w hS
 refine EL.done (by kernel_rfl) ?_
 refine EQ.code ?_
 refine EW.ret (by kernel_rfl) ?_
 have hS := St.fr hS 0 rfl
 obtain rfl := Option.some.inj H
 exact EQ.leaveC hS 0 rfl 6 58 0 12 (ag (cellsS58 {a0 with f2 := IntKind.i64.wrap (a0.f2 + 1), f3 := a2} (a3, a4))) (by kernel_rfl) (by kernel_rfl) (by kernel_rfl) ⟨_, rfl, a3, a4, rfl, (hS.re [] [0, 0] rfl (sub_cons 0 rfl (sub_tail (sub_tail (sub_self)))))⟩

/-! ### confidant/confidantref9.went: function 56 -/
def confidantref9_went.f (K : Nat) (a0 : S58) (a9 : Int) (a3 : List Int) : Option (S63 × S58) := b1 (confidantref9_Drop.f K a0 a9 a3) fun (a4 : S58) => (some (({zS63 with f0 := 1} : S63), a4))
set_option maxRecDepth 100000 in
theorem confidantref9_went.calls {K : Nat} {a0 : S58} {a9 : Int} {a3 : List Int} {a1 : Option Addr} {a2 : Nat} {a7 : Option Addr} {a8 : Nat} {b7 : S63} {b4 : S58} {B w : World} {os : List Ass} {rs : List Ro} (H : confidantref9_went.f K a0 a9 a3 = some (b7, b4)) (hS : St B w (os) (Ro.sl (Kd.int .i32) a1 a2 a0.f3 :: Ro.sl (Kd.int .i32) a7 a8 a3 :: rs)) :
  Calls Try.prog 56 [ag (cellsS58 a0 (a1, a2)), ia a9, sv a7 a8 a3].toArray w (fun en w' => ∃ v, en = .returned v ∧ ∃ b5 : Option Addr, ∃ b6 : Nat, v = .tuple #[ag (cellsS58 b4 (b5, b6)), ag (encS63 b7)] ∧ St B w' (os) (Ro.sl (Kd.int .i32) b5 b6 b4.f3 :: Ro.sl (Kd.int .i32) a1 a2 a0.f3 :: Ro.sl (Kd.int .i32) a7 a8 a3 :: rs)) := by
 unfold confidantref9_went.f at H
 refine calls_of_EW (args := [ag (cellsS58 a0 (a1, a2)), ia a9, sv a7 a8 a3]) (c := Cd56) 13 Try.func56 (by kernel_rfl) (by kernel_rfl) (by kernel_rfl) ?_
 refine EW.sq (by kernel_rfl) ?_
 refine EW.rg (by kernel_rfl) ?_
 refine EL.of (EO.box hS 58 (ag (cellsS58 a0 (a1, a2))) (cellsS58 a0 (a1, a2)) 3 (by kernel_rfl) (by kernel_rfl) (by kernel_rfl) (by first | rfl | kernel_rfl) ?_)
 intro b3 w hS
 refine EL.of (EO.alloc hS 58 (ag (cellsS58 zS58 (none, 0))) (cellsS58 zS58 (none, 0)) 6 (by kernel_rfl) (by kernel_rfl) (by kernel_rfl) (by kernel_rfl) (by first | rfl | kernel_rfl) ?_)
 intro b0 w hS
 refine EL.of (EO.alloc hS 63 (ag (encS63 zS63)) (encS63 zS63) 7 (by kernel_rfl) (by kernel_rfl) (by kernel_rfl) (by kernel_rfl) (by first | rfl | kernel_rfl) ?_)
 intro b2 w hS
 refine EL.done (by kernel_rfl) ?_
 refine EQ.code ?_
 refine EW.sq (by kernel_rfl) ?_
 refine EW.rg (by kernel_rfl) ?_
 refine EL.of (EO.Y (YO.loadBox hS 2 rfl 58 0 12 (ag (cellsS58 a0 (a1, a2))) 8 (by kernel_rfl) (by kernel_rfl) (by kernel_rfl) (by kernel_rfl)) ?_)
 refine EL.quick 2 [6, 7, 8, 9, 10] [(6, pt b0 0), (7, pt b2 0), (8, ag (cellsS58 a0 (a1, a2))), (9, ia a9), (10, sv a7 a8 a3)] (by kernel_rfl) ?_
 have hS : St B _ (Ass.box 63 b2 (encS63 zS63) :: Ass.box 58 b0 (cellsS58 zS58 (none, 0)) :: Ass.box 58 b3 (cellsS58 a0 (a1, a2)) :: os) (Ro.sl (Kd.int .i32) a1 a2 a0.f3 :: Ro.sl (Kd.int .i32) a7 a8 a3 :: rs) := hS.re [] [] rfl (sub_cons 0 rfl (sub_cons 1 rfl (sub_tail (sub_tail (sub_self)))))
 obtain ⟨a4, b8, H⟩ := b1_out H
 have hq := confidantref9_Drop.calls b8 hS
 refine EL.of (EO.callD 32 [ag (cellsS58 a0 (a1, a2)), ia a9, sv a7 a8 a3] _ 11 (by kernel_rfl) (by kernel_rfl) (by kernel_rfl) hq ?_)
 rintro v w ⟨a5, a6, rfl, hS⟩
 refine EL.quick 1 [6, 7, 11, 12] [(6, pt b0 0), (7, pt b2 0), (11, ag (cellsS58 a4 (a5, a6))), (12, ag (encS63 {zS63 with f0 := 1}))] (by kernel_rfl) ?_
 refine EL.of (EO.storeBox (os' := Ass.box 63 b2 (encS63 zS63) :: Ass.box 58 b0 (cellsS58 a4 (a5, a6)) :: Ass.box 58 b3 (cellsS58 a0 (a1, a2)) :: os) hS 1 rfl 58 0 (ag (cellsS58 a4 (a5, a6))) (cellsS58 a4 (a5, a6)) (by kernel_rfl) (by kernel_rfl) (by kernel_rfl) (by kernel_rfl) (by kernel_rfl) (by kernel_rfl) rfl rfl ?_)
 intro w hS
 refine EL.of (EO.storeBox (os' := Ass.box 63 b2 (encS63 {zS63 with f0 := 1}) :: Ass.box 58 b0 (cellsS58 a4 (a5, a6)) :: Ass.box 58 b3 (cellsS58 a0 (a1, a2)) :: os) hS 0 rfl 63 0 (ag (encS63 {zS63 with f0 := 1})) (encS63 {zS63 with f0 := 1}) (by kernel_rfl) (by kernel_rfl) (by kernel_rfl) (by kernel_rfl) (by kernel_rfl) (by kernel_rfl) rfl rfl ?_)
 intro w hS
 refine EL.done (by kernel_rfl) ?_
 refine EQ.code ?_
 refine EW.ret (by kernel_rfl) ?_
 simp only [cellsS58, encS63, Option.some.injEq, Prod.mk.injEq] at H
 obtain ⟨rfl, rfl⟩ := H
 exact EQ.leave2 hS (.cell 6 58) (.cell 7 63) (ag (cellsS58 a4 (a5, a6))) (ag (encS63 {zS63 with f0 := 1})) (by kernel_rfl) ⟨1, 58, b0, (cellsS58 a4 (a5, a6)), 0, 12, rfl, (by kernel_rfl), (by kernel_rfl)⟩ ⟨0, 63, b2, (encS63 {zS63 with f0 := 1}), 0, 3, rfl, (by kernel_rfl), (by kernel_rfl)⟩ ⟨_, rfl, a5, a6, rfl, (hS.re [] [0, 0, 0] rfl (sub_cons 0 rfl (sub_tail (sub_self))))⟩

end Go.Proofs.Ytlcnkngpankkpaa.G
