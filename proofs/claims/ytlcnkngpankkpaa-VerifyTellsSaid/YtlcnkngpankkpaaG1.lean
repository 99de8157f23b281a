import Derived.Test.YtlcnkngpankkpaaProg
import Derived.Test.YtlcnkngpankkpaaFwShort
import Derived.Test.YtlcnkngpankkpaaFwOpen
import Derived.Test.YtlcnkngpankkpaaG0
namespace Go.Proofs.Ytlcnkngpankkpaa.G
open Go Go.Fw Go.RowKit Go.Proofs
set_option linter.unusedVariables false
set_option linter.unusedSimpArgs false

/-! ### confidant/confidantseat.piece: function 40 -/
def confidantseat_piece.f (K : Nat) (a2 : Int) (a0 : Int) (a1 : Int) (a4 : Int) (b6 : Int) (a3 : Int) (b0 : Bool) : Option (List S32) := if a4 = 0 then none else (if b6 = 0 then none else (if (Int.tmod a2 16) = 0 then (b2 (confidantseat_in.f K 1 (IntKind.i64.wrap a0)) fun (b5 : Int) (b1 : Int) => (b2 (confidantseat_in.f K 1 (IntKind.i64.wrap (Int.tmod a1 3))) fun (b3 : Int) (a8 : Int) => (lt ([4, 5, 6, 7, 8, 9] : List Int) fun b4 => (if 0 ≤ (Int.tmod a0 6) then (if (Int.tmod a0 6) < (b4.length : Int) then (b2 (confidantseat_in.f K (b4.getD (Int.tmod a0 6).toNat 0) 0) fun (a9 : Int) (a6 : Int) => (b2 (confidantseat_in.f K 13 (IntKind.i64.wrap (Int.tmod a1 4))) fun (a7 : Int) (a5 : Int) => (lt ([(⟨b5, b1⟩ : S32), (⟨b3, a8⟩ : S32), (⟨a9, a6⟩ : S32), (⟨a7, a5⟩ : S32)] : List S32) fun b7 => (some b7)))) else none) else none)))) else (if (Int.tmod a2 16) = 1 then (b2 (confidantseat_in.f K 1 (Int.tmod (IntKind.i64.wrap a0) a4)) fun (d0 : Int) (c1 : Int) => (b2 (confidantseat_in.f K 12 (IntKind.i64.wrap (Int.tmod a1 4))) fun (d1 : Int) (c2 : Int) => (b2 (confidantseat_in.f K 20 (Int.tmod (IntKind.i64.wrap a1) b6)) fun (d2 : Int) (c3 : Int) => (b2 (confidantseat_in.f K 21 0) fun (c4 : Int) (b9 : Int) => (b2 (confidantseat_in.f K 13 (IntKind.i64.wrap (Int.tmod a0 4))) fun (c5 : Int) (c0 : Int) => (lt ([(⟨d0, c1⟩ : S32), (⟨d1, c2⟩ : S32), (⟨d2, c3⟩ : S32), (⟨c4, b9⟩ : S32), (⟨c5, c0⟩ : S32)] : List S32) fun p5 => (some p5))))))) else (if (Int.tmod a2 16) = 2 then (b2 (confidantseat_in.f K 1 (Int.tmod (IntKind.i64.wrap a0) a4)) fun (f2 : Int) (d3 : Int) => (b2 (confidantseat_in.f K 1 (IntKind.i64.wrap a1)) fun (f3 : Int) (d4 : Int) => (b2 (confidantseat_in.f K 20 (Int.tmod (IntKind.i64.wrap a1) b6)) fun (f4 : Int) (d5 : Int) => (b2 (confidantseat_in.f K 13 3) fun (d6 : Int) (c6 : Int) => (lt ([(⟨f2, d3⟩ : S32), (⟨f3, d4⟩ : S32), (⟨f4, d5⟩ : S32), (⟨d6, c6⟩ : S32)] : List S32) fun p6 => (some p6)))))) else (if (Int.tmod a2 16) = 3 then (b2 (confidantseat_in.f K 12 3) fun (j6 : Int) (f5 : Int) => (b2 (confidantseat_in.f K 21 0) fun (f6 : Int) (d7 : Int) => (b2 (confidantseat_in.f K 13 (IntKind.i64.wrap (Int.tmod a0 4))) fun (f7 : Int) (d8 : Int) => (lt ([(⟨j6, f5⟩ : S32), (⟨f6, d7⟩ : S32), (⟨f7, d8⟩ : S32)] : List S32) fun p7 => (some p7))))) else (if (Int.tmod a2 16) = 4 then (b2 (confidantseat_in.f K 1 (IntKind.i64.wrap (Int.tmod a1 4))) fun (f8 : Int) (d9 : Int) => (b2 (confidantseat_in.f K 16 (Int.tmod (IntKind.i64.wrap a0) a4)) fun (f9 : Int) (e0 : Int) => (b2 (confidantseat_in.f K 13 (IntKind.i64.wrap (Int.tmod a0 3))) fun (g0 : Int) (e1 : Int) => (lt ([(⟨f8, d9⟩ : S32), (⟨f9, e0⟩ : S32), (⟨g0, e1⟩ : S32)] : List S32) fun p8 => (some p8))))) else (if (Int.tmod a2 16) = 5 then (b2 (confidantseat_in.f K 12 (IntKind.i64.wrap (Int.tmod a0 4))) fun (j7 : Int) (g1 : Int) => (b2 (confidantseat_in.f K 17 (Int.tmod (IntKind.i64.wrap a0) a4)) fun (j8 : Int) (g2 : Int) => (b2 (confidantseat_in.f K 13 2) fun (g3 : Int) (e2 : Int) => (lt ([(⟨j7, g1⟩ : S32), (⟨j8, g2⟩ : S32), (⟨g3, e2⟩ : S32)] : List S32) fun p9 => (some p9))))) else (if (Int.tmod a2 16) = 6 then (b2 (confidantseat_in.f K 12 2) fun (j9 : Int) (g4 : Int) => (b2 (confidantseat_in.f K 18 0) fun (g5 : Int) (e3 : Int) => (b2 (confidantseat_in.f K 13 (IntKind.i64.wrap (Int.tmod a1 4))) fun (g6 : Int) (e4 : Int) => (lt ([(⟨j9, g4⟩ : S32), (⟨g5, e3⟩ : S32), (⟨g6, e4⟩ : S32)] : List S32) fun q0 => (some q0))))) else (if (Int.tmod a2 16) = 7 then (b2 (confidantseat_in.f K 12 2) fun (m0 : Int) (g7 : Int) => (b2 (confidantseat_in.f K 12 (IntKind.i64.wrap (Int.tmod a1 4))) fun (m1 : Int) (g8 : Int) => (b2 (confidantseat_in.f K 19 0) fun (g9 : Int) (e5 : Int) => (lt ([(⟨m0, g7⟩ : S32), (⟨m1, g8⟩ : S32), (⟨g9, e5⟩ : S32)] : List S32) fun q1 => (some q1))))) else (lt (fun (p0 : Bool) => (if p0 = true then (b2 (confidantseat_in.f K 12 (IntKind.i64.wrap (Int.tmod a1 4))) fun (m2 : Int) (i0 : Int) => (b2 (confidantseat_in.f K 22 (Int.tmod (IntKind.i64.wrap a0) a4)) fun (m3 : Int) (i1 : Int) => (lt ([(⟨m2, i0⟩ : S32), (⟨m3, i1⟩ : S32)] : List S32) fun q2 => (some q2)))) else (if (Int.tmod a2 16) = 10 then (b2 (confidantseat_in.f K 15 (Int.tmod (IntKind.i64.wrap a0) a4)) fun (o3 : Int) (m4 : Int) => (lt ([(⟨o3, m4⟩ : S32)] : List S32) fun q3 => (some q3))) else (if (Int.tmod a2 16) = 11 then (b2 (confidantseat_in.f K 14 0) fun (m5 : Int) (i2 : Int) => (b2 (confidantseat_in.f K 22 (Int.tmod (IntKind.i64.wrap a0) a4)) fun (m6 : Int) (i3 : Int) => (lt ([(⟨m5, i2⟩ : S32), (⟨m6, i3⟩ : S32)] : List S32) fun q4 => (some q4)))) else (if (Int.tmod a2 16) = 12 then (lt (fun (p1 : Bool) => (if p1 = true then (b2 (confidantseat_in.f K 1 (IntKind.i64.wrap ((IntKind.i64.wrap ((IntKind.i64.wrap (Int.tmod a0 4)) * 65536)) + (IntKind.i64.wrap (Int.tmod a1 3))))) fun (o4 : Int) (m7 : Int) => (b2 (confidantseat_in.f K 21 0) fun (m8 : Int) (i4 : Int) => (b2 (confidantseat_in.f K 2 0) fun (i5 : Int) (e6 : Int) => (lt ([(⟨o4, m7⟩ : S32), (⟨m8, i4⟩ : S32), (⟨i5, e6⟩ : S32)] : List S32) fun q5 => (some q5))))) else (b2 (confidantseat_in.f K 12 (IntKind.i64.wrap (Int.tmod a1 4))) fun (o5 : Int) (m9 : Int) => (if a3 = 0 then none else (b2 (confidantseat_in.f K 23 (Int.tmod (IntKind.i64.wrap a0) a3)) fun (n0 : Int) (i6 : Int) => (b2 (confidantseat_in.f K 13 1) fun (i7 : Int) (e7 : Int) => (lt ([(⟨o5, m9⟩ : S32), (⟨n0, i6⟩ : S32), (⟨i7, e7⟩ : S32)] : List S32) fun q6 => (some q6)))))))) fun t6 => (if a3 = 0 then (t6 true) else (t6 b0))) else (if (Int.tmod a2 16) = 13 then (if a3 = 0 then (b2 (confidantseat_in.f K 1 (IntKind.i64.wrap ((IntKind.i64.wrap ((IntKind.i64.wrap (Int.tmod a0 4)) * 65536)) + (IntKind.i64.wrap (Int.tmod a1 3))))) fun (o6 : Int) (n1 : Int) => (b2 (confidantseat_in.f K 18 0) fun (n2 : Int) (i8 : Int) => (b2 (confidantseat_in.f K 2 0) fun (i9 : Int) (e8 : Int) => (lt ([(⟨o6, n1⟩ : S32), (⟨n2, i8⟩ : S32), (⟨i9, e8⟩ : S32)] : List S32) fun q7 => (some q7))))) else (b2 (confidantseat_in.f K 24 (Int.tmod (IntKind.i64.wrap a0) a3)) fun (o7 : Int) (n3 : Int) => (b2 (confidantseat_in.f K 2 0) fun (n4 : Int) (j0 : Int) => (b2 (confidantseat_in.f K 13 0) fun (j1 : Int) (e9 : Int) => (lt ([(⟨o7, n3⟩ : S32), (⟨n4, j0⟩ : S32), (⟨j1, e9⟩ : S32)] : List S32) fun q8 => (some q8)))))) else (if (Int.tmod a2 16) = 14 then (b2 (confidantseat_in.f K 1 (IntKind.i64.wrap (Int.tmod a0 4))) fun (o8 : Int) (n5 : Int) => (b2 (confidantseat_in.f K 13 1) fun (n6 : Int) (j2 : Int) => (lt ([(⟨o8, n5⟩ : S32), (⟨n6, j2⟩ : S32)] : List S32) fun q9 => (some q9)))) else (b2 (confidantseat_in.f K 1 (IntKind.i64.wrap a0)) fun (o9 : Int) (n7 : Int) => (b2 (confidantseat_in.f K 3 0) fun (n8 : Int) (j3 : Int) => (b2 (confidantseat_in.f K 4 0) fun (j4 : Int) (f0 : Int) => (b2 (confidantseat_in.f K 2 0) fun (f1 : Int) (c7 : Int) => (lt ([(⟨o9, n7⟩ : S32), (⟨n8, j3⟩ : S32), (⟨j4, f0⟩ : S32), (⟨f1, c7⟩ : S32)] : List S32) fun t0 => (some t0))))))))))))) fun t5 => (if (Int.tmod a2 16) = 8 then (t5 true) else (t5 (decide ((Int.tmod a2 16) = 9))))))))))))))
set_option maxRecDepth 100000 in
theorem confidantseat_piece.calls {K : Nat} {a2 : Int} {a0 : Int} {a1 : Int} {a4 : Int} {b6 : Int} {a3 : Int} {b0 : Bool} {t1 : List S32} {B w : World} {os : List Ass} {rs : List Ro} (H : confidantseat_piece.f K a2 a0 a1 a4 b6 a3 b0 = some t1) (hS : St B w (os) (rs)) :
  Calls Try.prog 40 [ig a2, ig a0, ig a1, ia a4, ia b6, ia a3, .bool (b0)].toArray w (fun en w' => ∃ v, en = .returned v ∧ ∃ y7 : Option Addr, ∃ y9 : Nat, v = sv y7 y9 t1 ∧ St B w' (Ass.own 32 kS32 y7 y9 t1 :: os) (rs)) := by
 unfold confidantseat_piece.f at H
 refine calls_of_EW (args := [ig a2, ig a0, ig a1, ia a4, ia b6, ia a3, .bool (b0)]) (c := Cd40) 214 Try.func40 (by kernel_rfl) (by kernel_rfl) (by kernel_rfl) ?_
 refine EW.sq (by kernel_rfl) ?_
 refine EW.rg (by kernel_rfl) ?_
 refine EL.quick 1 [0, 1, 2, 3, 4, 5, 6] [(0, ig a2), (1, ig a0), (2, ig a1), (3, ia a4), (4, ia b6), (5, ia a3), (6, .bool (b0))] (by kernel_rfl) ?_
 refine EL.done (by kernel_rfl) ?_
 refine EQ.code ?_
 refine EW.sq (by kernel_rfl) ?_
 obtain ⟨A7, H⟩ := ite_out H
 obtain ⟨A8, H⟩ := ite_out H
 have hS := hS.drew
 refine EW.dr (B := B) [] [] (by kernel_rfl) (by kernel_rfl) ?_
 have hN : Region.noSelect Cd40.r.l.ops = true := (by kernel_rfl)
 have hF : freeAll Cd40.r.l.ops = true := (by kernel_rfl)
 have hC : Core B [] [] _ := ⟨_, _, hS⟩
 refine ED.quick hN hF hC [0, 1, 2, 4, 5, 6] [0, 1, 2, 5, 6, 18, 19, 22, 23] 4 [(0, ig a2), (1, ig a0), (2, ig a1), (5, ia a3), (6, .bool (b0)), (18, ia (IntKind.i64.wrap a0)), (19, ia a4), (22, ia (IntKind.i64.wrap a1)), (23, ia b6)] (bm 10 119) (by kernel_rfl) (by kernel_rfl) ?_
 refine ED.Y hN hF hC 3 3 (bm 10 127) (by kernel_rfl) (by kernel_rfl) rfl (fun _ _ _ hS => YO.div .rem .i64 (IntKind.i64.wrap a0) a4 (Int.tmod (IntKind.i64.wrap a0) a4) 20 (by kernel_rfl) (by kernel_rfl) (by kernel_rfl) A7 (by first | exact .inl ⟨rfl, rfl⟩ | exact .inr ⟨rfl, rfl⟩)) ?_
 refine ED.quick hN hF hC [8] [0, 1, 2, 5, 6, 15, 22, 23] 2 [(0, ig a2), (1, ig a0), (2, ig a1), (5, ia a3), (6, .bool (b0)), (15, ia (Int.tmod (IntKind.i64.wrap a0) a4)), (22, ia (IntKind.i64.wrap a1)), (23, ia b6)] (bm 10 383) (by kernel_rfl) (by kernel_rfl) ?_
 refine ED.Y hN hF hC 7 1 (bm 10 511) (by kernel_rfl) (by kernel_rfl) rfl (fun _ _ _ hS => YO.div .rem .i64 (IntKind.i64.wrap a1) b6 (Int.tmod (IntKind.i64.wrap a1) b6) 24 (by kernel_rfl) (by kernel_rfl) (by kernel_rfl) A8 (by first | exact .inl ⟨rfl, rfl⟩ | exact .inr ⟨rfl, rfl⟩)) ?_
 refine ED.quick hN hF hC [9] [0, 1, 2, 5, 6, 15, 16] 0 [(0, ig a2), (1, ig a0), (2, ig a1), (5, ia a3), (6, .bool (b0)), (15, ia (Int.tmod (IntKind.i64.wrap a0) a4)), (16, ia (Int.tmod (IntKind.i64.wrap a1) b6))] (bm 10 1023) (by kernel_rfl) (by kernel_rfl) ?_
 refine ED.done (by kernel_rfl) ?_
 refine EQ.code ?_
 refine EW.sq (by kernel_rfl) ?_
 refine EW.sq (by kernel_rfl) ?_
 refine EW.rg (by kernel_rfl) ?_
 refine EL.quick 2 [1, 2, 5, 6, 15, 16, 26] [(1, ig a0), (2, ig a1), (5, ia a3), (6, .bool (b0)), (15, ia (Int.tmod (IntKind.i64.wrap a0) a4)), (16, ia (Int.tmod (IntKind.i64.wrap a1) b6)), (26, ig (Int.tmod a2 16))] (by kernel_rfl) ?_
 refine EL.done (by kernel_rfl) ?_
 refine EQ.code ?_
 refine EW.bl 0 (by kernel_rfl) ?_
 refine EW.sq (by kernel_rfl) ?_
 refine EW.rg (by kernel_rfl) ?_
 refine EL.quick 2 [1, 2, 5, 6, 15, 16, 26, 27] [(1, ig a0), (2, ig a1), (5, ia a3), (6, .bool (b0)), (15, ia (Int.tmod (IntKind.i64.wrap a0) a4)), (16, ia (Int.tmod (IntKind.i64.wrap a1) b6)), (26, ig (Int.tmod a2 16)), (27, .bool (decide ((Int.tmod a2 16) = 0)))] (by kernel_rfl) ?_
 refine EL.done (by kernel_rfl) ?_
 refine EQ.code ?_
 refine EW.cdP ((Int.tmod a2 16) = 0) (by kernel_rfl) (by kernel_rfl) (fun x1 => ?_) (fun x1 => ?_)
 ·rw [if_pos x1] at H
  refine EW.sq (by kernel_rfl) ?_
  obtain ⟨b5, b1, y6, H⟩ := b2_out H
  obtain ⟨b3, a8, n9, H⟩ := b2_out H
  obtain ⟨b4, o2, H⟩ := lt_out H
  obtain ⟨c8, H⟩ := ite_in H
  obtain ⟨c9, H⟩ := ite_in H
  obtain ⟨a9, a6, o0, H⟩ := b2_out H
  obtain ⟨a7, a5, o1, H⟩ := b2_out H
  obtain ⟨b7, b8, H⟩ := lt_out H
  refine EW.mt (fun a w => ∃ p2 : Option Addr, ∃ p3 : Nat, ∃ y8 : Option Addr, ∃ z0 : Nat, Sat 214 [(14, sv p2 p3 b7)] a ∧ St B w (Ass.own 32 kS32 p2 p3 b7 :: Ass.own 3 (Kd.int .i64) y8 z0 b4 :: os) (rs)) (by kernel_rfl) ?_ (fun a w hI => ?_)
  ·have hS := hS.drew
   refine EW.dr (B := B) [] [] (by kernel_rfl) (by kernel_rfl) ?_
   have hN : Region.noSelect Cd40.r.r.l.r.l.r.l.l.ops = true := (by kernel_rfl)
   have hF : freeAll Cd40.r.r.l.r.l.r.l.l.ops = true := (by kernel_rfl)
   have hC : Core B [] [] _ := ⟨_, _, hS⟩
   refine ED.quick hN hF hC [0, 1, 3, 4, 5, 8, 9, 13, 14, 15] [30, 34, 38, 44] 9 [(30, ia (IntKind.i64.wrap a0)), (34, ia (IntKind.i64.wrap (Int.tmod a1 3))), (38, ig (Int.tmod a0 6)), (44, ia (IntKind.i64.wrap (Int.tmod a1 4)))] (bm 19 58171) (by kernel_rfl) (by kernel_rfl) ?_
   refine ED.two 2 7 8 (by kernel_rfl) (by kernel_rfl) ?_ ?_
   ·have hq := confidantseat_in.calls y6 hS
    refine EO.callD 41 [ia 1, ia (IntKind.i64.wrap a0)] _ 31 (by kernel_rfl) (by kernel_rfl) (by kernel_rfl) hq ?_
    rintro v w ⟨rfl, hS⟩
    have hC := hC.again ⟨_, _, hS⟩
    refine ⟨hC, ?_⟩
    refine ED.at' (bm 19 58175) (by kernel_rfl) ?_
    refine ED.two 6 7 7 (by kernel_rfl) (by kernel_rfl) ?_ ?_
    ·have hq := confidantseat_in.calls n9 hS
     refine EO.callD 41 [ia 1, ia (IntKind.i64.wrap (Int.tmod a1 3))] _ 35 (by kernel_rfl) (by kernel_rfl) (by kernel_rfl) hq ?_
     rintro v w ⟨rfl, hS⟩
     have hC := hC.again ⟨_, _, hS⟩
     refine ⟨hC, ?_⟩
     refine ED.at' (bm 19 58239) (by kernel_rfl) ?_
     refine ED.one 7 6 (bm 19 58367) (by kernel_rfl) (by kernel_rfl) (by kernel_rfl) (EO.lit hS (Kd.int .i64) 3 39 6 #[(0, ia 4), (1, ia 5), (2, ia 6), (3, ia 7), (4, ia 8), (5, ia 9)] [ia 4, ia 5, ia 6, ia 7, ia 8, ia 9] b4 36 (by kernel_rfl) (by kernel_rfl) (by kernel_rfl) (fun _ => (by kernel_rfl)) (by rw [o2]; rfl) (by kernel_rfl) (fun w G hr => (by rw [o2]; exact ⟨[ia 4], [ia 5, ia 6, ia 7, ia 8, ia 9], rfl, rfl, ⟨[ia 5], [ia 6, ia 7, ia 8, ia 9], rfl, rfl, ⟨[ia 6], [ia 7, ia 8, ia 9], rfl, rfl, ⟨[ia 7], [ia 8, ia 9], rfl, rfl, ⟨[ia 8], [ia 9], rfl, rfl, ⟨[ia 9], [], rfl, rfl, rfl⟩⟩⟩⟩⟩⟩)) ?_)
     intro t7 w hS
     have hC := hC.again ⟨_, _, hS⟩
     refine ⟨hC, ?_⟩
     refine ED.Y hN hF hC 10 5 (bm 19 59391) (by kernel_rfl) (by kernel_rfl) rfl (fun _ _ _ hS => YO.idx 39 1 ⟨t7, 0, none⟩ b4.length 6 .u8 (Int.tmod a0 6) 39 (by kernel_rfl) (by kernel_rfl) (by kernel_rfl) (by kernel_rfl) c8 c9) ?_
     refine ED.one 11 4 (bm 19 61439) (by kernel_rfl) (by kernel_rfl) (by kernel_rfl) (EO.Y (YO.loadEl hS (Kd.int .i64) ⟨t7, 0, none⟩ 6 b4 (Rd.own 0 3 rfl) 0 (encI .i64) encI_of (Int.tmod a0 6) c8 c9 3 1 0 1 rfl (ia (b4.getD (Int.tmod a0 6).toNat 0)) 40 (by kernel_rfl) (by kernel_rfl) (by kernel_rfl) (by kernel_rfl)) ?_)
     have hC := hC.again ⟨_, _, hS⟩
     refine ⟨hC, ?_⟩
     have hq := confidantseat_in.calls o0 hS
     refine ED.one 12 3 (bm 19 65535) (by kernel_rfl) (by kernel_rfl) (by kernel_rfl) (EO.callD 41 [ia (b4.getD (Int.tmod a0 6).toNat 0), ia 0] _ 41 (by kernel_rfl) (by kernel_rfl) (by kernel_rfl) hq ?_)
     rintro v w ⟨rfl, hS⟩
     have hC := hC.again ⟨_, _, hS⟩
     refine ⟨hC, ?_⟩
     have hq := confidantseat_in.calls o1 hS
     refine ED.one 16 2 (bm 19 131071) (by kernel_rfl) (by kernel_rfl) (by kernel_rfl) (EO.callD 41 [ia 13, ia (IntKind.i64.wrap (Int.tmod a1 4))] _ 45 (by kernel_rfl) (by kernel_rfl) (by kernel_rfl) hq ?_)
     rintro v w ⟨rfl, hS⟩
     have hC := hC.again ⟨_, _, hS⟩
     refine ⟨hC, ?_⟩
     refine ED.one 17 1 (bm 19 262143) (by kernel_rfl) (by kernel_rfl) (by kernel_rfl) (EO.lit hS kS32 32 29 4 #[(0, ag [ia b5, ib b1]), (1, ag [ia b3, ib a8]), (2, ag [ia a9, ib a6]), (3, ag [ia a7, ib a5])] [ia b5, ib b1, ia b3, ib a8, ia a9, ib a6, ia a7, ib a5] b7 46 (by kernel_rfl) (by kernel_rfl) (by kernel_rfl) (fun _ => (by kernel_rfl)) (by rw [b8]; rfl) (by kernel_rfl) (fun w G hr => (by rw [b8]; exact ⟨[ia b5, ib b1], [ia b3, ib a8, ia a9, ib a6, ia a7, ib a5], rfl, ⟨[ia b5], [ib b1], rfl, rfl, ⟨[ib b1], [], rfl, rfl, rfl⟩⟩, ⟨[ia b3, ib a8], [ia a9, ib a6, ia a7, ib a5], rfl, ⟨[ia b3], [ib a8], rfl, rfl, ⟨[ib a8], [], rfl, rfl, rfl⟩⟩, ⟨[ia a9, ib a6], [ia a7, ib a5], rfl, ⟨[ia a9], [ib a6], rfl, rfl, ⟨[ib a6], [], rfl, rfl, rfl⟩⟩, ⟨[ia a7, ib a5], [], rfl, ⟨[ia a7], [ib a5], rfl, rfl, ⟨[ib a5], [], rfl, rfl, rfl⟩⟩, rfl⟩⟩⟩⟩)) ?_)
     intro t8 w hS
     have hC := hC.again ⟨_, _, hS⟩
     refine ⟨hC, ?_⟩
     refine ED.quick hN hF hC [18] [14] 0 [(14, sv (some ⟨t8, 0, none⟩) 4 b7)] (bm 19 524287) (by kernel_rfl) (by kernel_rfl) ?_
     refine ED.done (by kernel_rfl) ?_
     refine EQ.to ?_
     refine EQ.keep [14] [(14, sv (some ⟨t8, 0, none⟩) 4 b7)] (by kernel_rfl) ?_
     exact fun a ha => ⟨(some ⟨t8, 0, none⟩), 4, (some ⟨t7, 0, none⟩), 6, ha, (hS.re [1, 1] [] rfl (sub_self))⟩
    ·refine EO.lit hS (Kd.int .i64) 3 39 6 #[(0, ia 4), (1, ia 5), (2, ia 6), (3, ia 7), (4, ia 8), (5, ia 9)] [ia 4, ia 5, ia 6, ia 7, ia 8, ia 9] b4 36 (by kernel_rfl) (by kernel_rfl) (by kernel_rfl) (fun _ => (by kernel_rfl)) (by rw [o2]; rfl) (by kernel_rfl) (fun w G hr => (by rw [o2]; exact ⟨[ia 4], [ia 5, ia 6, ia 7, ia 8, ia 9], rfl, rfl, ⟨[ia 5], [ia 6, ia 7, ia 8, ia 9], rfl, rfl, ⟨[ia 6], [ia 7, ia 8, ia 9], rfl, rfl, ⟨[ia 7], [ia 8, ia 9], rfl, rfl, ⟨[ia 8], [ia 9], rfl, rfl, ⟨[ia 9], [], rfl, rfl, rfl⟩⟩⟩⟩⟩⟩)) ?_
     intro p4 w hS
     have hC := hC.again ⟨_, _, hS⟩
     refine ⟨hC, ?_⟩
     refine ED.at' (bm 19 58303) (by kernel_rfl) ?_
     refine ED.Y hN hF hC 10 6 (bm 19 59327) (by kernel_rfl) (by kernel_rfl) rfl (fun _ _ _ hS => YO.idx 39 1 ⟨p4, 0, none⟩ b4.length 6 .u8 (Int.tmod a0 6) 39 (by kernel_rfl) (by kernel_rfl) (by kernel_rfl) (by kernel_rfl) c8 c9) ?_
     refine ED.two 6 11 5 (by kernel_rfl) (by kernel_rfl) ?_ ?_
     ·have hq := confidantseat_in.calls n9 hS
      refine EO.callD 41 [ia 1, ia (IntKind.i64.wrap (Int.tmod a1 3))] _ 35 (by kernel_rfl) (by kernel_rfl) (by kernel_rfl) hq ?_
      rintro v w ⟨rfl, hS⟩
      have hC := hC.again ⟨_, _, hS⟩
      refine ⟨hC, ?_⟩
      refine ED.at' (bm 19 59391) (by kernel_rfl) ?_
      refine ED.one 11 4 (bm 19 61439) (by kernel_rfl) (by kernel_rfl) (by kernel_rfl) (EO.Y (YO.loadEl hS (Kd.int .i64) ⟨p4, 0, none⟩ 6 b4 (Rd.own 0 3 rfl) 0 (encI .i64) encI_of (Int.tmod a0 6) c8 c9 3 1 0 1 rfl (ia (b4.getD (Int.tmod a0 6).toNat 0)) 40 (by kernel_rfl) (by kernel_rfl) (by kernel_rfl) (by kernel_rfl)) ?_)
      have hC := hC.again ⟨_, _, hS⟩
      refine ⟨hC, ?_⟩
      have hq := confidantseat_in.calls o0 hS
      refine ED.one 12 3 (bm 19 65535) (by kernel_rfl) (by kernel_rfl) (by kernel_rfl) (EO.callD 41 [ia (b4.getD (Int.tmod a0 6).toNat 0), ia 0] _ 41 (by kernel_rfl) (by kernel_rfl) (by kernel_rfl) hq ?_)
      rintro v w ⟨rfl, hS⟩
      have hC := hC.again ⟨_, _, hS⟩
      refine ⟨hC, ?_⟩
      have hq := confidantseat_in.calls o1 hS
      refine ED.one 16 2 (bm 19 131071) (by kernel_rfl) (by kernel_rfl) (by kernel_rfl) (EO.callD 41 [ia 13, ia (IntKind.i64.wrap (Int.tmod a1 4))] _ 45 (by kernel_rfl) (by kernel_rfl) (by kernel_rfl) hq ?_)
      rintro v w ⟨rfl, hS⟩
      have hC := hC.again ⟨_, _, hS⟩
      refine ⟨hC, ?_⟩
      refine ED.one 17 1 (bm 19 262143) (by kernel_rfl) (by kernel_rfl) (by kernel_rfl) (EO.lit hS kS32 32 29 4 #[(0, ag [ia b5, ib b1]), (1, ag [ia b3, ib a8]), (2, ag [ia a9, ib a6]), (3, ag [ia a7, ib a5])] [ia b5, ib b1, ia b3, ib a8, ia a9, ib a6, ia a7, ib a5] b7 46 (by kernel_rfl) (by kernel_rfl) (by kernel_rfl) (fun _ => (by kernel_rfl)) (by rw [b8]; rfl) (by kernel_rfl) (fun w G hr => (by rw [b8]; exact ⟨[ia b5, ib b1], [ia b3, ib a8, ia a9, ib a6, ia a7, ib a5], rfl, ⟨[ia b5], [ib b1], rfl, rfl, ⟨[ib b1], [], rfl, rfl, rfl⟩⟩, ⟨[ia b3, ib a8], [ia a9, ib a6, ia a7, ib a5], rfl, ⟨[ia b3], [ib a8], rfl, rfl, ⟨[ib a8], [], rfl, rfl, rfl⟩⟩, ⟨[ia a9, ib a6], [ia a7, ib a5], rfl, ⟨[ia a9], [ib a6], rfl, rfl, ⟨[ib a6], [], rfl, rfl, rfl⟩⟩, ⟨[ia a7, ib a5], [], rfl, ⟨[ia a7], [ib a5], rfl, rfl, ⟨[ib a5], [], rfl, rfl, rfl⟩⟩, rfl⟩⟩⟩⟩)) ?_)
      intro t9 w hS
      have hC := hC.again ⟨_, _, hS⟩
      refine ⟨hC, ?_⟩
      refine ED.quick hN hF hC [18] [14] 0 [(14, sv (some ⟨t9, 0, none⟩) 4 b7)] (bm 19 524287) (by kernel_rfl) (by kernel_rfl) ?_
      refine ED.done (by kernel_rfl) ?_
      refine EQ.to ?_
      refine EQ.keep [14] [(14, sv (some ⟨t9, 0, none⟩) 4 b7)] (by kernel_rfl) ?_
      exact fun a ha => ⟨(some ⟨t9, 0, none⟩), 4, (some ⟨p4, 0, none⟩), 6, ha, (hS.re [1, 1] [] rfl (sub_self))⟩
     ·refine EO.Y (YO.loadEl hS (Kd.int .i64) ⟨p4, 0, none⟩ 6 b4 (Rd.own 0 3 rfl) 0 (encI .i64) encI_of (Int.tmod a0 6) c8 c9 3 1 0 1 rfl (ia (b4.getD (Int.tmod a0 6).toNat 0)) 40 (by kernel_rfl) (by kernel_rfl) (by kernel_rfl) (by kernel_rfl)) ?_
      have hC := hC.again ⟨_, _, hS⟩
      refine ⟨hC, ?_⟩
      refine ED.at' (bm 19 61375) (by kernel_rfl) ?_
      have hq := confidantseat_in.calls n9 hS
      refine ED.one 6 4 (bm 19 61439) (by kernel_rfl) (by kernel_rfl) (by kernel_rfl) (EO.callD 41 [ia 1, ia (IntKind.i64.wrap (Int.tmod a1 3))] _ 35 (by kernel_rfl) (by kernel_rfl) (by kernel_rfl) hq ?_)
      rintro v w ⟨rfl, hS⟩
      have hC := hC.again ⟨_, _, hS⟩
      refine ⟨hC, ?_⟩
      have hq := confidantseat_in.calls o0 hS
      refine ED.one 12 3 (bm 19 65535) (by kernel_rfl) (by kernel_rfl) (by kernel_rfl) (EO.callD 41 [ia (b4.getD (Int.tmod a0 6).toNat 0), ia 0] _ 41 (by kernel_rfl) (by kernel_rfl) (by kernel_rfl) hq ?_)
      rintro v w ⟨rfl, hS⟩
      have hC := hC.again ⟨_, _, hS⟩
      refine ⟨hC, ?_⟩
      have hq := confidantseat_in.calls o1 hS
      refine ED.one 16 2 (bm 19 131071) (by kernel_rfl) (by kernel_rfl) (by kernel_rfl) (EO.callD 41 [ia 13, ia (IntKind.i64.wrap (Int.tmod a1 4))] _ 45 (by kernel_rfl) (by kernel_rfl) (by kernel_rfl) hq ?_)
      rintro v w ⟨rfl, hS⟩
      have hC := hC.again ⟨_, _, hS⟩
      refine ⟨hC, ?_⟩
      refine ED.one 17 1 (bm 19 262143) (by kernel_rfl) (by kernel_rfl) (by kernel_rfl) (EO.lit hS kS32 32 29 4 #[(0, ag [ia b5, ib b1]), (1, ag [ia b3, ib a8]), (2, ag [ia a9, ib a6]), (3, ag [ia a7, ib a5])] [ia b5, ib b1, ia b3, ib a8, ia a9, ib a6, ia a7, ib a5] b7 46 (by kernel_rfl) (by kernel_rfl) (by kernel_rfl) (fun _ => (by kernel_rfl)) (by rw [b8]; rfl) (by kernel_rfl) (fun w G hr => (by rw [b8]; exact ⟨[ia b5, ib b1], [ia b3, ib a8, ia a9, ib a6, ia a7, ib a5], rfl, ⟨[ia b5], [ib b1], rfl, rfl, ⟨[ib b1], [], rfl, rfl, rfl⟩⟩, ⟨[ia b3, ib a8], [ia a9, ib a6, ia a7, ib a5], rfl, ⟨[ia b3], [ib a8], rfl, rfl, ⟨[ib a8], [], rfl, rfl, rfl⟩⟩, ⟨[ia a9, ib a6], [ia a7, ib a5], rfl, ⟨[ia a9], [ib a6], rfl, rfl, ⟨[ib a6], [], rfl, rfl, rfl⟩⟩, ⟨[ia a7, ib a5], [], rfl, ⟨[ia a7], [ib a5], rfl, rfl, ⟨[ib a5], [], rfl, rfl, rfl⟩⟩, rfl⟩⟩⟩⟩)) ?_)
      intro u0 w hS
      have hC := hC.again ⟨_, _, hS⟩
      refine ⟨hC, ?_⟩
      refine ED.quick hN hF hC [18] [14] 0 [(14, sv (some ⟨u0, 0, none⟩) 4 b7)] (bm 19 524287) (by kernel_rfl) (by kernel_rfl) ?_
      refine ED.done (by kernel_rfl) ?_
      refine EQ.to ?_
      refine EQ.keep [14] [(14, sv (some ⟨u0, 0, none⟩) 4 b7)] (by kernel_rfl) ?_
      exact fun a ha => ⟨(some ⟨u0, 0, none⟩), 4, (some ⟨p4, 0, none⟩), 6, ha, (hS.re [1, 1] [] rfl (sub_self))⟩
   ·refine EO.lit hS (Kd.int .i64) 3 39 6 #[(0, ia 4), (1, ia 5), (2, ia 6), (3, ia 7), (4, ia 8), (5, ia 9)] [ia 4, ia 5, ia 6, ia 7, ia 8, ia 9] b4 36 (by kernel_rfl) (by kernel_rfl) (by kernel_rfl) (fun _ => (by kernel_rfl)) (by rw [o2]; rfl) (by kernel_rfl) (fun w G hr => (by rw [o2]; exact ⟨[ia 4], [ia 5, ia 6, ia 7, ia 8, ia 9], rfl, rfl, ⟨[ia 5], [ia 6, ia 7, ia 8, ia 9], rfl, rfl, ⟨[ia 6], [ia 7, ia 8, ia 9], rfl, rfl, ⟨[ia 7], [ia 8, ia 9], rfl, rfl, ⟨[ia 8], [ia 9], rfl, rfl, ⟨[ia 9], [], rfl, rfl, rfl⟩⟩⟩⟩⟩⟩)) ?_
    intro j5 w hS
    have hC := hC.again ⟨_, _, hS⟩
    refine ⟨hC, ?_⟩
    refine ED.at' (bm 19 58299) (by kernel_rfl) ?_
    refine ED.Y hN hF hC 10 7 (bm 19 59323) (by kernel_rfl) (by kernel_rfl) rfl (fun _ _ _ hS => YO.idx 39 1 ⟨j5, 0, none⟩ b4.length 6 .u8 (Int.tmod a0 6) 39 (by kernel_rfl) (by kernel_rfl) (by kernel_rfl) (by kernel_rfl) c8 c9) ?_
    refine ED.two 2 11 6 (by kernel_rfl) (by kernel_rfl) ?_ ?_
    ·have hq := confidantseat_in.calls y6 hS
     refine EO.callD 41 [ia 1, ia (IntKind.i64.wrap a0)] _ 31 (by kernel_rfl) (by kernel_rfl) (by kernel_rfl) hq ?_
     rintro v w ⟨rfl, hS⟩
     have hC := hC.again ⟨_, _, hS⟩
     refine ⟨hC, ?_⟩
     refine ED.at' (bm 19 59327) (by kernel_rfl) ?_
     refine ED.two 6 11 5 (by kernel_rfl) (by kernel_rfl) ?_ ?_
     ·have hq := confidantseat_in.calls n9 hS
      refine EO.callD 41 [ia 1, ia (IntKind.i64.wrap (Int.tmod a1 3))] _ 35 (by kernel_rfl) (by kernel_rfl) (by kernel_rfl) hq ?_
      rintro v w ⟨rfl, hS⟩
      have hC := hC.again ⟨_, _, hS⟩
      refine ⟨hC, ?_⟩
      refine ED.at' (bm 19 59391) (by kernel_rfl) ?_
      refine ED.one 11 4 (bm 19 61439) (by kernel_rfl) (by kernel_rfl) (by kernel_rfl) (EO.Y (YO.loadEl hS (Kd.int .i64) ⟨j5, 0, none⟩ 6 b4 (Rd.own 0 3 rfl) 0 (encI .i64) encI_of (Int.tmod a0 6) c8 c9 3 1 0 1 rfl (ia (b4.getD (Int.tmod a0 6).toNat 0)) 40 (by kernel_rfl) (by kernel_rfl) (by kernel_rfl) (by kernel_rfl)) ?_)
      have hC := hC.again ⟨_, _, hS⟩
      refine ⟨hC, ?_⟩
      have hq := confidantseat_in.calls o0 hS
      refine ED.one 12 3 (bm 19 65535) (by kernel_rfl) (by kernel_rfl) (by kernel_rfl) (EO.callD 41 [ia (b4.getD (Int.tmod a0 6).toNat 0), ia 0] _ 41 (by kernel_rfl) (by kernel_rfl) (by kernel_rfl) hq ?_)
      rintro v w ⟨rfl, hS⟩
      have hC := hC.again ⟨_, _, hS⟩
      refine ⟨hC, ?_⟩
      have hq := confidantseat_in.calls o1 hS
      refine ED.one 16 2 (bm 19 131071) (by kernel_rfl) (by kernel_rfl) (by kernel_rfl) (EO.callD 41 [ia 13, ia (IntKind.i64.wrap (Int.tmod a1 4))] _ 45 (by kernel_rfl) (by kernel_rfl) (by kernel_rfl) hq ?_)
      rintro v w ⟨rfl, hS⟩
      have hC := hC.again ⟨_, _, hS⟩
      refine ⟨hC, ?_⟩
      refine ED.one 17 1 (bm 19 262143) (by kernel_rfl) (by kernel_rfl) (by kernel_rfl) (EO.lit hS kS32 32 29 4 #[(0, ag [ia b5, ib b1]), (1, ag [ia b3, ib a8]), (2, ag [ia a9, ib a6]), (3, ag [ia a7, ib a5])] [ia b5, ib b1, ia b3, ib a8, ia a9, ib a6, ia a7, ib a5] b7 46 (by kernel_rfl) (by kernel_rfl) (by kernel_rfl) (fun _ => (by kernel_rfl)) (by rw [b8]; rfl) (by kernel_rfl) (fun w G hr => (by rw [b8]; exact ⟨[ia b5, ib b1], [ia b3, ib a8, ia a9, ib a6, ia a7, ib a5], rfl, ⟨[ia b5], [ib b1], rfl, rfl, ⟨[ib b1], [], rfl, rfl, rfl⟩⟩, ⟨[ia b3, ib a8], [ia a9, ib a6, ia a7, ib a5], rfl, ⟨[ia b3], [ib a8], rfl, rfl, ⟨[ib a8], [], rfl, rfl, rfl⟩⟩, ⟨[ia a9, ib a6], [ia a7, ib a5], rfl, ⟨[ia a9], [ib a6], rfl, rfl, ⟨[ib a6], [], rfl, rfl, rfl⟩⟩, ⟨[ia a7, ib a5], [], rfl, ⟨[ia a7], [ib a5], rfl, rfl, ⟨[ib a5], [], rfl, rfl, rfl⟩⟩, rfl⟩⟩⟩⟩)) ?_)
      intro u1 w hS
      have hC := hC.again ⟨_, _, hS⟩
      refine ⟨hC, ?_⟩
      refine ED.quick hN hF hC [18] [14] 0 [(14, sv (some ⟨u1, 0, none⟩) 4 b7)] (bm 19 524287) (by kernel_rfl) (by kernel_rfl) ?_
      refine ED.done (by kernel_rfl) ?_
      refine EQ.to ?_
      refine EQ.keep [14] [(14, sv (some ⟨u1, 0, none⟩) 4 b7)] (by kernel_rfl) ?_
      exact fun a ha => ⟨(some ⟨u1, 0, none⟩), 4, (some ⟨j5, 0, none⟩), 6, ha, (hS.re [1, 1] [] rfl (sub_self))⟩
     ·refine EO.Y (YO.loadEl hS (Kd.int .i64) ⟨j5, 0, none⟩ 6 b4 (Rd.own 0 3 rfl) 0 (encI .i64) encI_of (Int.tmod a0 6) c8 c9 3 1 0 1 rfl (ia (b4.getD (Int.tmod a0 6).toNat 0)) 40 (by kernel_rfl) (by kernel_rfl) (by kernel_rfl) (by kernel_rfl)) ?_
      have hC := hC.again ⟨_, _, hS⟩
      refine ⟨hC, ?_⟩
      refine ED.at' (bm 19 61375) (by kernel_rfl) ?_
      have hq := confidantseat_in.calls n9 hS
      refine ED.one 6 4 (bm 19 61439) (by kernel_rfl) (by kernel_rfl) (by kernel_rfl) (EO.callD 41 [ia 1, ia (IntKind.i64.wrap (Int.tmod a1 3))] _ 35 (by kernel_rfl) (by kernel_rfl) (by kernel_rfl) hq ?_)
      rintro v w ⟨rfl, hS⟩
      have hC := hC.again ⟨_, _, hS⟩
      refine ⟨hC, ?_⟩
      have hq := confidantseat_in.calls o0 hS
      refine ED.one 12 3 (bm 19 65535) (by kernel_rfl) (by kernel_rfl) (by kernel_rfl) (EO.callD 41 [ia (b4.getD (Int.tmod a0 6).toNat 0), ia 0] _ 41 (by kernel_rfl) (by kernel_rfl) (by kernel_rfl) hq ?_)
      rintro v w ⟨rfl, hS⟩
      have hC := hC.again ⟨_, _, hS⟩
      refine ⟨hC, ?_⟩
      have hq := confidantseat_in.calls o1 hS
      refine ED.one 16 2 (bm 19 131071) (by kernel_rfl) (by kernel_rfl) (by kernel_rfl) (EO.callD 41 [ia 13, ia (IntKind.i64.wrap (Int.tmod a1 4))] _ 45 (by kernel_rfl) (by kernel_rfl) (by kernel_rfl) hq ?_)
      rintro v w ⟨rfl, hS⟩
      have hC := hC.again ⟨_, _, hS⟩
      refine ⟨hC, ?_⟩
      refine ED.one 17 1 (bm 19 262143) (by kernel_rfl) (by kernel_rfl) (by kernel_rfl) (EO.lit hS kS32 32 29 4 #[(0, ag [ia b5, ib b1]), (1, ag [ia b3, ib a8]), (2, ag [ia a9, ib a6]), (3, ag [ia a7, ib a5])] [ia b5, ib b1, ia b3, ib a8, ia a9, ib a6, ia a7, ib a5] b7 46 (by kernel_rfl) (by kernel_rfl) (by kernel_rfl) (fun _ => (by kernel_rfl)) (by rw [b8]; rfl) (by kernel_rfl) (fun w G hr => (by rw [b8]; exact ⟨[ia b5, ib b1], [ia b3, ib a8, ia a9, ib a6, ia a7, ib a5], rfl, ⟨[ia b5], [ib b1], rfl, rfl, ⟨[ib b1], [], rfl, rfl, rfl⟩⟩, ⟨[ia b3, ib a8], [ia a9, ib a6, ia a7, ib a5], rfl, ⟨[ia b3], [ib a8], rfl, rfl, ⟨[ib a8], [], rfl, rfl, rfl⟩⟩, ⟨[ia a9, ib a6], [ia a7, ib a5], rfl, ⟨[ia a9], [ib a6], rfl, rfl, ⟨[ib a6], [], rfl, rfl, rfl⟩⟩, ⟨[ia a7, ib a5], [], rfl, ⟨[ia a7], [ib a5], rfl, rfl, ⟨[ib a5], [], rfl, rfl, rfl⟩⟩, rfl⟩⟩⟩⟩)) ?_)
      intro u2 w hS
      have hC := hC.again ⟨_, _, hS⟩
      refine ⟨hC, ?_⟩
      refine ED.quick hN hF hC [18] [14] 0 [(14, sv (some ⟨u2, 0, none⟩) 4 b7)] (bm 19 524287) (by kernel_rfl) (by kernel_rfl) ?_
      refine ED.done (by kernel_rfl) ?_
      refine EQ.to ?_
      refine EQ.keep [14] [(14, sv (some ⟨u2, 0, none⟩) 4 b7)] (by kernel_rfl) ?_
      exact fun a ha => ⟨(some ⟨u2, 0, none⟩), 4, (some ⟨j5, 0, none⟩), 6, ha, (hS.re [1, 1] [] rfl (sub_self))⟩
    ·refine EO.Y (YO.loadEl hS (Kd.int .i64) ⟨j5, 0, none⟩ 6 b4 (Rd.own 0 3 rfl) 0 (encI .i64) encI_of (Int.tmod a0 6) c8 c9 3 1 0 1 rfl (ia (b4.getD (Int.tmod a0 6).toNat 0)) 40 (by kernel_rfl) (by kernel_rfl) (by kernel_rfl) (by kernel_rfl)) ?_
     have hC := hC.again ⟨_, _, hS⟩
     refine ⟨hC, ?_⟩
     refine ED.at' (bm 19 61371) (by kernel_rfl) ?_
     have hq := confidantseat_in.calls y6 hS
     refine ED.one 2 5 (bm 19 61375) (by kernel_rfl) (by kernel_rfl) (by kernel_rfl) (EO.callD 41 [ia 1, ia (IntKind.i64.wrap a0)] _ 31 (by kernel_rfl) (by kernel_rfl) (by kernel_rfl) hq ?_)
     rintro v w ⟨rfl, hS⟩
     have hC := hC.again ⟨_, _, hS⟩
     refine ⟨hC, ?_⟩
     have hq := confidantseat_in.calls n9 hS
     refine ED.one 6 4 (bm 19 61439) (by kernel_rfl) (by kernel_rfl) (by kernel_rfl) (EO.callD 41 [ia 1, ia (IntKind.i64.wrap (Int.tmod a1 3))] _ 35 (by kernel_rfl) (by kernel_rfl) (by kernel_rfl) hq ?_)
     rintro v w ⟨rfl, hS⟩
     have hC := hC.again ⟨_, _, hS⟩
     refine ⟨hC, ?_⟩
     have hq := confidantseat_in.calls o0 hS
     refine ED.one 12 3 (bm 19 65535) (by kernel_rfl) (by kernel_rfl) (by kernel_rfl) (EO.callD 41 [ia (b4.getD (Int.tmod a0 6).toNat 0), ia 0] _ 41 (by kernel_rfl) (by kernel_rfl) (by kernel_rfl) hq ?_)
     rintro v w ⟨rfl, hS⟩
     have hC := hC.again ⟨_, _, hS⟩
     refine ⟨hC, ?_⟩
     have hq := confidantseat_in.calls o1 hS
     refine ED.one 16 2 (bm 19 131071) (by kernel_rfl) (by kernel_rfl) (by kernel_rfl) (EO.callD 41 [ia 13, ia (IntKind.i64.wrap (Int.tmod a1 4))] _ 45 (by kernel_rfl) (by kernel_rfl) (by kernel_rfl) hq ?_)
     rintro v w ⟨rfl, hS⟩
     have hC := hC.again ⟨_, _, hS⟩
     refine ⟨hC, ?_⟩
     refine ED.one 17 1 (bm 19 262143) (by kernel_rfl) (by kernel_rfl) (by kernel_rfl) (EO.lit hS kS32 32 29 4 #[(0, ag [ia b5, ib b1]), (1, ag [ia b3, ib a8]), (2, ag [ia a9, ib a6]), (3, ag [ia a7, ib a5])] [ia b5, ib b1, ia b3, ib a8, ia a9, ib a6, ia a7, ib a5] b7 46 (by kernel_rfl) (by kernel_rfl) (by kernel_rfl) (fun _ => (by kernel_rfl)) (by rw [b8]; rfl) (by kernel_rfl) (fun w G hr => (by rw [b8]; exact ⟨[ia b5, ib b1], [ia b3, ib a8, ia a9, ib a6, ia a7, ib a5], rfl, ⟨[ia b5], [ib b1], rfl, rfl, ⟨[ib b1], [], rfl, rfl, rfl⟩⟩, ⟨[ia b3, ib a8], [ia a9, ib a6, ia a7, ib a5], rfl, ⟨[ia b3], [ib a8], rfl, rfl, ⟨[ib a8], [], rfl, rfl, rfl⟩⟩, ⟨[ia a9, ib a6], [ia a7, ib a5], rfl, ⟨[ia a9], [ib a6], rfl, rfl, ⟨[ib a6], [], rfl, rfl, rfl⟩⟩, ⟨[ia a7, ib a5], [], rfl, ⟨[ia a7], [ib a5], rfl, rfl, ⟨[ib a5], [], rfl, rfl, rfl⟩⟩, rfl⟩⟩⟩⟩)) ?_)
     intro u3 w hS
     have hC := hC.again ⟨_, _, hS⟩
     refine ⟨hC, ?_⟩
     refine ED.quick hN hF hC [18] [14] 0 [(14, sv (some ⟨u3, 0, none⟩) 4 b7)] (bm 19 524287) (by kernel_rfl) (by kernel_rfl) ?_
     refine ED.done (by kernel_rfl) ?_
     refine EQ.to ?_
     refine EQ.keep [14] [(14, sv (some ⟨u3, 0, none⟩) 4 b7)] (by kernel_rfl) ?_
     exact fun a ha => ⟨(some ⟨u3, 0, none⟩), 4, (some ⟨j5, 0, none⟩), 6, ha, (hS.re [1, 1] [] rfl (sub_self))⟩
  ·obtain ⟨p2, p3, y8, z0, ha, hS⟩ := hI
   refine EQ.at ?_ a ha
   clear ha a
   refine EQ.code ?_
   refine EW.ret (by kernel_rfl) ?_
   refine EQ.ret ?_
   refine EQ.ret ?_
   obtain rfl := Option.some.inj H
   exact EQ.leave (sv p2 p3 b7) (by kernel_rfl) ⟨_, rfl, p2, p3, rfl, (hS.re [0] [1] rfl (sub_self))⟩
 rw [if_neg x1] at H
 refine EW.sq (by kernel_rfl) ?_
 refine EW.rg (by kernel_rfl) ?_
 refine EL.quick 2 [1, 2, 5, 6, 15, 16, 26, 47] [(1, ig a0), (2, ig a1), (5, ia a3), (6, .bool (b0)), (15, ia (Int.tmod (IntKind.i64.wrap a0) a4)), (16, ia (Int.tmod (IntKind.i64.wrap a1) b6)), (26, ig (Int.tmod a2 16)), (47, .bool (decide ((Int.tmod a2 16) = 1)))] (by kernel_rfl) ?_
 refine EL.done (by kernel_rfl) ?_
 refine EQ.code ?_
 refine EW.cdP ((Int.tmod a2 16) = 1) (by kernel_rfl) (by kernel_rfl) (fun x2 => ?_) (fun x2 => ?_)
 ·rw [if_pos x2] at H
  refine EW.sq (by kernel_rfl) ?_
  refine EW.rg (by kernel_rfl) ?_
  refine EL.quick 1 [1, 2, 16, 49] [(1, ig a0), (2, ig a1), (16, ia (Int.tmod (IntKind.i64.wrap a1) b6)), (49, ia (Int.tmod (IntKind.i64.wrap a0) a4))] (by kernel_rfl) ?_
  obtain ⟨d0, c1, B0, H⟩ := b2_out H
  have hq := confidantseat_in.calls B0 hS
  refine EL.of (EO.callD 41 [ia 1, ia (Int.tmod (IntKind.i64.wrap a0) a4)] _ 50 (by kernel_rfl) (by kernel_rfl) (by kernel_rfl) hq ?_)
  rintro v w ⟨rfl, hS⟩
  refine EL.quick 3 [1, 16, 50, 53] [(1, ig a0), (16, ia (Int.tmod (IntKind.i64.wrap a1) b6)), (50, ag [ia d0, ib c1]), (53, ia (IntKind.i64.wrap (Int.tmod a1 4)))] (by kernel_rfl) ?_
  obtain ⟨d1, c2, B1, H⟩ := b2_out H
  have hq := confidantseat_in.calls B1 hS
  refine EL.of (EO.callD 41 [ia 12, ia (IntKind.i64.wrap (Int.tmod a1 4))] _ 54 (by kernel_rfl) (by kernel_rfl) (by kernel_rfl) hq ?_)
  rintro v w ⟨rfl, hS⟩
  refine EL.quick 1 [1, 50, 54, 55] [(1, ig a0), (50, ag [ia d0, ib c1]), (54, ag [ia d1, ib c2]), (55, ia (Int.tmod (IntKind.i64.wrap a1) b6))] (by kernel_rfl) ?_
  obtain ⟨d2, c3, B2, H⟩ := b2_out H
  have hq := confidantseat_in.calls B2 hS
  refine EL.of (EO.callD 41 [ia 20, ia (Int.tmod (IntKind.i64.wrap a1) b6)] _ 56 (by kernel_rfl) (by kernel_rfl) (by kernel_rfl) hq ?_)
  rintro v w ⟨rfl, hS⟩
  obtain ⟨c4, b9, B3, H⟩ := b2_out H
  have hq := confidantseat_in.calls B3 hS
  refine EL.of (EO.callD 41 [ia 21, ia 0] _ 57 (by kernel_rfl) (by kernel_rfl) (by kernel_rfl) hq ?_)
  rintro v w ⟨rfl, hS⟩
  refine EL.quick 3 [50, 54, 56, 57, 60] [(50, ag [ia d0, ib c1]), (54, ag [ia d1, ib c2]), (56, ag [ia d2, ib c3]), (57, ag [ia c4, ib b9]), (60, ia (IntKind.i64.wrap (Int.tmod a0 4)))] (by kernel_rfl) ?_
  obtain ⟨c5, c0, B4, H⟩ := b2_out H
  have hq := confidantseat_in.calls B4 hS
  refine EL.of (EO.callD 41 [ia 13, ia (IntKind.i64.wrap (Int.tmod a0 4))] _ 61 (by kernel_rfl) (by kernel_rfl) (by kernel_rfl) hq ?_)
  rintro v w ⟨rfl, hS⟩
  obtain ⟨p5, z1, H⟩ := lt_out H
  refine EL.of (EO.lit hS kS32 32 29 5 #[(0, ag [ia d0, ib c1]), (1, ag [ia d1, ib c2]), (2, ag [ia d2, ib c3]), (3, ag [ia c4, ib b9]), (4, ag [ia c5, ib c0])] [ia d0, ib c1, ia d1, ib c2, ia d2, ib c3, ia c4, ib b9, ia c5, ib c0] p5 62 (by kernel_rfl) (by kernel_rfl) (by kernel_rfl) (fun _ => (by kernel_rfl)) (by rw [z1]; rfl) (by kernel_rfl) (fun w G hr => (by rw [z1]; exact ⟨[ia d0, ib c1], [ia d1, ib c2, ia d2, ib c3, ia c4, ib b9, ia c5, ib c0], rfl, ⟨[ia d0], [ib c1], rfl, rfl, ⟨[ib c1], [], rfl, rfl, rfl⟩⟩, ⟨[ia d1, ib c2], [ia d2, ib c3, ia c4, ib b9, ia c5, ib c0], rfl, ⟨[ia d1], [ib c2], rfl, rfl, ⟨[ib c2], [], rfl, rfl, rfl⟩⟩, ⟨[ia d2, ib c3], [ia c4, ib b9, ia c5, ib c0], rfl, ⟨[ia d2], [ib c3], rfl, rfl, ⟨[ib c3], [], rfl, rfl, rfl⟩⟩, ⟨[ia c4, ib b9], [ia c5, ib c0], rfl, ⟨[ia c4], [ib b9], rfl, rfl, ⟨[ib b9], [], rfl, rfl, rfl⟩⟩, ⟨[ia c5, ib c0], [], rfl, ⟨[ia c5], [ib c0], rfl, rfl, ⟨[ib c0], [], rfl, rfl, rfl⟩⟩, rfl⟩⟩⟩⟩⟩)) ?_)
  intro u4 w hS
  refine EL.quick 1 [14] [(14, sv (some ⟨u4, 0, none⟩) 5 p5)] (by kernel_rfl) ?_
  refine EL.done (by kernel_rfl) ?_
  refine EQ.code ?_
  refine EW.ret (by kernel_rfl) ?_
  refine EQ.ret ?_
  refine EQ.ret ?_
  obtain rfl := Option.some.inj H
  exact EQ.leave (sv (some ⟨u4, 0, none⟩) 5 p5) (by kernel_rfl) ⟨_, rfl, (some ⟨u4, 0, none⟩), 5, rfl, (hS.re [0] [] rfl (sub_self))⟩
 rw [if_neg x2] at H
 refine EW.sq (by kernel_rfl) ?_
 refine EW.rg (by kernel_rfl) ?_
 refine EL.quick 2 [1, 2, 5, 6, 15, 16, 26, 63] [(1, ig a0), (2, ig a1), (5, ia a3), (6, .bool (b0)), (15, ia (Int.tmod (IntKind.i64.wrap a0) a4)), (16, ia (Int.tmod (IntKind.i64.wrap a1) b6)), (26, ig (Int.tmod a2 16)), (63, .bool (decide ((Int.tmod a2 16) = 2)))] (by kernel_rfl) ?_
 refine EL.done (by kernel_rfl) ?_
 refine EQ.code ?_
 refine EW.cdP ((Int.tmod a2 16) = 2) (by kernel_rfl) (by kernel_rfl) (fun x3 => ?_) (fun x3 => ?_)
 ·rw [if_pos x3] at H
  refine EW.sq (by kernel_rfl) ?_
  refine EW.rg (by kernel_rfl) ?_
  refine EL.quick 1 [2, 16, 65] [(2, ig a1), (16, ia (Int.tmod (IntKind.i64.wrap a1) b6)), (65, ia (Int.tmod (IntKind.i64.wrap a0) a4))] (by kernel_rfl) ?_
  obtain ⟨f2, d3, B5, H⟩ := b2_out H
  have hq := confidantseat_in.calls B5 hS
  refine EL.of (EO.callD 41 [ia 1, ia (Int.tmod (IntKind.i64.wrap a0) a4)] _ 66 (by kernel_rfl) (by kernel_rfl) (by kernel_rfl) hq ?_)
  rintro v w ⟨rfl, hS⟩
  refine EL.quick 2 [16, 66, 68] [(16, ia (Int.tmod (IntKind.i64.wrap a1) b6)), (66, ag [ia f2, ib d3]), (68, ia (IntKind.i64.wrap a1))] (by kernel_rfl) ?_
  obtain ⟨f3, d4, B6, H⟩ := b2_out H
  have hq := confidantseat_in.calls B6 hS
  refine EL.of (EO.callD 41 [ia 1, ia (IntKind.i64.wrap a1)] _ 69 (by kernel_rfl) (by kernel_rfl) (by kernel_rfl) hq ?_)
  rintro v w ⟨rfl, hS⟩
  refine EL.quick 1 [66, 69, 70] [(66, ag [ia f2, ib d3]), (69, ag [ia f3, ib d4]), (70, ia (Int.tmod (IntKind.i64.wrap a1) b6))] (by kernel_rfl) ?_
  obtain ⟨f4, d5, B7, H⟩ := b2_out H
  have hq := confidantseat_in.calls B7 hS
  refine EL.of (EO.callD 41 [ia 20, ia (Int.tmod (IntKind.i64.wrap a1) b6)] _ 71 (by kernel_rfl) (by kernel_rfl) (by kernel_rfl) hq ?_)
  rintro v w ⟨rfl, hS⟩
  obtain ⟨d6, c6, B8, H⟩ := b2_out H
  have hq := confidantseat_in.calls B8 hS
  refine EL.of (EO.callD 41 [ia 13, ia 3] _ 72 (by kernel_rfl) (by kernel_rfl) (by kernel_rfl) hq ?_)
  rintro v w ⟨rfl, hS⟩
  obtain ⟨p6, z2, H⟩ := lt_out H
  refine EL.of (EO.lit hS kS32 32 29 4 #[(0, ag [ia f2, ib d3]), (1, ag [ia f3, ib d4]), (2, ag [ia f4, ib d5]), (3, ag [ia d6, ib c6])] [ia f2, ib d3, ia f3, ib d4, ia f4, ib d5, ia d6, ib c6] p6 73 (by kernel_rfl) (by kernel_rfl) (by kernel_rfl) (fun _ => (by kernel_rfl)) (by rw [z2]; rfl) (by kernel_rfl) (fun w G hr => (by rw [z2]; exact ⟨[ia f2, ib d3], [ia f3, ib d4, ia f4, ib d5, ia d6, ib c6], rfl, ⟨[ia f2], [ib d3], rfl, rfl, ⟨[ib d3], [], rfl, rfl, rfl⟩⟩, ⟨[ia f3, ib d4], [ia f4, ib d5, ia d6, ib c6], rfl, ⟨[ia f3], [ib d4], rfl, rfl, ⟨[ib d4], [], rfl, rfl, rfl⟩⟩, ⟨[ia f4, ib d5], [ia d6, ib c6], rfl, ⟨[ia f4], [ib d5], rfl, rfl, ⟨[ib d5], [], rfl, rfl, rfl⟩⟩, ⟨[ia d6, ib c6], [], rfl, ⟨[ia d6], [ib c6], rfl, rfl, ⟨[ib c6], [], rfl, rfl, rfl⟩⟩, rfl⟩⟩⟩⟩)) ?_)
  intro u5 w hS
  refine EL.quick 1 [14] [(14, sv (some ⟨u5, 0, none⟩) 4 p6)] (by kernel_rfl) ?_
  refine EL.done (by kernel_rfl) ?_
  refine EQ.code ?_
  refine EW.ret (by kernel_rfl) ?_
  refine EQ.ret ?_
  refine EQ.ret ?_
  obtain rfl := Option.some.inj H
  exact EQ.leave (sv (some ⟨u5, 0, none⟩) 4 p6) (by kernel_rfl) ⟨_, rfl, (some ⟨u5, 0, none⟩), 4, rfl, (hS.re [0] [] rfl (sub_self))⟩
 rw [if_neg x3] at H
 refine EW.sq (by kernel_rfl) ?_
 refine EW.rg (by kernel_rfl) ?_
 refine EL.quick 2 [1, 2, 5, 6, 15, 26, 74] [(1, ig a0), (2, ig a1), (5, ia a3), (6, .bool (b0)), (15, ia (Int.tmod (IntKind.i64.wrap a0) a4)), (26, ig (Int.tmod a2 16)), (74, .bool (decide ((Int.tmod a2 16) = 3)))] (by kernel_rfl) ?_
 refine EL.done (by kernel_rfl) ?_
 refine EQ.code ?_
 refine EW.cdP ((Int.tmod a2 16) = 3) (by kernel_rfl) (by kernel_rfl) (fun x4 => ?_) (fun x4 => ?_)
 ·rw [if_pos x4] at H
  refine EW.sq (by kernel_rfl) ?_
  refine EW.rg (by kernel_rfl) ?_
  obtain ⟨j6, f5, B9, H⟩ := b2_out H
  have hq := confidantseat_in.calls B9 hS
  refine EL.of (EO.callD 41 [ia 12, ia 3] _ 76 (by kernel_rfl) (by kernel_rfl) (by kernel_rfl) hq ?_)
  rintro v w ⟨rfl, hS⟩
  obtain ⟨f6, d7, C0, H⟩ := b2_out H
  have hq := confidantseat_in.calls C0 hS
  refine EL.of (EO.callD 41 [ia 21, ia 0] _ 77 (by kernel_rfl) (by kernel_rfl) (by kernel_rfl) hq ?_)
  rintro v w ⟨rfl, hS⟩
  refine EL.quick 3 [76, 77, 80] [(76, ag [ia j6, ib f5]), (77, ag [ia f6, ib d7]), (80, ia (IntKind.i64.wrap (Int.tmod a0 4)))] (by kernel_rfl) ?_
  obtain ⟨f7, d8, C1, H⟩ := b2_out H
  have hq := confidantseat_in.calls C1 hS
  refine EL.of (EO.callD 41 [ia 13, ia (IntKind.i64.wrap (Int.tmod a0 4))] _ 81 (by kernel_rfl) (by kernel_rfl) (by kernel_rfl) hq ?_)
  rintro v w ⟨rfl, hS⟩
  obtain ⟨p7, z3, H⟩ := lt_out H
  refine EL.of (EO.lit hS kS32 32 29 3 #[(0, ag [ia j6, ib f5]), (1, ag [ia f6, ib d7]), (2, ag [ia f7, ib d8])] [ia j6, ib f5, ia f6, ib d7, ia f7, ib d8] p7 82 (by kernel_rfl) (by kernel_rfl) (by kernel_rfl) (fun _ => (by kernel_rfl)) (by rw [z3]; rfl) (by kernel_rfl) (fun w G hr => (by rw [z3]; exact ⟨[ia j6, ib f5], [ia f6, ib d7, ia f7, ib d8], rfl, ⟨[ia j6], [ib f5], rfl, rfl, ⟨[ib f5], [], rfl, rfl, rfl⟩⟩, ⟨[ia f6, ib d7], [ia f7, ib d8], rfl, ⟨[ia f6], [ib d7], rfl, rfl, ⟨[ib d7], [], rfl, rfl, rfl⟩⟩, ⟨[ia f7, ib d8], [], rfl, ⟨[ia f7], [ib d8], rfl, rfl, ⟨[ib d8], [], rfl, rfl, rfl⟩⟩, rfl⟩⟩⟩)) ?_)
  intro u6 w hS
  refine EL.quick 1 [14] [(14, sv (some ⟨u6, 0, none⟩) 3 p7)] (by kernel_rfl) ?_
  refine EL.done (by kernel_rfl) ?_
  refine EQ.code ?_
  refine EW.ret (by kernel_rfl) ?_
  refine EQ.ret ?_
  refine EQ.ret ?_
  obtain rfl := Option.some.inj H
  exact EQ.leave (sv (some ⟨u6, 0, none⟩) 3 p7) (by kernel_rfl) ⟨_, rfl, (some ⟨u6, 0, none⟩), 3, rfl, (hS.re [0] [] rfl (sub_self))⟩
 rw [if_neg x4] at H
 refine EW.sq (by kernel_rfl) ?_
 refine EW.rg (by kernel_rfl) ?_
 refine EL.quick 2 [1, 2, 5, 6, 15, 26, 83] [(1, ig a0), (2, ig a1), (5, ia a3), (6, .bool (b0)), (15, ia (Int.tmod (IntKind.i64.wrap a0) a4)), (26, ig (Int.tmod a2 16)), (83, .bool (decide ((Int.tmod a2 16) = 4)))] (by kernel_rfl) ?_
 refine EL.done (by kernel_rfl) ?_
 refine EQ.code ?_
 refine EW.cdP ((Int.tmod a2 16) = 4) (by kernel_rfl) (by kernel_rfl) (fun x5 => ?_) (fun x5 => ?_)
 ·rw [if_pos x5] at H
  refine EW.sq (by kernel_rfl) ?_
  refine EW.rg (by kernel_rfl) ?_
  refine EL.quick 3 [1, 15, 87] [(1, ig a0), (15, ia (Int.tmod (IntKind.i64.wrap a0) a4)), (87, ia (IntKind.i64.wrap (Int.tmod a1 4)))] (by kernel_rfl) ?_
  obtain ⟨f8, d9, C2, H⟩ := b2_out H
  have hq := confidantseat_in.calls C2 hS
  refine EL.of (EO.callD 41 [ia 1, ia (IntKind.i64.wrap (Int.tmod a1 4))] _ 88 (by kernel_rfl) (by kernel_rfl) (by kernel_rfl) hq ?_)
  rintro v w ⟨rfl, hS⟩
  refine EL.quick 1 [1, 88, 89] [(1, ig a0), (88, ag [ia f8, ib d9]), (89, ia (Int.tmod (IntKind.i64.wrap a0) a4))] (by kernel_rfl) ?_
  obtain ⟨f9, e0, C3, H⟩ := b2_out H
  have hq := confidantseat_in.calls C3 hS
  refine EL.of (EO.callD 41 [ia 16, ia (Int.tmod (IntKind.i64.wrap a0) a4)] _ 90 (by kernel_rfl) (by kernel_rfl) (by kernel_rfl) hq ?_)
  rintro v w ⟨rfl, hS⟩
  refine EL.quick 3 [88, 90, 93] [(88, ag [ia f8, ib d9]), (90, ag [ia f9, ib e0]), (93, ia (IntKind.i64.wrap (Int.tmod a0 3)))] (by kernel_rfl) ?_
  obtain ⟨g0, e1, C4, H⟩ := b2_out H
  have hq := confidantseat_in.calls C4 hS
  refine EL.of (EO.callD 41 [ia 13, ia (IntKind.i64.wrap (Int.tmod a0 3))] _ 94 (by kernel_rfl) (by kernel_rfl) (by kernel_rfl) hq ?_)
  rintro v w ⟨rfl, hS⟩
  obtain ⟨p8, z4, H⟩ := lt_out H
  refine EL.of (EO.lit hS kS32 32 29 3 #[(0, ag [ia f8, ib d9]), (1, ag [ia f9, ib e0]), (2, ag [ia g0, ib e1])] [ia f8, ib d9, ia f9, ib e0, ia g0, ib e1] p8 95 (by kernel_rfl) (by kernel_rfl) (by kernel_rfl) (fun _ => (by kernel_rfl)) (by rw [z4]; rfl) (by kernel_rfl) (fun w G hr => (by rw [z4]; exact ⟨[ia f8, ib d9], [ia f9, ib e0, ia g0, ib e1], rfl, ⟨[ia f8], [ib d9], rfl, rfl, ⟨[ib d9], [], rfl, rfl, rfl⟩⟩, ⟨[ia f9, ib e0], [ia g0, ib e1], rfl, ⟨[ia f9], [ib e0], rfl, rfl, ⟨[ib e0], [], rfl, rfl, rfl⟩⟩, ⟨[ia g0, ib e1], [], rfl, ⟨[ia g0], [ib e1], rfl, rfl, ⟨[ib e1], [], rfl, rfl, rfl⟩⟩, rfl⟩⟩⟩)) ?_)
  intro u7 w hS
  refine EL.quick 1 [14] [(14, sv (some ⟨u7, 0, none⟩) 3 p8)] (by kernel_rfl) ?_
  refine EL.done (by kernel_rfl) ?_
  refine EQ.code ?_
  refine EW.ret (by kernel_rfl) ?_
  refine EQ.ret ?_
  refine EQ.ret ?_
  obtain rfl := Option.some.inj H
  exact EQ.leave (sv (some ⟨u7, 0, none⟩) 3 p8) (by kernel_rfl) ⟨_, rfl, (some ⟨u7, 0, none⟩), 3, rfl, (hS.re [0] [] rfl (sub_self))⟩
 rw [if_neg x5] at H
 refine EW.sq (by kernel_rfl) ?_
 refine EW.rg (by kernel_rfl) ?_
 refine EL.quick 2 [1, 2, 5, 6, 15, 26, 96] [(1, ig a0), (2, ig a1), (5, ia a3), (6, .bool (b0)), (15, ia (Int.tmod (IntKind.i64.wrap a0) a4)), (26, ig (Int.tmod a2 16)), (96, .bool (decide ((Int.tmod a2 16) = 5)))] (by kernel_rfl) ?_
 refine EL.done (by kernel_rfl) ?_
 refine EQ.code ?_
 refine EW.cdP ((Int.tmod a2 16) = 5) (by kernel_rfl) (by kernel_rfl) (fun x6 => ?_) (fun x6 => ?_)
 ·rw [if_pos x6] at H
  refine EW.sq (by kernel_rfl) ?_
  refine EW.rg (by kernel_rfl) ?_
  refine EL.quick 3 [15, 100] [(15, ia (Int.tmod (IntKind.i64.wrap a0) a4)), (100, ia (IntKind.i64.wrap (Int.tmod a0 4)))] (by kernel_rfl) ?_
  obtain ⟨j7, g1, C5, H⟩ := b2_out H
  have hq := confidantseat_in.calls C5 hS
  refine EL.of (EO.callD 41 [ia 12, ia (IntKind.i64.wrap (Int.tmod a0 4))] _ 101 (by kernel_rfl) (by kernel_rfl) (by kernel_rfl) hq ?_)
  rintro v w ⟨rfl, hS⟩
  refine EL.quick 1 [101, 102] [(101, ag [ia j7, ib g1]), (102, ia (Int.tmod (IntKind.i64.wrap a0) a4))] (by kernel_rfl) ?_
  obtain ⟨j8, g2, C6, H⟩ := b2_out H
  have hq := confidantseat_in.calls C6 hS
  refine EL.of (EO.callD 41 [ia 17, ia (Int.tmod (IntKind.i64.wrap a0) a4)] _ 103 (by kernel_rfl) (by kernel_rfl) (by kernel_rfl) hq ?_)
  rintro v w ⟨rfl, hS⟩
  obtain ⟨g3, e2, C7, H⟩ := b2_out H
  have hq := confidantseat_in.calls C7 hS
  refine EL.of (EO.callD 41 [ia 13, ia 2] _ 104 (by kernel_rfl) (by kernel_rfl) (by kernel_rfl) hq ?_)
  rintro v w ⟨rfl, hS⟩
  obtain ⟨p9, z5, H⟩ := lt_out H
  refine EL.of (EO.lit hS kS32 32 29 3 #[(0, ag [ia j7, ib g1]), (1, ag [ia j8, ib g2]), (2, ag [ia g3, ib e2])] [ia j7, ib g1, ia j8, ib g2, ia g3, ib e2] p9 105 (by kernel_rfl) (by kernel_rfl) (by kernel_rfl) (fun _ => (by kernel_rfl)) (by rw [z5]; rfl) (by kernel_rfl) (fun w G hr => (by rw [z5]; exact ⟨[ia j7, ib g1], [ia j8, ib g2, ia g3, ib e2], rfl, ⟨[ia j7], [ib g1], rfl, rfl, ⟨[ib g1], [], rfl, rfl, rfl⟩⟩, ⟨[ia j8, ib g2], [ia g3, ib e2], rfl, ⟨[ia j8], [ib g2], rfl, rfl, ⟨[ib g2], [], rfl, rfl, rfl⟩⟩, ⟨[ia g3, ib e2], [], rfl, ⟨[ia g3], [ib e2], rfl, rfl, ⟨[ib e2], [], rfl, rfl, rfl⟩⟩, rfl⟩⟩⟩)) ?_)
  intro u9 w hS
  refine EL.quick 1 [14] [(14, sv (some ⟨u9, 0, none⟩) 3 p9)] (by kernel_rfl) ?_
  refine EL.done (by kernel_rfl) ?_
  refine EQ.code ?_
  refine EW.ret (by kernel_rfl) ?_
  refine EQ.ret ?_
  refine EQ.ret ?_
  obtain rfl := Option.some.inj H
  exact EQ.leave (sv (some ⟨u9, 0, none⟩) 3 p9) (by kernel_rfl) ⟨_, rfl, (some ⟨u9, 0, none⟩), 3, rfl, (hS.re [0] [] rfl (sub_self))⟩
 rw [if_neg x6] at H
 refine EW.sq (by kernel_rfl) ?_
 refine EW.rg (by kernel_rfl) ?_
 refine EL.quick 2 [1, 2, 5, 6, 15, 26, 106] [(1, ig a0), (2, ig a1), (5, ia a3), (6, .bool (b0)), (15, ia (Int.tmod (IntKind.i64.wrap a0) a4)), (26, ig (Int.tmod a2 16)), (106, .bool (decide ((Int.tmod a2 16) = 6)))] (by kernel_rfl) ?_
 refine EL.done (by kernel_rfl) ?_
 refine EQ.code ?_
 refine EW.cdP ((Int.tmod a2 16) = 6) (by kernel_rfl) (by kernel_rfl) (fun x7 => ?_) (fun x7 => ?_)
 ·rw [if_pos x7] at H
  refine EW.sq (by kernel_rfl) ?_
  refine EW.rg (by kernel_rfl) ?_
  obtain ⟨j9, g4, C8, H⟩ := b2_out H
  have hq := confidantseat_in.calls C8 hS
  refine EL.of (EO.callD 41 [ia 12, ia 2] _ 108 (by kernel_rfl) (by kernel_rfl) (by kernel_rfl) hq ?_)
  rintro v w ⟨rfl, hS⟩
  obtain ⟨g5, e3, C9, H⟩ := b2_out H
  have hq := confidantseat_in.calls C9 hS
  refine EL.of (EO.callD 41 [ia 18, ia 0] _ 109 (by kernel_rfl) (by kernel_rfl) (by kernel_rfl) hq ?_)
  rintro v w ⟨rfl, hS⟩
  refine EL.quick 3 [108, 109, 112] [(108, ag [ia j9, ib g4]), (109, ag [ia g5, ib e3]), (112, ia (IntKind.i64.wrap (Int.tmod a1 4)))] (by kernel_rfl) ?_
  obtain ⟨g6, e4, D0, H⟩ := b2_out H
  have hq := confidantseat_in.calls D0 hS
  refine EL.of (EO.callD 41 [ia 13, ia (IntKind.i64.wrap (Int.tmod a1 4))] _ 113 (by kernel_rfl) (by kernel_rfl) (by kernel_rfl) hq ?_)
  rintro v w ⟨rfl, hS⟩
  obtain ⟨q0, z6, H⟩ := lt_out H
  refine EL.of (EO.lit hS kS32 32 29 3 #[(0, ag [ia j9, ib g4]), (1, ag [ia g5, ib e3]), (2, ag [ia g6, ib e4])] [ia j9, ib g4, ia g5, ib e3, ia g6, ib e4] q0 114 (by kernel_rfl) (by kernel_rfl) (by kernel_rfl) (fun _ => (by kernel_rfl)) (by rw [z6]; rfl) (by kernel_rfl) (fun w G hr => (by rw [z6]; exact ⟨[ia j9, ib g4], [ia g5, ib e3, ia g6, ib e4], rfl, ⟨[ia j9], [ib g4], rfl, rfl, ⟨[ib g4], [], rfl, rfl, rfl⟩⟩, ⟨[ia g5, ib e3], [ia g6, ib e4], rfl, ⟨[ia g5], [ib e3], rfl, rfl, ⟨[ib e3], [], rfl, rfl, rfl⟩⟩, ⟨[ia g6, ib e4], [], rfl, ⟨[ia g6], [ib e4], rfl, rfl, ⟨[ib e4], [], rfl, rfl, rfl⟩⟩, rfl⟩⟩⟩)) ?_)
  intro v0 w hS
  refine EL.quick 1 [14] [(14, sv (some ⟨v0, 0, none⟩) 3 q0)] (by kernel_rfl) ?_
  refine EL.done (by kernel_rfl) ?_
  refine EQ.code ?_
  refine EW.ret (by kernel_rfl) ?_
  refine EQ.ret ?_
  refine EQ.ret ?_
  obtain rfl := Option.some.inj H
  exact EQ.leave (sv (some ⟨v0, 0, none⟩) 3 q0) (by kernel_rfl) ⟨_, rfl, (some ⟨v0, 0, none⟩), 3, rfl, (hS.re [0] [] rfl (sub_self))⟩
 rw [if_neg x7] at H
 refine EW.sq (by kernel_rfl) ?_
 refine EW.rg (by kernel_rfl) ?_
 refine EL.quick 2 [1, 2, 5, 6, 15, 26, 115] [(1, ig a0), (2, ig a1), (5, ia a3), (6, .bool (b0)), (15, ia (Int.tmod (IntKind.i64.wrap a0) a4)), (26, ig (Int.tmod a2 16)), (115, .bool (decide ((Int.tmod a2 16) = 7)))] (by kernel_rfl) ?_
 refine EL.done (by kernel_rfl) ?_
 refine EQ.code ?_
 refine EW.cdP ((Int.tmod a2 16) = 7) (by kernel_rfl) (by kernel_rfl) (fun x8 => ?_) (fun x8 => ?_)
 ·rw [if_pos x8] at H
  refine EW.sq (by kernel_rfl) ?_
  refine EW.rg (by kernel_rfl) ?_
  obtain ⟨m0, g7, D1, H⟩ := b2_out H
  have hq := confidantseat_in.calls D1 hS
  refine EL.of (EO.callD 41 [ia 12, ia 2] _ 117 (by kernel_rfl) (by kernel_rfl) (by kernel_rfl) hq ?_)
  rintro v w ⟨rfl, hS⟩
  refine EL.quick 3 [117, 120] [(117, ag [ia m0, ib g7]), (120, ia (IntKind.i64.wrap (Int.tmod a1 4)))] (by kernel_rfl) ?_
  obtain ⟨m1, g8, D2, H⟩ := b2_out H
  have hq := confidantseat_in.calls D2 hS
  refine EL.of (EO.callD 41 [ia 12, ia (IntKind.i64.wrap (Int.tmod a1 4))] _ 121 (by kernel_rfl) (by kernel_rfl) (by kernel_rfl) hq ?_)
  rintro v w ⟨rfl, hS⟩
  obtain ⟨g9, e5, D3, H⟩ := b2_out H
  have hq := confidantseat_in.calls D3 hS
  refine EL.of (EO.callD 41 [ia 19, ia 0] _ 122 (by kernel_rfl) (by kernel_rfl) (by kernel_rfl) hq ?_)
  rintro v w ⟨rfl, hS⟩
  obtain ⟨q1, z7, H⟩ := lt_out H
  refine EL.of (EO.lit hS kS32 32 29 3 #[(0, ag [ia m0, ib g7]), (1, ag [ia m1, ib g8]), (2, ag [ia g9, ib e5])] [ia m0, ib g7, ia m1, ib g8, ia g9, ib e5] q1 123 (by kernel_rfl) (by kernel_rfl) (by kernel_rfl) (fun _ => (by kernel_rfl)) (by rw [z7]; rfl) (by kernel_rfl) (fun w G hr => (by rw [z7]; exact ⟨[ia m0, ib g7], [ia m1, ib g8, ia g9, ib e5], rfl, ⟨[ia m0], [ib g7], rfl, rfl, ⟨[ib g7], [], rfl, rfl, rfl⟩⟩, ⟨[ia m1, ib g8], [ia g9, ib e5], rfl, ⟨[ia m1], [ib g8], rfl, rfl, ⟨[ib g8], [], rfl, rfl, rfl⟩⟩, ⟨[ia g9, ib e5], [], rfl, ⟨[ia g9], [ib e5], rfl, rfl, ⟨[ib e5], [], rfl, rfl, rfl⟩⟩, rfl⟩⟩⟩)) ?_)
  intro v1 w hS
  refine EL.quick 1 [14] [(14, sv (some ⟨v1, 0, none⟩) 3 q1)] (by kernel_rfl) ?_
  refine EL.done (by kernel_rfl) ?_
  refine EQ.code ?_
  refine EW.ret (by kernel_rfl) ?_
  refine EQ.ret ?_
  refine EQ.ret ?_
  obtain rfl := Option.some.inj H
  exact EQ.leave (sv (some ⟨v1, 0, none⟩) 3 q1) (by kernel_rfl) ⟨_, rfl, (some ⟨v1, 0, none⟩), 3, rfl, (hS.re [0] [] rfl (sub_self))⟩
 rw [if_neg x8] at H
 obtain ⟨t5, F7, H⟩ := lt_out H
 refine EW.ct (fun a w => ∃ p0 : Bool, Sat 214 [(1, ig a0), (2, ig a1), (5, ia a3), (6, .bool (b0)), (15, ia (Int.tmod (IntKind.i64.wrap a0) a4)), (26, ig (Int.tmod a2 16)), (124, .bool (p0))] a ∧ St B w (os) (rs) ∧ t5 p0 = some t1) (by kernel_rfl) ?_ (fun a w hI => ?_)
 ·refine EW.sq (by kernel_rfl) ?_
  refine EW.rg (by kernel_rfl) ?_
  refine EL.quick 2 [1, 2, 5, 6, 15, 26, 124] [(1, ig a0), (2, ig a1), (5, ia a3), (6, .bool (b0)), (15, ia (Int.tmod (IntKind.i64.wrap a0) a4)), (26, ig (Int.tmod a2 16)), (124, .bool (decide ((Int.tmod a2 16) = 8)))] (by kernel_rfl) ?_
  refine EL.done (by kernel_rfl) ?_
  refine EQ.code ?_
  refine EW.cdP ((Int.tmod a2 16) = 8) (by kernel_rfl) (by kernel_rfl) (fun t2 => ?_) (fun t2 => ?_)
  ·rw [if_pos t2] at H
   refine EW.keep [1, 2, 5, 6, 15, 26, 124] [(1, ig a0), (2, ig a1), (5, ia a3), (6, .bool (b0)), (15, ia (Int.tmod (IntKind.i64.wrap a0) a4)), (26, ig (Int.tmod a2 16)), (124, .bool (decide ((Int.tmod a2 16) = 8)))] (by kernel_rfl) ?_
   refine EW.as' [(1, ig a0), (2, ig a1), (5, ia a3), (6, .bool (b0)), (15, ia (Int.tmod (IntKind.i64.wrap a0) a4)), (26, ig (Int.tmod a2 16)), (124, .bool (true))] (by simp only [sv, dec_t t2, Bool.not_true, Bool.not_false]) ?_
   refine EW.skip (by kernel_rfl) ?_
   refine EQ.to ?_
   refine EQ.keep [1, 2, 5, 6, 15, 26, 124] [(1, ig a0), (2, ig a1), (5, ia a3), (6, .bool (b0)), (15, ia (Int.tmod (IntKind.i64.wrap a0) a4)), (26, ig (Int.tmod a2 16)), (124, .bool (true))] (by kernel_rfl) ?_
   exact fun a ha => ⟨true, ha, (hS.re [] [] rfl (sub_self)), H⟩
  rw [if_neg t2] at H
  refine EW.rg (by kernel_rfl) ?_
  refine EL.quick 2 [1, 2, 5, 6, 15, 26, 124] [(1, ig a0), (2, ig a1), (5, ia a3), (6, .bool (b0)), (15, ia (Int.tmod (IntKind.i64.wrap a0) a4)), (26, ig (Int.tmod a2 16)), (124, .bool (decide ((Int.tmod a2 16) = 9)))] (by kernel_rfl) ?_
  refine EL.done (by kernel_rfl) ?_
  refine EQ.to ?_
  refine EQ.keep [1, 2, 5, 6, 15, 26, 124] [(1, ig a0), (2, ig a1), (5, ia a3), (6, .bool (b0)), (15, ia (Int.tmod (IntKind.i64.wrap a0) a4)), (26, ig (Int.tmod a2 16)), (124, .bool (decide ((Int.tmod a2 16) = 9)))] (by kernel_rfl) ?_
  exact fun a ha => ⟨decide ((Int.tmod a2 16) = 9), ha, (hS.re [] [] rfl (sub_self)), H⟩
 obtain ⟨p0, ha, hS, H⟩ := hI
 rw [F7] at H
 (try dsimp only at H)
 refine EW.at ?_ a ha
 clear ha a
 refine EW.cdP' (p0) (by kernel_rfl) (by kernel_rfl) (fun x9 => ?_) (fun x9 => ?_)
 ·rw [if_pos x9] at H
  refine EW.sq (by kernel_rfl) ?_
  refine EW.rg (by kernel_rfl) ?_
  refine EL.quick 3 [15, 129] [(15, ia (Int.tmod (IntKind.i64.wrap a0) a4)), (129, ia (IntKind.i64.wrap (Int.tmod a1 4)))] (by kernel_rfl) ?_
  obtain ⟨m2, i0, D4, H⟩ := b2_out H
  have hq := confidantseat_in.calls D4 hS
  refine EL.of (EO.callD 41 [ia 12, ia (IntKind.i64.wrap (Int.tmod a1 4))] _ 130 (by kernel_rfl) (by kernel_rfl) (by kernel_rfl) hq ?_)
  rintro v w ⟨rfl, hS⟩
  refine EL.quick 1 [130, 131] [(130, ag [ia m2, ib i0]), (131, ia (Int.tmod (IntKind.i64.wrap a0) a4))] (by kernel_rfl) ?_
  obtain ⟨m3, i1, D5, H⟩ := b2_out H
  have hq := confidantseat_in.calls D5 hS
  refine EL.of (EO.callD 41 [ia 22, ia (Int.tmod (IntKind.i64.wrap a0) a4)] _ 132 (by kernel_rfl) (by kernel_rfl) (by kernel_rfl) hq ?_)
  rintro v w ⟨rfl, hS⟩
  obtain ⟨q2, z8, H⟩ := lt_out H
  refine EL.of (EO.lit hS kS32 32 29 2 #[(0, ag [ia m2, ib i0]), (1, ag [ia m3, ib i1])] [ia m2, ib i0, ia m3, ib i1] q2 133 (by kernel_rfl) (by kernel_rfl) (by kernel_rfl) (fun _ => (by kernel_rfl)) (by rw [z8]; rfl) (by kernel_rfl) (fun w G hr => (by rw [z8]; exact ⟨[ia m2, ib i0], [ia m3, ib i1], rfl, ⟨[ia m2], [ib i0], rfl, rfl, ⟨[ib i0], [], rfl, rfl, rfl⟩⟩, ⟨[ia m3, ib i1], [], rfl, ⟨[ia m3], [ib i1], rfl, rfl, ⟨[ib i1], [], rfl, rfl, rfl⟩⟩, rfl⟩⟩)) ?_)
  intro v2 w hS
  refine EL.quick 1 [14] [(14, sv (some ⟨v2, 0, none⟩) 2 q2)] (by kernel_rfl) ?_
  refine EL.done (by kernel_rfl) ?_
  refine EQ.code ?_
  refine EW.ret (by kernel_rfl) ?_
  refine EQ.ret ?_
  refine EQ.ret ?_
  obtain rfl := Option.some.inj H
  exact EQ.leave (sv (some ⟨v2, 0, none⟩) 2 q2) (by kernel_rfl) ⟨_, rfl, (some ⟨v2, 0, none⟩), 2, rfl, (hS.re [0] [] rfl (sub_self))⟩
 rw [if_neg x9] at H
 refine EW.sq (by kernel_rfl) ?_
 refine EW.rg (by kernel_rfl) ?_
 refine EL.quick 2 [1, 2, 5, 6, 15, 26, 134] [(1, ig a0), (2, ig a1), (5, ia a3), (6, .bool (b0)), (15, ia (Int.tmod (IntKind.i64.wrap a0) a4)), (26, ig (Int.tmod a2 16)), (134, .bool (decide ((Int.tmod a2 16) = 10)))] (by kernel_rfl) ?_
 refine EL.done (by kernel_rfl) ?_
 refine EQ.code ?_
 refine EW.cdP ((Int.tmod a2 16) = 10) (by kernel_rfl) (by kernel_rfl) (fun y0 => ?_) (fun y0 => ?_)
 ·rw [if_pos y0] at H
  refine EW.sq (by kernel_rfl) ?_
  refine EW.rg (by kernel_rfl) ?_
  refine EL.quick 1 [136] [(136, ia (Int.tmod (IntKind.i64.wrap a0) a4))] (by kernel_rfl) ?_
  obtain ⟨o3, m4, D6, H⟩ := b2_out H
  have hq := confidantseat_in.calls D6 hS
  refine EL.of (EO.callD 41 [ia 15, ia (Int.tmod (IntKind.i64.wrap a0) a4)] _ 137 (by kernel_rfl) (by kernel_rfl) (by kernel_rfl) hq ?_)
  rintro v w ⟨rfl, hS⟩
  obtain ⟨q3, z9, H⟩ := lt_out H
  refine EL.of (EO.lit hS kS32 32 29 1 #[(0, ag [ia o3, ib m4])] [ia o3, ib m4] q3 138 (by kernel_rfl) (by kernel_rfl) (by kernel_rfl) (fun _ => (by kernel_rfl)) (by rw [z9]; rfl) (by kernel_rfl) (fun w G hr => (by rw [z9]; exact ⟨[ia o3, ib m4], [], rfl, ⟨[ia o3], [ib m4], rfl, rfl, ⟨[ib m4], [], rfl, rfl, rfl⟩⟩, rfl⟩)) ?_)
  intro v3 w hS
  refine EL.quick 1 [14] [(14, sv (some ⟨v3, 0, none⟩) 1 q3)] (by kernel_rfl) ?_
  refine EL.done (by kernel_rfl) ?_
  refine EQ.code ?_
  refine EW.ret (by kernel_rfl) ?_
  refine EQ.ret ?_
  refine EQ.ret ?_
  obtain rfl := Option.some.inj H
  exact EQ.leave (sv (some ⟨v3, 0, none⟩) 1 q3) (by kernel_rfl) ⟨_, rfl, (some ⟨v3, 0, none⟩), 1, rfl, (hS.re [0] [] rfl (sub_self))⟩
 rw [if_neg y0] at H
 refine EW.sq (by kernel_rfl) ?_
 refine EW.rg (by kernel_rfl) ?_
 refine EL.quick 2 [1, 2, 5, 6, 15, 26, 139] [(1, ig a0), (2, ig a1), (5, ia a3), (6, .bool (b0)), (15, ia (Int.tmod (IntKind.i64.wrap a0) a4)), (26, ig (Int.tmod a2 16)), (139, .bool (decide ((Int.tmod a2 16) = 11)))] (by kernel_rfl) ?_
 refine EL.done (by kernel_rfl) ?_
 refine EQ.code ?_
 refine EW.cdP ((Int.tmod a2 16) = 11) (by kernel_rfl) (by kernel_rfl) (fun y1 => ?_) (fun y1 => ?_)
 ·rw [if_pos y1] at H
  refine EW.sq (by kernel_rfl) ?_
  refine EW.rg (by kernel_rfl) ?_
  obtain ⟨m5, i2, D7, H⟩ := b2_out H
  have hq := confidantseat_in.calls D7 hS
  refine EL.of (EO.callD 41 [ia 14, ia 0] _ 141 (by kernel_rfl) (by kernel_rfl) (by kernel_rfl) hq ?_)
  rintro v w ⟨rfl, hS⟩
  refine EL.quick 1 [141, 142] [(141, ag [ia m5, ib i2]), (142, ia (Int.tmod (IntKind.i64.wrap a0) a4))] (by kernel_rfl) ?_
  obtain ⟨m6, i3, D8, H⟩ := b2_out H
  have hq := confidantseat_in.calls D8 hS
  refine EL.of (EO.callD 41 [ia 22, ia (Int.tmod (IntKind.i64.wrap a0) a4)] _ 143 (by kernel_rfl) (by kernel_rfl) (by kernel_rfl) hq ?_)
  rintro v w ⟨rfl, hS⟩
  obtain ⟨q4, A0, H⟩ := lt_out H
  refine EL.of (EO.lit hS kS32 32 29 2 #[(0, ag [ia m5, ib i2]), (1, ag [ia m6, ib i3])] [ia m5, ib i2, ia m6, ib i3] q4 144 (by kernel_rfl) (by kernel_rfl) (by kernel_rfl) (fun _ => (by kernel_rfl)) (by rw [A0]; rfl) (by kernel_rfl) (fun w G hr => (by rw [A0]; exact ⟨[ia m5, ib i2], [ia m6, ib i3], rfl, ⟨[ia m5], [ib i2], rfl, rfl, ⟨[ib i2], [], rfl, rfl, rfl⟩⟩, ⟨[ia m6, ib i3], [], rfl, ⟨[ia m6], [ib i3], rfl, rfl, ⟨[ib i3], [], rfl, rfl, rfl⟩⟩, rfl⟩⟩)) ?_)
  intro v4 w hS
  refine EL.quick 1 [14] [(14, sv (some ⟨v4, 0, none⟩) 2 q4)] (by kernel_rfl) ?_
  refine EL.done (by kernel_rfl) ?_
  refine EQ.code ?_
  refine EW.ret (by kernel_rfl) ?_
  refine EQ.ret ?_
  refine EQ.ret ?_
  obtain rfl := Option.some.inj H
  exact EQ.leave (sv (some ⟨v4, 0, none⟩) 2 q4) (by kernel_rfl) ⟨_, rfl, (some ⟨v4, 0, none⟩), 2, rfl, (hS.re [0] [] rfl (sub_self))⟩
 rw [if_neg y1] at H
 refine EW.sq (by kernel_rfl) ?_
 refine EW.rg (by kernel_rfl) ?_
 refine EL.quick 2 [1, 2, 5, 6, 26, 145] [(1, ig a0), (2, ig a1), (5, ia a3), (6, .bool (b0)), (26, ig (Int.tmod a2 16)), (145, .bool (decide ((Int.tmod a2 16) = 12)))] (by kernel_rfl) ?_
 refine EL.done (by kernel_rfl) ?_
 refine EQ.code ?_
 refine EW.cdP ((Int.tmod a2 16) = 12) (by kernel_rfl) (by kernel_rfl) (fun y2 => ?_) (fun y2 => ?_)
 ·rw [if_pos y2] at H
  refine EW.sq (by kernel_rfl) ?_
  obtain ⟨t6, F8, H⟩ := lt_out H
  refine EW.ct (fun a w => ∃ p1 : Bool, Sat 214 [(1, ig a0), (2, ig a1), (5, ia a3), (151, .bool (p1))] a ∧ St B w (os) (rs) ∧ t6 p1 = some t1) (by kernel_rfl) ?_ (fun a w hI => ?_)
  ·refine EW.rg (by kernel_rfl) ?_
   refine EL.quick 3 [1, 2, 5, 6, 149] [(1, ig a0), (2, ig a1), (5, ia a3), (6, .bool (b0)), (149, .bool (decide (a3 = 0)))] (by kernel_rfl) ?_
   by_cases t3 : a3 = 0
   ·rw [if_pos t3] at H
    refine EL.keep [1, 2, 5, 6, 149] [(1, ig a0), (2, ig a1), (5, ia a3), (6, .bool (b0)), (149, .bool (decide (a3 = 0)))] (by kernel_rfl) ?_
    refine EL.as' [(1, ig a0), (2, ig a1), (5, ia a3), (6, .bool (b0)), (149, .bool (true))] (by simp only [sv, dec_t t3, Bool.not_true, Bool.not_false]) ?_
    refine EL.quick 2 [1, 2, 5, 151] [(1, ig a0), (2, ig a1), (5, ia a3), (151, .bool (true))] (by kernel_rfl) ?_
    refine EL.done (by kernel_rfl) ?_
    refine EQ.to ?_
    refine EQ.keep [1, 2, 5, 151] [(1, ig a0), (2, ig a1), (5, ia a3), (151, .bool (true))] (by kernel_rfl) ?_
    exact fun a ha => ⟨true, ha, (hS.re [] [] rfl (sub_self)), H⟩
   rw [if_neg t3] at H
   refine EL.keep [1, 2, 5, 6, 149] [(1, ig a0), (2, ig a1), (5, ia a3), (6, .bool (b0)), (149, .bool (decide (a3 = 0)))] (by kernel_rfl) ?_
   refine EL.as' [(1, ig a0), (2, ig a1), (5, ia a3), (6, .bool (b0)), (149, .bool (false))] (by simp only [sv, dec_f t3, Bool.not_true, Bool.not_false]) ?_
   refine EL.quick 2 [1, 2, 5, 151] [(1, ig a0), (2, ig a1), (5, ia a3), (151, .bool (b0))] (by kernel_rfl) ?_
   refine EL.done (by kernel_rfl) ?_
   refine EQ.to ?_
   refine EQ.keep [1, 2, 5, 151] [(1, ig a0), (2, ig a1), (5, ia a3), (151, .bool (b0))] (by kernel_rfl) ?_
   exact fun a ha => ⟨b0, ha, (hS.re [] [] rfl (sub_self)), H⟩
  obtain ⟨p1, ha, hS, H⟩ := hI
  rw [F8] at H
  (try dsimp only at H)
  refine EW.at ?_ a ha
  clear ha a
  refine EW.cdP' (p1) (by kernel_rfl) (by kernel_rfl) (fun y3 => ?_) (fun y3 => ?_)
  ·rw [if_pos y3] at H
   refine EW.sq (by kernel_rfl) ?_
   refine EW.rg (by kernel_rfl) ?_
   refine EL.quick 8 [159] [(159, ia (IntKind.i64.wrap ((IntKind.i64.wrap ((IntKind.i64.wrap (Int.tmod a0 4)) * 65536)) + (IntKind.i64.wrap (Int.tmod a1 3)))))] (by kernel_rfl) ?_
   obtain ⟨o4, m7, D9, H⟩ := b2_out H
   have hq := confidantseat_in.calls D9 hS
   refine EL.of (EO.callD 41 [ia 1, ia (IntKind.i64.wrap ((IntKind.i64.wrap ((IntKind.i64.wrap (Int.tmod a0 4)) * 65536)) + (IntKind.i64.wrap (Int.tmod a1 3))))] _ 160 (by kernel_rfl) (by kernel_rfl) (by kernel_rfl) hq ?_)
   rintro v w ⟨rfl, hS⟩
   obtain ⟨m8, i4, E0, H⟩ := b2_out H
   have hq := confidantseat_in.calls E0 hS
   refine EL.of (EO.callD 41 [ia 21, ia 0] _ 161 (by kernel_rfl) (by kernel_rfl) (by kernel_rfl) hq ?_)
   rintro v w ⟨rfl, hS⟩
   obtain ⟨i5, e6, E1, H⟩ := b2_out H
   have hq := confidantseat_in.calls E1 hS
   refine EL.of (EO.callD 41 [ia 2, ia 0] _ 162 (by kernel_rfl) (by kernel_rfl) (by kernel_rfl) hq ?_)
   rintro v w ⟨rfl, hS⟩
   obtain ⟨q5, A1, H⟩ := lt_out H
   refine EL.of (EO.lit hS kS32 32 29 3 #[(0, ag [ia o4, ib m7]), (1, ag [ia m8, ib i4]), (2, ag [ia i5, ib e6])] [ia o4, ib m7, ia m8, ib i4, ia i5, ib e6] q5 163 (by kernel_rfl) (by kernel_rfl) (by kernel_rfl) (fun _ => (by kernel_rfl)) (by rw [A1]; rfl) (by kernel_rfl) (fun w G hr => (by rw [A1]; exact ⟨[ia o4, ib m7], [ia m8, ib i4, ia i5, ib e6], rfl, ⟨[ia o4], [ib m7], rfl, rfl, ⟨[ib m7], [], rfl, rfl, rfl⟩⟩, ⟨[ia m8, ib i4], [ia i5, ib e6], rfl, ⟨[ia m8], [ib i4], rfl, rfl, ⟨[ib i4], [], rfl, rfl, rfl⟩⟩, ⟨[ia i5, ib e6], [], rfl, ⟨[ia i5], [ib e6], rfl, rfl, ⟨[ib e6], [], rfl, rfl, rfl⟩⟩, rfl⟩⟩⟩)) ?_)
   intro v5 w hS
   refine EL.quick 1 [14] [(14, sv (some ⟨v5, 0, none⟩) 3 q5)] (by kernel_rfl) ?_
   refine EL.done (by kernel_rfl) ?_
   refine EQ.code ?_
   refine EW.ret (by kernel_rfl) ?_
   refine EQ.ret ?_
   refine EQ.ret ?_
   refine EQ.ret ?_
   obtain rfl := Option.some.inj H
   exact EQ.leave (sv (some ⟨v5, 0, none⟩) 3 q5) (by kernel_rfl) ⟨_, rfl, (some ⟨v5, 0, none⟩), 3, rfl, (hS.re [0] [] rfl (sub_self))⟩
  rw [if_neg y3] at H
  refine EW.skip (by kernel_rfl) ?_
  refine EQ.code ?_
  refine EW.sq (by kernel_rfl) ?_
  obtain ⟨o5, m9, E2, H⟩ := b2_out H
  obtain ⟨A9, H⟩ := ite_out H
  obtain ⟨n0, i6, E3, H⟩ := b2_out H
  obtain ⟨i7, e7, E4, H⟩ := b2_out H
  obtain ⟨q6, A2, H⟩ := lt_out H
  have hS := hS.drew
  refine EW.dr (B := B) [] [] (by kernel_rfl) (by kernel_rfl) ?_
  have hN : Region.noSelect Cd40.r.r.l.r.l.r.r.r.r.r.r.r.r.r.r.r.r.r.r.r.r.r.r.r.r.r.r.r.l.r.l.ops = true := (by kernel_rfl)
  have hF : freeAll Cd40.r.r.l.r.l.r.r.r.r.r.r.r.r.r.r.r.r.r.r.r.r.r.r.r.r.r.r.r.l.r.l.ops = true := (by kernel_rfl)
  have hC : Core B [] [] _ := ⟨_, _, hS⟩
  refine ED.quick hN hF hC [0, 1, 2, 4, 5, 6] [166, 169, 170] 6 [(166, ia (IntKind.i64.wrap (Int.tmod a1 4))), (169, ia (IntKind.i64.wrap a0)), (170, ia a3)] (bm 12 119) (by kernel_rfl) (by kernel_rfl) ?_
  refine ED.Y hN hF hC 7 5 (bm 12 247) (by kernel_rfl) (by kernel_rfl) rfl (fun _ _ _ hS => YO.div .rem .i64 (IntKind.i64.wrap a0) a3 (Int.tmod (IntKind.i64.wrap a0) a3) 171 (by kernel_rfl) (by kernel_rfl) (by kernel_rfl) A9 (by first | exact .inl ⟨rfl, rfl⟩ | exact .inr ⟨rfl, rfl⟩)) ?_
  have hq := confidantseat_in.calls E2 hS
  refine ED.one 3 4 (bm 12 255) (by kernel_rfl) (by kernel_rfl) (by kernel_rfl) (EO.callD 41 [ia 12, ia (IntKind.i64.wrap (Int.tmod a1 4))] _ 167 (by kernel_rfl) (by kernel_rfl) (by kernel_rfl) hq ?_)
  rintro v w ⟨rfl, hS⟩
  have hC := hC.again ⟨_, _, hS⟩
  refine ⟨hC, ?_⟩
  have hq := confidantseat_in.calls E3 hS
  refine ED.one 8 3 (bm 12 511) (by kernel_rfl) (by kernel_rfl) (by kernel_rfl) (EO.callD 41 [ia 23, ia (Int.tmod (IntKind.i64.wrap a0) a3)] _ 172 (by kernel_rfl) (by kernel_rfl) (by kernel_rfl) hq ?_)
  rintro v w ⟨rfl, hS⟩
  have hC := hC.again ⟨_, _, hS⟩
  refine ⟨hC, ?_⟩
  have hq := confidantseat_in.calls E4 hS
  refine ED.one 9 2 (bm 12 1023) (by kernel_rfl) (by kernel_rfl) (by kernel_rfl) (EO.callD 41 [ia 13, ia 1] _ 173 (by kernel_rfl) (by kernel_rfl) (by kernel_rfl) hq ?_)
  rintro v w ⟨rfl, hS⟩
  have hC := hC.again ⟨_, _, hS⟩
  refine ⟨hC, ?_⟩
  refine ED.one 10 1 (bm 12 2047) (by kernel_rfl) (by kernel_rfl) (by kernel_rfl) (EO.lit hS kS32 32 29 3 #[(0, ag [ia o5, ib m9]), (1, ag [ia n0, ib i6]), (2, ag [ia i7, ib e7])] [ia o5, ib m9, ia n0, ib i6, ia i7, ib e7] q6 174 (by kernel_rfl) (by kernel_rfl) (by kernel_rfl) (fun _ => (by kernel_rfl)) (by rw [A2]; rfl) (by kernel_rfl) (fun w G hr => (by rw [A2]; exact ⟨[ia o5, ib m9], [ia n0, ib i6, ia i7, ib e7], rfl, ⟨[ia o5], [ib m9], rfl, rfl, ⟨[ib m9], [], rfl, rfl, rfl⟩⟩, ⟨[ia n0, ib i6], [ia i7, ib e7], rfl, ⟨[ia n0], [ib i6], rfl, rfl, ⟨[ib i6], [], rfl, rfl, rfl⟩⟩, ⟨[ia i7, ib e7], [], rfl, ⟨[ia i7], [ib e7], rfl, rfl, ⟨[ib e7], [], rfl, rfl, rfl⟩⟩, rfl⟩⟩⟩)) ?_)
  intro v6 w hS
  have hC := hC.again ⟨_, _, hS⟩
  refine ⟨hC, ?_⟩
  refine ED.quick hN hF hC [11] [14] 0 [(14, sv (some ⟨v6, 0, none⟩) 3 q6)] (bm 12 4095) (by kernel_rfl) (by kernel_rfl) ?_
  refine ED.done (by kernel_rfl) ?_
  refine EQ.code ?_
  refine EW.ret (by kernel_rfl) ?_
  refine EQ.ret ?_
  refine EQ.ret ?_
  obtain rfl := Option.some.inj H
  exact EQ.leave (sv (some ⟨v6, 0, none⟩) 3 q6) (by kernel_rfl) ⟨_, rfl, (some ⟨v6, 0, none⟩), 3, rfl, (hS.re [0] [] rfl (sub_self))⟩
 rw [if_neg y2] at H
 refine EW.sq (by kernel_rfl) ?_
 refine EW.rg (by kernel_rfl) ?_
 refine EL.quick 2 [1, 2, 5, 26, 175] [(1, ig a0), (2, ig a1), (5, ia a3), (26, ig (Int.tmod a2 16)), (175, .bool (decide ((Int.tmod a2 16) = 13)))] (by kernel_rfl) ?_
 refine EL.done (by kernel_rfl) ?_
 refine EQ.code ?_
 refine EW.cdP ((Int.tmod a2 16) = 13) (by kernel_rfl) (by kernel_rfl) (fun y4 => ?_) (fun y4 => ?_)
 ·rw [if_pos y4] at H
  refine EW.sq (by kernel_rfl) ?_
  refine EW.sq (by kernel_rfl) ?_
  refine EW.rg (by kernel_rfl) ?_
  refine EL.quick 2 [1, 2, 5, 178] [(1, ig a0), (2, ig a1), (5, ia a3), (178, .bool (decide (a3 = 0)))] (by kernel_rfl) ?_
  refine EL.done (by kernel_rfl) ?_
  refine EQ.code ?_
  refine EW.cdP (a3 = 0) (by kernel_rfl) (by kernel_rfl) (fun t4 => ?_) (fun t4 => ?_)
  ·rw [if_pos t4] at H
   refine EW.sq (by kernel_rfl) ?_
   refine EW.rg (by kernel_rfl) ?_
   refine EL.quick 8 [186] [(186, ia (IntKind.i64.wrap ((IntKind.i64.wrap ((IntKind.i64.wrap (Int.tmod a0 4)) * 65536)) + (IntKind.i64.wrap (Int.tmod a1 3)))))] (by kernel_rfl) ?_
   obtain ⟨o6, n1, E5, H⟩ := b2_out H
   have hq := confidantseat_in.calls E5 hS
   refine EL.of (EO.callD 41 [ia 1, ia (IntKind.i64.wrap ((IntKind.i64.wrap ((IntKind.i64.wrap (Int.tmod a0 4)) * 65536)) + (IntKind.i64.wrap (Int.tmod a1 3))))] _ 187 (by kernel_rfl) (by kernel_rfl) (by kernel_rfl) hq ?_)
   rintro v w ⟨rfl, hS⟩
   obtain ⟨n2, i8, E6, H⟩ := b2_out H
   have hq := confidantseat_in.calls E6 hS
   refine EL.of (EO.callD 41 [ia 18, ia 0] _ 188 (by kernel_rfl) (by kernel_rfl) (by kernel_rfl) hq ?_)
   rintro v w ⟨rfl, hS⟩
   obtain ⟨i9, e8, E7, H⟩ := b2_out H
   have hq := confidantseat_in.calls E7 hS
   refine EL.of (EO.callD 41 [ia 2, ia 0] _ 189 (by kernel_rfl) (by kernel_rfl) (by kernel_rfl) hq ?_)
   rintro v w ⟨rfl, hS⟩
   obtain ⟨q7, A3, H⟩ := lt_out H
   refine EL.of (EO.lit hS kS32 32 29 3 #[(0, ag [ia o6, ib n1]), (1, ag [ia n2, ib i8]), (2, ag [ia i9, ib e8])] [ia o6, ib n1, ia n2, ib i8, ia i9, ib e8] q7 190 (by kernel_rfl) (by kernel_rfl) (by kernel_rfl) (fun _ => (by kernel_rfl)) (by rw [A3]; rfl) (by kernel_rfl) (fun w G hr => (by rw [A3]; exact ⟨[ia o6, ib n1], [ia n2, ib i8, ia i9, ib e8], rfl, ⟨[ia o6], [ib n1], rfl, rfl, ⟨[ib n1], [], rfl, rfl, rfl⟩⟩, ⟨[ia n2, ib i8], [ia i9, ib e8], rfl, ⟨[ia n2], [ib i8], rfl, rfl, ⟨[ib i8], [], rfl, rfl, rfl⟩⟩, ⟨[ia i9, ib e8], [], rfl, ⟨[ia i9], [ib e8], rfl, rfl, ⟨[ib e8], [], rfl, rfl, rfl⟩⟩, rfl⟩⟩⟩)) ?_)
   intro v7 w hS
   refine EL.quick 1 [14] [(14, sv (some ⟨v7, 0, none⟩) 3 q7)] (by kernel_rfl) ?_
   refine EL.done (by kernel_rfl) ?_
   refine EQ.code ?_
   refine EW.ret (by kernel_rfl) ?_
   refine EQ.ret ?_
   refine EQ.ret ?_
   refine EQ.ret ?_
   obtain rfl := Option.some.inj H
   exact EQ.leave (sv (some ⟨v7, 0, none⟩) 3 q7) (by kernel_rfl) ⟨_, rfl, (some ⟨v7, 0, none⟩), 3, rfl, (hS.re [0] [] rfl (sub_self))⟩
  rw [if_neg t4] at H
  refine EW.skip (by kernel_rfl) ?_
  refine EQ.code ?_
  refine EW.sq (by kernel_rfl) ?_
  refine EW.rg (by kernel_rfl) ?_
  refine EL.quick 3 [192, 193] [(192, ia (IntKind.i64.wrap a0)), (193, ia a3)] (by kernel_rfl) ?_
  refine EL.of (EO.Y (YO.div .rem .i64 (IntKind.i64.wrap a0) a3 (Int.tmod (IntKind.i64.wrap a0) a3) 194 (by kernel_rfl) (by kernel_rfl) (by kernel_rfl) t4 (by first | exact .inl ⟨rfl, rfl⟩ | exact .inr ⟨rfl, rfl⟩)) ?_)
  obtain ⟨o7, n3, E8, H⟩ := b2_out H
  have hq := confidantseat_in.calls E8 hS
  refine EL.of (EO.callD 41 [ia 24, ia (Int.tmod (IntKind.i64.wrap a0) a3)] _ 195 (by kernel_rfl) (by kernel_rfl) (by kernel_rfl) hq ?_)
  rintro v w ⟨rfl, hS⟩
  obtain ⟨n4, j0, E9, H⟩ := b2_out H
  have hq := confidantseat_in.calls E9 hS
  refine EL.of (EO.callD 41 [ia 2, ia 0] _ 196 (by kernel_rfl) (by kernel_rfl) (by kernel_rfl) hq ?_)
  rintro v w ⟨rfl, hS⟩
  obtain ⟨j1, e9, F0, H⟩ := b2_out H
  have hq := confidantseat_in.calls F0 hS
  refine EL.of (EO.callD 41 [ia 13, ia 0] _ 197 (by kernel_rfl) (by kernel_rfl) (by kernel_rfl) hq ?_)
  rintro v w ⟨rfl, hS⟩
  obtain ⟨q8, A4, H⟩ := lt_out H
  refine EL.of (EO.lit hS kS32 32 29 3 #[(0, ag [ia o7, ib n3]), (1, ag [ia n4, ib j0]), (2, ag [ia j1, ib e9])] [ia o7, ib n3, ia n4, ib j0, ia j1, ib e9] q8 198 (by kernel_rfl) (by kernel_rfl) (by kernel_rfl) (fun _ => (by kernel_rfl)) (by rw [A4]; rfl) (by kernel_rfl) (fun w G hr => (by rw [A4]; exact ⟨[ia o7, ib n3], [ia n4, ib j0, ia j1, ib e9], rfl, ⟨[ia o7], [ib n3], rfl, rfl, ⟨[ib n3], [], rfl, rfl, rfl⟩⟩, ⟨[ia n4, ib j0], [ia j1, ib e9], rfl, ⟨[ia n4], [ib j0], rfl, rfl, ⟨[ib j0], [], rfl, rfl, rfl⟩⟩, ⟨[ia j1, ib e9], [], rfl, ⟨[ia j1], [ib e9], rfl, rfl, ⟨[ib e9], [], rfl, rfl, rfl⟩⟩, rfl⟩⟩⟩)) ?_)
  intro v8 w hS
  refine EL.quick 1 [14] [(14, sv (some ⟨v8, 0, none⟩) 3 q8)] (by kernel_rfl) ?_
  refine EL.done (by kernel_rfl) ?_
  refine EQ.code ?_
  refine EW.ret (by kernel_rfl) ?_
  refine EQ.ret ?_
  refine EQ.ret ?_
  obtain rfl := Option.some.inj H
  exact EQ.leave (sv (some ⟨v8, 0, none⟩) 3 q8) (by kernel_rfl) ⟨_, rfl, (some ⟨v8, 0, none⟩), 3, rfl, (hS.re [0] [] rfl (sub_self))⟩
 rw [if_neg y4] at H
 refine EW.sq (by kernel_rfl) ?_
 refine EW.rg (by kernel_rfl) ?_
 refine EL.quick 2 [1, 199] [(1, ig a0), (199, .bool (decide ((Int.tmod a2 16) = 14)))] (by kernel_rfl) ?_
 refine EL.done (by kernel_rfl) ?_
 refine EQ.code ?_
 refine EW.cdP ((Int.tmod a2 16) = 14) (by kernel_rfl) (by kernel_rfl) (fun y5 => ?_) (fun y5 => ?_)
 ·rw [if_pos y5] at H
  refine EW.sq (by kernel_rfl) ?_
  refine EW.rg (by kernel_rfl) ?_
  refine EL.quick 3 [203] [(203, ia (IntKind.i64.wrap (Int.tmod a0 4)))] (by kernel_rfl) ?_
  obtain ⟨o8, n5, F1, H⟩ := b2_out H
  have hq := confidantseat_in.calls F1 hS
  refine EL.of (EO.callD 41 [ia 1, ia (IntKind.i64.wrap (Int.tmod a0 4))] _ 204 (by kernel_rfl) (by kernel_rfl) (by kernel_rfl) hq ?_)
  rintro v w ⟨rfl, hS⟩
  obtain ⟨n6, j2, F2, H⟩ := b2_out H
  have hq := confidantseat_in.calls F2 hS
  refine EL.of (EO.callD 41 [ia 13, ia 1] _ 205 (by kernel_rfl) (by kernel_rfl) (by kernel_rfl) hq ?_)
  rintro v w ⟨rfl, hS⟩
  obtain ⟨q9, A5, H⟩ := lt_out H
  refine EL.of (EO.lit hS kS32 32 29 2 #[(0, ag [ia o8, ib n5]), (1, ag [ia n6, ib j2])] [ia o8, ib n5, ia n6, ib j2] q9 206 (by kernel_rfl) (by kernel_rfl) (by kernel_rfl) (fun _ => (by kernel_rfl)) (by rw [A5]; rfl) (by kernel_rfl) (fun w G hr => (by rw [A5]; exact ⟨[ia o8, ib n5], [ia n6, ib j2], rfl, ⟨[ia o8], [ib n5], rfl, rfl, ⟨[ib n5], [], rfl, rfl, rfl⟩⟩, ⟨[ia n6, ib j2], [], rfl, ⟨[ia n6], [ib j2], rfl, rfl, ⟨[ib j2], [], rfl, rfl, rfl⟩⟩, rfl⟩⟩)) ?_)
  intro v9 w hS
  refine EL.quick 1 [14] [(14, sv (some ⟨v9, 0, none⟩) 2 q9)] (by kernel_rfl) ?_
  refine EL.done (by kernel_rfl) ?_
  refine EQ.code ?_
  refine EW.ret (by kernel_rfl) ?_
  refine EQ.ret ?_
  refine EQ.ret ?_
  obtain rfl := Option.some.inj H
  exact EQ.leave (sv (some ⟨v9, 0, none⟩) 2 q9) (by kernel_rfl) ⟨_, rfl, (some ⟨v9, 0, none⟩), 2, rfl, (hS.re [0] [] rfl (sub_self))⟩
 rw [if_neg y5] at H
 refine EW.skip (by kernel_rfl) ?_
 refine EQ.pop ?_
 refine EQ.code ?_
 refine EW.sq (by kernel_rfl) ?_
 refine EW.rg (by kernel_rfl) ?_
 refine EL.quick 2 [208] [(208, ia (IntKind.i64.wrap a0))] (by kernel_rfl) ?_
 obtain ⟨o9, n7, F3, H⟩ := b2_out H
 have hq := confidantseat_in.calls F3 hS
 refine EL.of (EO.callD 41 [ia 1, ia (IntKind.i64.wrap a0)] _ 209 (by kernel_rfl) (by kernel_rfl) (by kernel_rfl) hq ?_)
 rintro v w ⟨rfl, hS⟩
 obtain ⟨n8, j3, F4, H⟩ := b2_out H
 have hq := confidantseat_in.calls F4 hS
 refine EL.of (EO.callD 41 [ia 3, ia 0] _ 210 (by kernel_rfl) (by kernel_rfl) (by kernel_rfl) hq ?_)
 rintro v w ⟨rfl, hS⟩
 obtain ⟨j4, f0, F5, H⟩ := b2_out H
 have hq := confidantseat_in.calls F5 hS
 refine EL.of (EO.callD 41 [ia 4, ia 0] _ 211 (by kernel_rfl) (by kernel_rfl) (by kernel_rfl) hq ?_)
 rintro v w ⟨rfl, hS⟩
 obtain ⟨f1, c7, F6, H⟩ := b2_out H
 have hq := confidantseat_in.calls F6 hS
 refine EL.of (EO.callD 41 [ia 2, ia 0] _ 212 (by kernel_rfl) (by kernel_rfl) (by kernel_rfl) hq ?_)
 rintro v w ⟨rfl, hS⟩
 obtain ⟨t0, A6, H⟩ := lt_out H
 refine EL.of (EO.lit hS kS32 32 29 4 #[(0, ag [ia o9, ib n7]), (1, ag [ia n8, ib j3]), (2, ag [ia j4, ib f0]), (3, ag [ia f1, ib c7])] [ia o9, ib n7, ia n8, ib j3, ia j4, ib f0, ia f1, ib c7] t0 213 (by kernel_rfl) (by kernel_rfl) (by kernel_rfl) (fun _ => (by kernel_rfl)) (by rw [A6]; rfl) (by kernel_rfl) (fun w G hr => (by rw [A6]; exact ⟨[ia o9, ib n7], [ia n8, ib j3, ia j4, ib f0, ia f1, ib c7], rfl, ⟨[ia o9], [ib n7], rfl, rfl, ⟨[ib n7], [], rfl, rfl, rfl⟩⟩, ⟨[ia n8, ib j3], [ia j4, ib f0, ia f1, ib c7], rfl, ⟨[ia n8], [ib j3], rfl, rfl, ⟨[ib j3], [], rfl, rfl, rfl⟩⟩, ⟨[ia j4, ib f0], [ia f1, ib c7], rfl, ⟨[ia j4], [ib f0], rfl, rfl, ⟨[ib f0], [], rfl, rfl, rfl⟩⟩, ⟨[ia f1, ib c7], [], rfl, ⟨[ia f1], [ib c7], rfl, rfl, ⟨[ib c7], [], rfl, rfl, rfl⟩⟩, rfl⟩⟩⟩⟩)) ?_)
 intro x0 w hS
 refine EL.quick 1 [14] [(14, sv (some ⟨x0, 0, none⟩) 4 t0)] (by kernel_rfl) ?_
 refine EL.done (by kernel_rfl) ?_
 refine EQ.code ?_
 refine EW.ret (by kernel_rfl) ?_
 obtain rfl := Option.some.inj H
 exact EQ.leave (sv (some ⟨x0, 0, none⟩) 4 t0) (by kernel_rfl) ⟨_, rfl, (some ⟨x0, 0, none⟩), 4, rfl, (hS.re [0] [] rfl (sub_self))⟩

/-! ### confidant/confidantseat.Code: function 14 -/
def confidantseat_Code.l1 (K : Nat) (a3 : Int) (a0 : List Int) (a4 : Int) (a5 : Int) (a6 : Bool) (f3 : (List S32) → Option (List (List S32))) : Nat → (List S32) → Int → Option (List (List S32))
 | 0, _, _ => none
 | n + 1, b4, a8 => lt (fun (i4 : Bool) => (if i4 = true then (lt (fun (n4 : List S32) (e3 : List S32) => (confidantseat_Code.l1 K a3 a0 a4 a5 a6 f3 n e3 (IntKind.i64.wrap (a8 + (IntKind.i64.wrap (3 * a3)))))) fun n0 => (if 0 ≤ a8 then (if a8 < (a0.length : Int) then (if 0 ≤ (IntKind.i64.wrap (a8 + 1)) then (if (IntKind.i64.wrap (a8 + 1)) < (a0.length : Int) then (if 0 ≤ (IntKind.i64.wrap (a8 + 2)) then (if (IntKind.i64.wrap (a8 + 2)) < (a0.length : Int) then (b1 (confidantseat_piece.f K (a0.getD a8.toNat 0) (a0.getD (IntKind.i64.wrap (a8 + 1)).toNat 0) (a0.getD (IntKind.i64.wrap (a8 + 2)).toNat 0) a4 a3 a5 a6) fun (b6 : List S32) => (lt (fun (e4 : List S32) => (if (e4.length + b6.length) * 16 ≤ 140737488355328 then (lt (e4 ++ b6) fun c4 => (if (Int.tmod (a0.getD a8.toNat 0) 16) = 14 then (b2 (confidantseat_in.f K 12 1) fun (e8 : Int) (e0 : Int) => (b2 (confidantseat_in.f K 1 1) fun (e1 : Int) (d7 : Int) => (b2 (confidantseat_in.f K 5 0) fun (d8 : Int) (d5 : Int) => (b2 (confidantseat_in.f K 13 1) fun (d6 : Int) (d0 : Int) => (b2 (confidantseat_in.f K 12 1) fun (d1 : Int) (c7 : Int) => (b2 (confidantseat_in.f K 11 (IntKind.i64.wrap ((c4.length : Int) + 7))) fun (d2 : Int) (c8 : Int) => (b2 (confidantseat_in.f K 10 (mx (IntKind.i64.wrap ((IntKind.i64.wrap ((c4.length : Int) - (b6.length : Int))) + 2)) 0)) fun (d3 : Int) (c9 : Int) => (lt ([(⟨e8, e0⟩ : S32), (⟨e1, d7⟩ : S32), (⟨d8, d5⟩ : S32), (⟨d6, d0⟩ : S32), (⟨d1, c7⟩ : S32), (⟨d2, c8⟩ : S32), (⟨d3, c9⟩ : S32)] : List S32) fun g9 => (if (c4.length + g9.length) * 16 ≤ 140737488355328 then (lt (c4 ++ g9) fun f5 => (n0 b6 f5)) else none))))))))) else (n0 b6 c4))) else none)) fun n1 => (if (Int.tmod (a0.getD (IntKind.i64.wrap (a8 + 1)).toNat 0) 5) = 4 then (b2 (confidantseat_in.f K 12 (IntKind.i64.wrap (Int.tmod (a0.getD (IntKind.i64.wrap (a8 + 2)).toNat 0) 4))) fun (f9 : Int) (e6 : Int) => (b2 (confidantseat_in.f K 11 (IntKind.i64.wrap ((IntKind.i64.wrap ((b4.length : Int) + 2)) + (b6.length : Int)))) fun (g0 : Int) (e7 : Int) => (lt ([(⟨f9, e6⟩ : S32), (⟨g0, e7⟩ : S32)] : List S32) fun g8 => (if (b4.length + g8.length) * 16 ≤ 140737488355328 then (lt (b4 ++ g8) fun f4 => (n1 f4)) else none)))) else (n1 b4)))) else none) else none) else none) else none) else none) else none)) else (f3 b4))) fun m9 => (if (IntKind.i64.wrap (a8 + 2)) < (a0.length : Int) then (m9 (decide ((b4.length : Int) < 30))) else (m9 false))
def confidantseat_Code.l0 (K : Nat) (a3 : Int) (a0 : List Int) (a4 : Int) (a5 : Int) (a6 : Bool) : Nat → (List (List S32)) → Int → Option (List (List S32))
 | 0, _, _ => none
 | n + 1, a7, a1 => if a1 < a3 then (lt (fun (n3 : List (List S32)) (e2 : List (List S32)) => (confidantseat_Code.l0 K a3 a0 a4 a5 a6 n e2 (IntKind.i64.wrap (a1 + 1)))) fun o5 => (lt (fun (b7 : List S32) => (lt (fun (d9 : List S32) => (lt ([d9] : List (List S32)) fun e5 => (if (a7.length + e5.length) * 24 ≤ 140737488355328 then (lt (a7 ++ e5) fun f8 => (o5 e5 f8)) else none))) fun n2 => (lt (fun (i5 : Bool) => (if i5 = true then (if 0 ≤ a1 then (if a1 < (a0.length : Int) then (b2 (confidantseat_in.f K 26 (IntKind.i64.wrap (IntKind.u8.wrap (Int.tdiv (a0.getD a1.toNat 0) 8)))) fun (i2 : Int) (g1 : Int) => (lt ([(⟨i2, g1⟩ : S32)] : List S32) fun i0 => (if (b7.length + i0.length) * 16 ≤ 140737488355328 then (lt (b7 ++ i0) fun f6 => (n2 f6)) else none))) else none) else none) else (b2 (confidantseat_in.f K 12 (Int.tmod a1 4)) fun (i3 : Int) (g2 : Int) => (b2 (confidantseat_in.f K 25 0) fun (g3 : Int) (e9 : Int) => (lt ([(⟨i3, g2⟩ : S32), (⟨g3, e9⟩ : S32)] : List S32) fun i1 => (if (b7.length + i1.length) * 16 ≤ 140737488355328 then (lt (b7 ++ i1) fun f7 => (n2 f7)) else none)))))) fun m1 => (if (Int.tmod a1 3) = 2 then (if (a0.length : Int) > a1 then (if 0 ≤ a1 then (if a1 < (a0.length : Int) then (m1 (decide ((Int.tmod (a0.getD a1.toNat 0) 8) = 0))) else none) else none) else (m1 false)) else (m1 false))))) fun f3 => (confidantseat_Code.l1 K a3 a0 a4 a5 a6 f3 K ([] : List S32) (IntKind.i64.wrap (3 * a1))))) else (some a7)
def confidantseat_Code.f (K : Nat) (a0 : List Int) (a4 : Int) (a3 : Int) (a5 : Int) (a6 : Bool) : Option (List (List S32)) := confidantseat_Code.l0 K a3 a0 a4 a5 a6 K ([] : List (List S32)) 0
set_option maxRecDepth 100000 in
theorem confidantseat_Code.calls {K : Nat} {a0 : List Int} {a4 : Int} {a3 : Int} {a5 : Int} {a6 : Bool} {b3 : Option Addr} {a2 : Nat} {d4 : List (List S32)} {B w : World} {os : List Ass} {rs : List Ro} (H : confidantseat_Code.f K a0 a4 a3 a5 a6 = some d4) (hS : St B w (os) (Ro.sl (Kd.int .u8) b3 a2 a0 :: rs)) :
  Calls Try.prog 14 [sv b3 a2 a0, ia a4, ia a3, ia a5, .bool (a6)].toArray w (fun en w' => ∃ v, en = .returned v ∧ ∃ o8 : Option Addr, ∃ p1 : Nat, v = sv o8 p1 d4 ∧ St B w' (Ass.own 29 (Kd.slice kS32) o8 p1 d4 :: os) (Ro.sl (Kd.int .u8) b3 a2 a0 :: rs)) := by
 unfold confidantseat_Code.f at H
 refine calls_of_EW (args := [sv b3 a2 a0, ia a4, ia a3, ia a5, .bool (a6)]) (c := Cd14) 149 Try.func14 (by kernel_rfl) (by kernel_rfl) (by kernel_rfl) ?_
 refine EW.sq (by kernel_rfl) ?_
 refine EW.rg (by kernel_rfl) ?_
 refine EL.quick 1 [0, 1, 2, 3, 4] [(0, sv b3 a2 a0), (1, ia a4), (2, ia a3), (3, ia a5), (4, .bool (a6))] (by kernel_rfl) ?_
 refine EL.done (by kernel_rfl) ?_
 refine EQ.code ?_
 refine EW.sq (by kernel_rfl) ?_
 refine EW.rg (by kernel_rfl) ?_
 refine EL.quick 1 [0, 1, 2, 3, 4, 11] [(0, sv b3 a2 a0), (1, ia a4), (2, ia a3), (3, ia a5), (4, .bool (a6)), (11, sv none 0 ([] : List (List S32)))] (by kernel_rfl) ?_
 refine EL.done (by kernel_rfl) ?_
 refine EQ.code ?_
 refine EW.sq (by kernel_rfl) ?_
 refine EW.sq (by kernel_rfl) ?_
 refine EW.rg (by kernel_rfl) ?_
 refine EL.quick 1 [0, 1, 2, 3, 4, 11, 12] [(0, sv b3 a2 a0), (1, ia a4), (2, ia a3), (3, ia a5), (4, .bool (a6)), (11, sv none 0 ([] : List (List S32))), (12, ia 0)] (by kernel_rfl) ?_
 refine EL.done (by kernel_rfl) ?_
 refine EQ.code ?_
 refine EW.bl 0 (by kernel_rfl) ?_
 have hS := St.nilO hS 29 (Kd.slice kS32)
 refine EW.lp (fun n a w => ∃ a7 : List (List S32), ∃ a1 : Int, ∃ a9 : Option Addr, ∃ b0 : Nat, Sat 149 [(0, sv b3 a2 a0), (1, ia a4), (2, ia a3), (3, ia a5), (4, .bool (a6)), (11, sv a9 b0 a7), (12, ia a1)] a ∧ St B w (Ass.own 29 (Kd.slice kS32) a9 b0 a7 :: os) (Ro.sl (Kd.int .u8) b3 a2 a0 :: rs) ∧ confidantseat_Code.l0 K a3 a0 a4 a5 a6 n a7 a1 = some d4) K (by kernel_rfl) ?_ (fun n a w hI => ?_)
 ·refine EQ.keep [0, 1, 2, 3, 4, 11, 12] [(0, sv b3 a2 a0), (1, ia a4), (2, ia a3), (3, ia a5), (4, .bool (a6)), (11, sv none 0 ([] : List (List S32))), (12, ia 0)] (by kernel_rfl) ?_
  exact fun a ha => ⟨([] : List (List S32)), 0, none, 0, ha, (hS.re [0] [] rfl (sub_cons 0 rfl (sub_tail (sub_self)))), H⟩
 obtain ⟨a7, a1, a9, b0, ha, hS, H⟩ := hI
 obtain _ | n := n
 ·simp [confidantseat_Code.l0] at H
 rw [confidantseat_Code.l0.eq_2] at H
 refine EW.at ?_ a ha
 clear ha a
 refine EW.sq (by kernel_rfl) ?_
 refine EW.sq (by kernel_rfl) ?_
 refine EW.rg (by kernel_rfl) ?_
 refine EL.quick 3 [0, 1, 2, 3, 4, 11, 12, 18] [(0, sv b3 a2 a0), (1, ia a4), (2, ia a3), (3, ia a5), (4, .bool (a6)), (11, sv a9 b0 a7), (12, ia a1), (18, .bool (decide (a1 < a3)))] (by kernel_rfl) ?_
 refine EL.done (by kernel_rfl) ?_
 refine EQ.code ?_
 refine EW.cdP (a1 < a3) (by kernel_rfl) (by kernel_rfl) (fun n6 => ?_) (fun n6 => ?_)
 ·rw [if_pos n6] at H
  refine EW.skip (by kernel_rfl) ?_
  refine EQ.code ?_
  obtain ⟨o5, u0, H⟩ := lt_out H
  refine EW.ct (fun a w => ∃ n3 : List (List S32), ∃ e2 : List (List S32), ∃ o6 : Option Addr, ∃ o9 : Nat, ∃ g4 : Option Addr, ∃ g6 : Nat, Sat 149 [(0, sv b3 a2 a0), (1, ia a4), (2, ia a3), (3, ia a5), (4, .bool (a6)), (11, sv g4 g6 e2), (12, ia a1)] a ∧ St B w (Ass.own 29 (Kd.slice kS32) o6 o9 n3 :: Ass.own 29 (Kd.slice kS32) g4 g6 e2 :: os) (Ro.sl (Kd.int .u8) b3 a2 a0 :: rs) ∧ o5 n3 e2 = some d4) (by kernel_rfl) ?_ (fun a w hI => ?_)
  ·refine EW.bl 1 (by kernel_rfl) ?_
   refine EW.sq (by kernel_rfl) ?_
   refine EW.rg (by kernel_rfl) ?_
   refine EL.quick 1 [0, 1, 2, 3, 4, 11, 12, 13] [(0, sv b3 a2 a0), (1, ia a4), (2, ia a3), (3, ia a5), (4, .bool (a6)), (11, sv a9 b0 a7), (12, ia a1), (13, sv none 0 ([] : List S32))] (by kernel_rfl) ?_
   refine EL.done (by kernel_rfl) ?_
   refine EQ.code ?_
   obtain ⟨f3, u1, H⟩ := lt_out H
   refine EW.ct (fun a w => ∃ b7 : List S32, ∃ c0 : Option Addr, ∃ c1 : Nat, Sat 149 [(0, sv b3 a2 a0), (1, ia a4), (2, ia a3), (3, ia a5), (4, .bool (a6)), (11, sv a9 b0 a7), (12, ia a1), (13, sv c0 c1 b7)] a ∧ St B w (Ass.own 29 (Kd.slice kS32) a9 b0 a7 :: Ass.own 32 kS32 c0 c1 b7 :: os) (Ro.sl (Kd.int .u8) b3 a2 a0 :: rs) ∧ f3 b7 = some d4) (by kernel_rfl) ?_ (fun a w hI => ?_)
   ·refine EW.sq (by kernel_rfl) ?_
    refine EW.rg (by kernel_rfl) ?_
    refine EL.quick 3 [0, 1, 2, 3, 4, 11, 12, 13, 14] [(0, sv b3 a2 a0), (1, ia a4), (2, ia a3), (3, ia a5), (4, .bool (a6)), (11, sv a9 b0 a7), (12, ia a1), (13, sv none 0 ([] : List S32)), (14, ia (IntKind.i64.wrap (3 * a1)))] (by kernel_rfl) ?_
    refine EL.done (by kernel_rfl) ?_
    refine EQ.code ?_
    refine EW.bl 2 (by kernel_rfl) ?_
    have hS := St.nilO hS 32 kS32
    refine EW.lp (fun n a w => ∃ b4 : List S32, ∃ a8 : Int, ∃ b8 : Option Addr, ∃ b9 : Nat, Sat 149 [(0, sv b3 a2 a0), (1, ia a4), (2, ia a3), (3, ia a5), (4, .bool (a6)), (11, sv a9 b0 a7), (12, ia a1), (13, sv b8 b9 b4), (14, ia a8)] a ∧ St B w (Ass.own 29 (Kd.slice kS32) a9 b0 a7 :: Ass.own 32 kS32 b8 b9 b4 :: os) (Ro.sl (Kd.int .u8) b3 a2 a0 :: rs) ∧ confidantseat_Code.l1 K a3 a0 a4 a5 a6 f3 n b4 a8 = some d4) K (by kernel_rfl) ?_ (fun n a w hI => ?_)
    ·refine EQ.keep [0, 1, 2, 3, 4, 11, 12, 13, 14] [(0, sv b3 a2 a0), (1, ia a4), (2, ia a3), (3, ia a5), (4, .bool (a6)), (11, sv a9 b0 a7), (12, ia a1), (13, sv none 0 ([] : List S32)), (14, ia (IntKind.i64.wrap (3 * a1)))] (by kernel_rfl) ?_
     exact fun a ha => ⟨([] : List S32), IntKind.i64.wrap (3 * a1), none, 0, ha, (hS.re [0, 1] [] rfl (sub_cons 0 rfl (sub_tail (sub_self)))), H⟩
    obtain ⟨b4, a8, b8, b9, ha, hS, H⟩ := hI
    obtain _ | n := n
    ·simp [confidantseat_Code.l1] at H
    rw [confidantseat_Code.l1.eq_2] at H
    refine EW.at ?_ a ha
    clear ha a
    refine EW.sq (by kernel_rfl) ?_
    obtain ⟨m9, u2, H⟩ := lt_out H
    refine EW.ct (fun a w => ∃ i4 : Bool, Sat 149 [(0, sv b3 a2 a0), (1, ia a4), (2, ia a3), (3, ia a5), (4, .bool (a6)), (11, sv a9 b0 a7), (12, ia a1), (13, sv b8 b9 b4), (14, ia a8), (32, .bool (i4))] a ∧ St B w (Ass.own 29 (Kd.slice kS32) a9 b0 a7 :: Ass.own 32 kS32 b8 b9 b4 :: os) (Ro.sl (Kd.int .u8) b3 a2 a0 :: rs) ∧ m9 i4 = some d4) (by kernel_rfl) ?_ (fun a w hI => ?_)
    ·refine EW.rg (by kernel_rfl) ?_
     refine EL.quick 6 [0, 1, 2, 3, 4, 11, 12, 13, 14, 28] [(0, sv b3 a2 a0), (1, ia a4), (2, ia a3), (3, ia a5), (4, .bool (a6)), (11, sv a9 b0 a7), (12, ia a1), (13, sv b8 b9 b4), (14, ia a8), (28, .bool (decide ((IntKind.i64.wrap (a8 + 2)) < (a0.length : Int))))] (by kernel_rfl) ?_
     by_cases m2 : (IntKind.i64.wrap (a8 + 2)) < (a0.length : Int)
     ·rw [if_pos m2] at H
      refine EL.keep [0, 1, 2, 3, 4, 11, 12, 13, 14, 28] [(0, sv b3 a2 a0), (1, ia a4), (2, ia a3), (3, ia a5), (4, .bool (a6)), (11, sv a9 b0 a7), (12, ia a1), (13, sv b8 b9 b4), (14, ia a8), (28, .bool (decide ((IntKind.i64.wrap (a8 + 2)) < (a0.length : Int))))] (by kernel_rfl) ?_
      refine EL.as' [(0, sv b3 a2 a0), (1, ia a4), (2, ia a3), (3, ia a5), (4, .bool (a6)), (11, sv a9 b0 a7), (12, ia a1), (13, sv b8 b9 b4), (14, ia a8), (28, .bool (true))] (by simp only [sv, dec_t m2, Bool.not_true, Bool.not_false]) ?_
      refine EL.quick 4 [0, 1, 2, 3, 4, 11, 12, 13, 14, 29, 30, 31, 32] [(0, sv b3 a2 a0), (1, ia a4), (2, ia a3), (3, ia a5), (4, .bool (a6)), (11, sv a9 b0 a7), (12, ia a1), (13, sv b8 b9 b4), (14, ia a8), (29, sv b8 b9 b4), (30, ia (b4.length : Int)), (31, .bool (decide ((b4.length : Int) < 30))), (32, .bool (decide ((b4.length : Int) < 30)))] (by kernel_rfl) ?_
      refine EL.done (by kernel_rfl) ?_
      refine EQ.to ?_
      refine EQ.keep [0, 1, 2, 3, 4, 11, 12, 13, 14, 32] [(0, sv b3 a2 a0), (1, ia a4), (2, ia a3), (3, ia a5), (4, .bool (a6)), (11, sv a9 b0 a7), (12, ia a1), (13, sv b8 b9 b4), (14, ia a8), (32, .bool (decide ((b4.length : Int) < 30)))] (by kernel_rfl) ?_
      exact fun a ha => ⟨decide ((b4.length : Int) < 30), ha, (hS.re [1, 1] [] rfl (sub_cons 0 rfl (sub_tail (sub_self)))), H⟩
     rw [if_neg m2] at H
     refine EL.keep [0, 1, 2, 3, 4, 11, 12, 13, 14, 28] [(0, sv b3 a2 a0), (1, ia a4), (2, ia a3), (3, ia a5), (4, .bool (a6)), (11, sv a9 b0 a7), (12, ia a1), (13, sv b8 b9 b4), (14, ia a8), (28, .bool (decide ((IntKind.i64.wrap (a8 + 2)) < (a0.length : Int))))] (by kernel_rfl) ?_
     refine EL.as' [(0, sv b3 a2 a0), (1, ia a4), (2, ia a3), (3, ia a5), (4, .bool (a6)), (11, sv a9 b0 a7), (12, ia a1), (13, sv b8 b9 b4), (14, ia a8), (28, .bool (false))] (by simp only [sv, dec_f m2, Bool.not_true, Bool.not_false]) ?_
     refine EL.quick 4 [0, 1, 2, 3, 4, 11, 12, 13, 14, 32] [(0, sv b3 a2 a0), (1, ia a4), (2, ia a3), (3, ia a5), (4, .bool (a6)), (11, sv a9 b0 a7), (12, ia a1), (13, sv b8 b9 b4), (14, ia a8), (32, .bool (false))] (by kernel_rfl) ?_
     refine EL.done (by kernel_rfl) ?_
     refine EQ.to ?_
     refine EQ.keep [0, 1, 2, 3, 4, 11, 12, 13, 14, 32] [(0, sv b3 a2 a0), (1, ia a4), (2, ia a3), (3, ia a5), (4, .bool (a6)), (11, sv a9 b0 a7), (12, ia a1), (13, sv b8 b9 b4), (14, ia a8), (32, .bool (false))] (by kernel_rfl) ?_
     exact fun a ha => ⟨false, ha, (hS.re [1, 1] [] rfl (sub_cons 0 rfl (sub_tail (sub_self)))), H⟩
    obtain ⟨i4, ha, hS, H⟩ := hI
    rw [u2] at H
    (try dsimp only at H)
    refine EW.at ?_ a ha
    clear ha a
    refine EW.cdP' (i4) (by kernel_rfl) (by kernel_rfl) (fun n7 => ?_) (fun n7 => ?_)
    ·rw [if_pos n7] at H
     refine EW.skip (by kernel_rfl) ?_
     refine EQ.code ?_
     obtain ⟨n0, u3, H⟩ := lt_out H
     refine EW.ct (fun a w => ∃ n4 : List S32, ∃ e3 : List S32, ∃ o7 : Option Addr, ∃ p0 : Nat, ∃ g5 : Option Addr, ∃ g7 : Nat, Sat 149 [(0, sv b3 a2 a0), (1, ia a4), (2, ia a3), (3, ia a5), (4, .bool (a6)), (11, sv a9 b0 a7), (12, ia a1), (13, sv g5 g7 e3), (14, ia a8)] a ∧ St B w (Ass.own 32 kS32 o7 p0 n4 :: Ass.own 29 (Kd.slice kS32) a9 b0 a7 :: Ass.own 32 kS32 g5 g7 e3 :: os) (Ro.sl (Kd.int .u8) b3 a2 a0 :: rs) ∧ n0 n4 e3 = some d4) (by kernel_rfl) ?_ (fun a w hI => ?_)
     ·refine EW.bl 3 (by kernel_rfl) ?_
      refine EW.sq (by kernel_rfl) ?_
      obtain ⟨j9, H⟩ := ite_in H
      obtain ⟨m0, H⟩ := ite_in H
      obtain ⟨b5, rfl⟩ := St.rd_some hS (Rd.ro 0 rfl) j9 m0
      obtain ⟨m3, H⟩ := ite_in H
      obtain ⟨m4, H⟩ := ite_in H
      obtain ⟨m5, H⟩ := ite_in H
      obtain ⟨m6, H⟩ := ite_in H
      obtain ⟨b6, q7, H⟩ := b1_out H
      have hS := hS.drew
      refine EW.dr (B := B) [Ass.own 29 (Kd.slice kS32) a9 b0 a7, Ass.own 32 kS32 b8 b9 b4] [Ro.sl (Kd.int .u8) (some b5) a2 a0] (by kernel_rfl) (by kernel_rfl) ?_
      have hN : Region.noSelect Cd14.r.r.l.r.l.l.r.l.l.r.l.r.l.l.r.l.l.l.ops = true := (by kernel_rfl)
      have hF : freeAll Cd14.r.r.l.r.l.l.r.l.l.r.l.r.l.l.r.l.l.l.ops = true := (by kernel_rfl)
      have hC : Core B [Ass.own 29 (Kd.slice kS32) a9 b0 a7, Ass.own 32 kS32 b8 b9 b4] [Ro.sl (Kd.int .u8) (some b5) a2 a0] _ := ⟨_, _, hS⟩
      refine ED.quick hN hF hC [0, 1, 4, 5, 6, 9, 10, 11, 14, 15, 16, 17] [0, 1, 2, 3, 4, 11, 12, 13, 14, 37, 38, 41, 43, 46, 48, 51, 52, 53, 54] 8 [(0, sv (some b5) a2 a0), (1, ia a4), (2, ia a3), (3, ia a5), (4, .bool (a6)), (11, sv a9 b0 a7), (12, ia a1), (13, sv b8 b9 b4), (14, ia a8), (37, sv (some b5) a2 a0), (38, ia a8), (41, sv (some b5) a2 a0), (43, ia (IntKind.i64.wrap (a8 + 1))), (46, sv (some b5) a2 a0), (48, ia (IntKind.i64.wrap (a8 + 2))), (51, ia a4), (52, ia a3), (53, ia a5), (54, .bool (a6))] (bm 20 249459) (by kernel_rfl) (by kernel_rfl) ?_
      refine ED.Y hN hF hC 2 7 (bm 20 249463) (by kernel_rfl) (by kernel_rfl) rfl (fun _ _ _ hS => YO.idx 25 1 b5 a0.length a2 .i64 a8 39 (by kernel_rfl) (by kernel_rfl) (by kernel_rfl) (by kernel_rfl) j9 m0) ?_
      refine ED.Y hN hF hC 3 6 (bm 20 249471) (by kernel_rfl) (by kernel_rfl) rfl (fun _ _ _ hS => YO.loadEl hS (Kd.int .u8) b5 a2 a0 (Rd.ro 0 rfl) 0 (encI .u8) encI_of a8 j9 m0 5 1 0 1 rfl (ig (a0.getD a8.toNat 0)) 40 (by kernel_rfl) (by kernel_rfl) (by kernel_rfl) (by kernel_rfl)) ?_
      refine ED.Y hN hF hC 7 5 (bm 20 249599) (by kernel_rfl) (by kernel_rfl) rfl (fun _ _ _ hS => YO.idx 25 1 b5 a0.length a2 .i64 (IntKind.i64.wrap (a8 + 1)) 44 (by kernel_rfl) (by kernel_rfl) (by kernel_rfl) (by kernel_rfl) m3 m4) ?_
      refine ED.Y hN hF hC 8 4 (bm 20 249855) (by kernel_rfl) (by kernel_rfl) rfl (fun _ _ _ hS => YO.loadEl hS (Kd.int .u8) b5 a2 a0 (Rd.ro 0 rfl) 0 (encI .u8) encI_of (IntKind.i64.wrap (a8 + 1)) m3 m4 5 1 0 1 rfl (ig (a0.getD (IntKind.i64.wrap (a8 + 1)).toNat 0)) 45 (by kernel_rfl) (by kernel_rfl) (by kernel_rfl) (by kernel_rfl)) ?_
      refine ED.Y hN hF hC 12 3 (bm 20 253951) (by kernel_rfl) (by kernel_rfl) rfl (fun _ _ _ hS => YO.idx 25 1 b5 a0.length a2 .i64 (IntKind.i64.wrap (a8 + 2)) 49 (by kernel_rfl) (by kernel_rfl) (by kernel_rfl) (by kernel_rfl) m5 m6) ?_
      refine ED.Y hN hF hC 13 2 (bm 20 262143) (by kernel_rfl) (by kernel_rfl) rfl (fun _ _ _ hS => YO.loadEl hS (Kd.int .u8) b5 a2 a0 (Rd.ro 0 rfl) 0 (encI .u8) encI_of (IntKind.i64.wrap (a8 + 2)) m5 m6 5 1 0 1 rfl (ig (a0.getD (IntKind.i64.wrap (a8 + 2)).toNat 0)) 50 (by kernel_rfl) (by kernel_rfl) (by kernel_rfl) (by kernel_rfl)) ?_
      have hq := confidantseat_piece.calls q7 hS
      refine ED.one 18 1 (bm 20 524287) (by kernel_rfl) (by kernel_rfl) (by kernel_rfl) (EO.callD 40 [ig (a0.getD a8.toNat 0), ig (a0.getD (IntKind.i64.wrap (a8 + 1)).toNat 0), ig (a0.getD (IntKind.i64.wrap (a8 + 2)).toNat 0), ia a4, ia a3, ia a5, .bool (a6)] _ 55 (by kernel_rfl) (by kernel_rfl) (by kernel_rfl) hq ?_)
      rintro v w ⟨c2, c3, rfl, hS⟩
      have hC := hC.again ⟨_, _, hS.re [2, 2] [] rfl sub_self⟩
      refine ⟨hC, ?_⟩
      refine ED.quick hN hF hC [19] [0, 1, 2, 3, 4, 11, 12, 13, 14, 15] 0 [(0, sv (some b5) a2 a0), (1, ia a4), (2, ia a3), (3, ia a5), (4, .bool (a6)), (11, sv a9 b0 a7), (12, ia a1), (13, sv b8 b9 b4), (14, ia a8), (15, sv c2 c3 b6)] (bm 20 1048575) (by kernel_rfl) (by kernel_rfl) ?_
      refine ED.done (by kernel_rfl) ?_
      refine EQ.code ?_
      obtain ⟨n1, u4, H⟩ := lt_out H
      refine EW.ct (fun a w => ∃ e4 : List S32, ∃ i6 : Option Addr, ∃ j2 : Nat, Sat 149 [(0, sv (some b5) a2 a0), (1, ia a4), (2, ia a3), (3, ia a5), (4, .bool (a6)), (11, sv a9 b0 a7), (12, ia a1), (13, sv i6 j2 e4), (14, ia a8), (15, sv c2 c3 b6)] a ∧ St B w (Ass.own 32 kS32 c2 c3 b6 :: Ass.own 29 (Kd.slice kS32) a9 b0 a7 :: Ass.own 32 kS32 i6 j2 e4 :: os) (Ro.sl (Kd.int .u8) (some b5) a2 a0 :: rs) ∧ n1 e4 = some d4) (by kernel_rfl) ?_ (fun a w hI => ?_)
      ·refine EW.sq (by kernel_rfl) ?_
       refine EW.rg (by kernel_rfl) ?_
       refine EL.quick 3 [0, 1, 2, 3, 4, 11, 12, 13, 14, 15, 56, 58] [(0, sv (some b5) a2 a0), (1, ia a4), (2, ia a3), (3, ia a5), (4, .bool (a6)), (11, sv a9 b0 a7), (12, ia a1), (13, sv b8 b9 b4), (14, ia a8), (15, sv c2 c3 b6), (56, sv (some b5) a2 a0), (58, ia (IntKind.i64.wrap (a8 + 1)))] (by kernel_rfl) ?_
       refine EL.of (EO.Y (YO.idx 25 1 b5 a0.length a2 .i64 (IntKind.i64.wrap (a8 + 1)) 59 (by kernel_rfl) (by kernel_rfl) (by kernel_rfl) (by kernel_rfl) m3 m4) ?_)
       refine EL.of (EO.Y (YO.loadEl hS (Kd.int .u8) b5 a2 a0 (Rd.ro 0 rfl) 0 (encI .u8) encI_of (IntKind.i64.wrap (a8 + 1)) m3 m4 5 1 0 1 rfl (ig (a0.getD (IntKind.i64.wrap (a8 + 1)).toNat 0)) 60 (by kernel_rfl) (by kernel_rfl) (by kernel_rfl) (by kernel_rfl)) ?_)
       refine EL.quick 2 [0, 1, 2, 3, 4, 11, 12, 13, 14, 15, 62] [(0, sv (some b5) a2 a0), (1, ia a4), (2, ia a3), (3, ia a5), (4, .bool (a6)), (11, sv a9 b0 a7), (12, ia a1), (13, sv b8 b9 b4), (14, ia a8), (15, sv c2 c3 b6), (62, .bool (decide ((Int.tmod (a0.getD (IntKind.i64.wrap (a8 + 1)).toNat 0) 5) = 4)))] (by kernel_rfl) ?_
       refine EL.done (by kernel_rfl) ?_
       refine EQ.code ?_
       refine EW.cdP ((Int.tmod (a0.getD (IntKind.i64.wrap (a8 + 1)).toNat 0) 5) = 4) (by kernel_rfl) (by kernel_rfl) (fun n8 => ?_) (fun n8 => ?_)
       ·rw [if_pos n8] at H
        refine EW.rg (by kernel_rfl) ?_
        refine EL.quick 4 [0, 1, 2, 3, 4, 11, 12, 13, 14, 15, 63, 64, 66] [(0, sv (some b5) a2 a0), (1, ia a4), (2, ia a3), (3, ia a5), (4, .bool (a6)), (11, sv a9 b0 a7), (12, ia a1), (13, sv b8 b9 b4), (14, ia a8), (15, sv c2 c3 b6), (63, sv b8 b9 b4), (64, sv (some b5) a2 a0), (66, ia (IntKind.i64.wrap (a8 + 2)))] (by kernel_rfl) ?_
        refine EL.of (EO.Y (YO.idx 25 1 b5 a0.length a2 .i64 (IntKind.i64.wrap (a8 + 2)) 67 (by kernel_rfl) (by kernel_rfl) (by kernel_rfl) (by kernel_rfl) m5 m6) ?_)
        refine EL.of (EO.Y (YO.loadEl hS (Kd.int .u8) b5 a2 a0 (Rd.ro 0 rfl) 0 (encI .u8) encI_of (IntKind.i64.wrap (a8 + 2)) m5 m6 5 1 0 1 rfl (ig (a0.getD (IntKind.i64.wrap (a8 + 2)).toNat 0)) 68 (by kernel_rfl) (by kernel_rfl) (by kernel_rfl) (by kernel_rfl)) ?_)
        refine EL.quick 2 [0, 1, 2, 3, 4, 11, 12, 13, 14, 15, 63, 70] [(0, sv (some b5) a2 a0), (1, ia a4), (2, ia a3), (3, ia a5), (4, .bool (a6)), (11, sv a9 b0 a7), (12, ia a1), (13, sv b8 b9 b4), (14, ia a8), (15, sv c2 c3 b6), (63, sv b8 b9 b4), (70, ia (IntKind.i64.wrap (Int.tmod (a0.getD (IntKind.i64.wrap (a8 + 2)).toNat 0) 4)))] (by kernel_rfl) ?_
        obtain ⟨f9, e6, q8, H⟩ := b2_out H
        have hq := confidantseat_in.calls q8 hS
        refine EL.of (EO.callD 41 [ia 12, ia (IntKind.i64.wrap (Int.tmod (a0.getD (IntKind.i64.wrap (a8 + 2)).toNat 0) 4))] _ 71 (by kernel_rfl) (by kernel_rfl) (by kernel_rfl) hq ?_)
        rintro v w ⟨rfl, hS⟩
        refine EL.quick 6 [0, 1, 2, 3, 4, 11, 12, 14, 15, 63, 71, 77] [(0, sv (some b5) a2 a0), (1, ia a4), (2, ia a3), (3, ia a5), (4, .bool (a6)), (11, sv a9 b0 a7), (12, ia a1), (14, ia a8), (15, sv c2 c3 b6), (63, sv b8 b9 b4), (71, ag [ia f9, ib e6]), (77, ia (IntKind.i64.wrap ((IntKind.i64.wrap ((b4.length : Int) + 2)) + (b6.length : Int))))] (by kernel_rfl) ?_
        obtain ⟨g0, e7, q9, H⟩ := b2_out H
        have hq := confidantseat_in.calls q9 hS
        refine EL.of (EO.callD 41 [ia 11, ia (IntKind.i64.wrap ((IntKind.i64.wrap ((b4.length : Int) + 2)) + (b6.length : Int)))] _ 78 (by kernel_rfl) (by kernel_rfl) (by kernel_rfl) hq ?_)
        rintro v w ⟨rfl, hS⟩
        obtain ⟨g8, p6, H⟩ := lt_out H
        refine EL.of (EO.lit hS kS32 32 29 2 #[(0, ag [ia f9, ib e6]), (1, ag [ia g0, ib e7])] [ia f9, ib e6, ia g0, ib e7] g8 79 (by kernel_rfl) (by kernel_rfl) (by kernel_rfl) (fun _ => (by kernel_rfl)) (by rw [p6]; rfl) (by kernel_rfl) (fun w G hr => (by rw [p6]; exact ⟨[ia f9, ib e6], [ia g0, ib e7], rfl, ⟨[ia f9], [ib e6], rfl, rfl, ⟨[ib e6], [], rfl, rfl, rfl⟩⟩, ⟨[ia g0, ib e7], [], rfl, ⟨[ia g0], [ib e7], rfl, rfl, ⟨[ib e7], [], rfl, rfl, rfl⟩⟩, rfl⟩⟩)) ?_)
        intro p2 w hS
        obtain ⟨q1, H⟩ := ite_in H
        obtain ⟨f4, u7, H⟩ := lt_out H
        refine EL.of (EO.append hS 29 29 32 16 3 kS32 b8 b9 b4 rfl (some ⟨p2, 0, none⟩) 2 g8 (Rd.own 0 32 rfl) f4 u7 (fun i7 j3 => Ass.own 32 kS32 (some ⟨p2, 0, none⟩) 2 g8 :: Ass.own 32 kS32 c2 c3 b6 :: Ass.own 29 (Kd.slice kS32) a9 b0 a7 :: Ass.own 32 kS32 i7 j3 f4 :: os) 80 (by kernel_rfl) (by kernel_rfl) (by kernel_rfl) (by kernel_rfl) q1 (fun _ _ => rfl) ?_)
        intro i7 j3 w hS
        refine EL.quick 1 [0, 1, 2, 3, 4, 11, 12, 13, 14, 15] [(0, sv (some b5) a2 a0), (1, ia a4), (2, ia a3), (3, ia a5), (4, .bool (a6)), (11, sv a9 b0 a7), (12, ia a1), (13, sv i7 j3 f4), (14, ia a8), (15, sv c2 c3 b6)] (by kernel_rfl) ?_
        refine EL.done (by kernel_rfl) ?_
        refine EQ.to ?_
        refine EQ.keep [0, 1, 2, 3, 4, 11, 12, 13, 14, 15] [(0, sv (some b5) a2 a0), (1, ia a4), (2, ia a3), (3, ia a5), (4, .bool (a6)), (11, sv a9 b0 a7), (12, ia a1), (13, sv i7 j3 f4), (14, ia a8), (15, sv c2 c3 b6)] (by kernel_rfl) ?_
        exact fun a ha => ⟨f4, i7, j3, ha, (hS.re [3, 3, 3] [3] rfl (sub_cons 0 rfl (sub_tail (sub_self)))), H⟩
       rw [if_neg n8] at H
       refine EW.skip (by kernel_rfl) ?_
       refine EQ.to ?_
       refine EQ.keep [0, 1, 2, 3, 4, 11, 12, 13, 14, 15] [(0, sv (some b5) a2 a0), (1, ia a4), (2, ia a3), (3, ia a5), (4, .bool (a6)), (11, sv a9 b0 a7), (12, ia a1), (13, sv b8 b9 b4), (14, ia a8), (15, sv c2 c3 b6)] (by kernel_rfl) ?_
       exact fun a ha => ⟨b4, b8, b9, ha, (hS.re [2, 2, 2] [] rfl (sub_cons 0 rfl (sub_tail (sub_self)))), H⟩
      obtain ⟨e4, i6, j2, ha, hS, H⟩ := hI
      rw [u4] at H
      (try dsimp only at H)
      refine EW.at ?_ a ha
      clear ha a
      refine EW.sq (by kernel_rfl) ?_
      refine EW.rg (by kernel_rfl) ?_
      refine EL.quick 2 [0, 1, 2, 3, 4, 11, 12, 14, 15, 81, 82] [(0, sv (some b5) a2 a0), (1, ia a4), (2, ia a3), (3, ia a5), (4, .bool (a6)), (11, sv a9 b0 a7), (12, ia a1), (14, ia a8), (15, sv c2 c3 b6), (81, sv i6 j2 e4), (82, sv c2 c3 b6)] (by kernel_rfl) ?_
      obtain ⟨q2, H⟩ := ite_in H
      obtain ⟨c4, u9, H⟩ := lt_out H
      refine EL.of (EO.append hS 29 29 32 16 2 kS32 i6 j2 e4 rfl c2 c3 b6 (Rd.own 0 32 rfl) c4 u9 (fun c5 c6 => Ass.own 32 kS32 c2 c3 b6 :: Ass.own 29 (Kd.slice kS32) a9 b0 a7 :: Ass.own 32 kS32 c5 c6 c4 :: os) 83 (by kernel_rfl) (by kernel_rfl) (by kernel_rfl) (by kernel_rfl) q2 (fun _ _ => rfl) ?_)
      intro c5 c6 w hS
      refine EL.quick 1 [0, 1, 2, 3, 4, 11, 12, 13, 14, 15] [(0, sv (some b5) a2 a0), (1, ia a4), (2, ia a3), (3, ia a5), (4, .bool (a6)), (11, sv a9 b0 a7), (12, ia a1), (13, sv c5 c6 c4), (14, ia a8), (15, sv c2 c3 b6)] (by kernel_rfl) ?_
      refine EL.done (by kernel_rfl) ?_
      refine EQ.code ?_
      refine EW.sq (by kernel_rfl) ?_
      refine EW.rg (by kernel_rfl) ?_
      refine EL.quick 2 [0, 1, 2, 3, 4, 11, 12, 13, 14, 15, 84, 85] [(0, sv (some b5) a2 a0), (1, ia a4), (2, ia a3), (3, ia a5), (4, .bool (a6)), (11, sv a9 b0 a7), (12, ia a1), (13, sv c5 c6 c4), (14, ia a8), (15, sv c2 c3 b6), (84, sv (some b5) a2 a0), (85, ia a8)] (by kernel_rfl) ?_
      refine EL.of (EO.Y (YO.idx 25 1 b5 a0.length a2 .i64 a8 86 (by kernel_rfl) (by kernel_rfl) (by kernel_rfl) (by kernel_rfl) j9 m0) ?_)
      refine EL.of (EO.Y (YO.loadEl hS (Kd.int .u8) b5 a2 a0 (Rd.ro 0 rfl) 0 (encI .u8) encI_of a8 j9 m0 5 1 0 1 rfl (ig (a0.getD a8.toNat 0)) 87 (by kernel_rfl) (by kernel_rfl) (by kernel_rfl) (by kernel_rfl)) ?_)
      refine EL.quick 2 [0, 1, 2, 3, 4, 11, 12, 13, 14, 15, 89] [(0, sv (some b5) a2 a0), (1, ia a4), (2, ia a3), (3, ia a5), (4, .bool (a6)), (11, sv a9 b0 a7), (12, ia a1), (13, sv c5 c6 c4), (14, ia a8), (15, sv c2 c3 b6), (89, .bool (decide ((Int.tmod (a0.getD a8.toNat 0) 16) = 14)))] (by kernel_rfl) ?_
      refine EL.done (by kernel_rfl) ?_
      refine EQ.code ?_
      refine EW.cdP ((Int.tmod (a0.getD a8.toNat 0) 16) = 14) (by kernel_rfl) (by kernel_rfl) (fun n9 => ?_) (fun n9 => ?_)
      ·rw [if_pos n9] at H
       refine EW.rg (by kernel_rfl) ?_
       refine EL.quick 1 [0, 1, 2, 3, 4, 11, 12, 13, 14, 15, 90] [(0, sv (some b5) a2 a0), (1, ia a4), (2, ia a3), (3, ia a5), (4, .bool (a6)), (11, sv a9 b0 a7), (12, ia a1), (13, sv c5 c6 c4), (14, ia a8), (15, sv c2 c3 b6), (90, sv c5 c6 c4)] (by kernel_rfl) ?_
       obtain ⟨e8, e0, t0, H⟩ := b2_out H
       have hq := confidantseat_in.calls t0 hS
       refine EL.of (EO.callD 41 [ia 12, ia 1] _ 91 (by kernel_rfl) (by kernel_rfl) (by kernel_rfl) hq ?_)
       rintro v w ⟨rfl, hS⟩
       obtain ⟨e1, d7, t1, H⟩ := b2_out H
       have hq := confidantseat_in.calls t1 hS
       refine EL.of (EO.callD 41 [ia 1, ia 1] _ 92 (by kernel_rfl) (by kernel_rfl) (by kernel_rfl) hq ?_)
       rintro v w ⟨rfl, hS⟩
       obtain ⟨d8, d5, t2, H⟩ := b2_out H
       have hq := confidantseat_in.calls t2 hS
       refine EL.of (EO.callD 41 [ia 5, ia 0] _ 93 (by kernel_rfl) (by kernel_rfl) (by kernel_rfl) hq ?_)
       rintro v w ⟨rfl, hS⟩
       obtain ⟨d6, d0, t3, H⟩ := b2_out H
       have hq := confidantseat_in.calls t3 hS
       refine EL.of (EO.callD 41 [ia 13, ia 1] _ 94 (by kernel_rfl) (by kernel_rfl) (by kernel_rfl) hq ?_)
       rintro v w ⟨rfl, hS⟩
       obtain ⟨d1, c7, t4, H⟩ := b2_out H
       have hq := confidantseat_in.calls t4 hS
       refine EL.of (EO.callD 41 [ia 12, ia 1] _ 95 (by kernel_rfl) (by kernel_rfl) (by kernel_rfl) hq ?_)
       rintro v w ⟨rfl, hS⟩
       refine EL.quick 3 [0, 1, 2, 3, 4, 11, 12, 13, 14, 15, 90, 91, 92, 93, 94, 95, 98] [(0, sv (some b5) a2 a0), (1, ia a4), (2, ia a3), (3, ia a5), (4, .bool (a6)), (11, sv a9 b0 a7), (12, ia a1), (13, sv c5 c6 c4), (14, ia a8), (15, sv c2 c3 b6), (90, sv c5 c6 c4), (91, ag [ia e8, ib e0]), (92, ag [ia e1, ib d7]), (93, ag [ia d8, ib d5]), (94, ag [ia d6, ib d0]), (95, ag [ia d1, ib c7]), (98, ia (IntKind.i64.wrap ((c4.length : Int) + 7)))] (by kernel_rfl) ?_
       obtain ⟨d2, c8, t5, H⟩ := b2_out H
       have hq := confidantseat_in.calls t5 hS
       refine EL.of (EO.callD 41 [ia 11, ia (IntKind.i64.wrap ((c4.length : Int) + 7))] _ 99 (by kernel_rfl) (by kernel_rfl) (by kernel_rfl) hq ?_)
       rintro v w ⟨rfl, hS⟩
       refine EL.quick 7 [0, 1, 2, 3, 4, 11, 12, 14, 90, 91, 92, 93, 94, 95, 99, 106] [(0, sv (some b5) a2 a0), (1, ia a4), (2, ia a3), (3, ia a5), (4, .bool (a6)), (11, sv a9 b0 a7), (12, ia a1), (14, ia a8), (90, sv c5 c6 c4), (91, ag [ia e8, ib e0]), (92, ag [ia e1, ib d7]), (93, ag [ia d8, ib d5]), (94, ag [ia d6, ib d0]), (95, ag [ia d1, ib c7]), (99, ag [ia d2, ib c8]), (106, ia (mx (IntKind.i64.wrap ((IntKind.i64.wrap ((c4.length : Int) - (b6.length : Int))) + 2)) 0))] (by kernel_rfl) ?_
       obtain ⟨d3, c9, t6, H⟩ := b2_out H
       have hq := confidantseat_in.calls t6 hS
       refine EL.of (EO.callD 41 [ia 10, ia (mx (IntKind.i64.wrap ((IntKind.i64.wrap ((c4.length : Int) - (b6.length : Int))) + 2)) 0)] _ 107 (by kernel_rfl) (by kernel_rfl) (by kernel_rfl) hq ?_)
       rintro v w ⟨rfl, hS⟩
       obtain ⟨g9, p7, H⟩ := lt_out H
       refine EL.of (EO.lit hS kS32 32 29 7 #[(0, ag [ia e8, ib e0]), (1, ag [ia e1, ib d7]), (2, ag [ia d8, ib d5]), (3, ag [ia d6, ib d0]), (4, ag [ia d1, ib c7]), (5, ag [ia d2, ib c8]), (6, ag [ia d3, ib c9])] [ia e8, ib e0, ia e1, ib d7, ia d8, ib d5, ia d6, ib d0, ia d1, ib c7, ia d2, ib c8, ia d3, ib c9] g9 108 (by kernel_rfl) (by kernel_rfl) (by kernel_rfl) (fun _ => (by kernel_rfl)) (by rw [p7]; rfl) (by kernel_rfl) (fun w G hr => (by rw [p7]; exact ⟨[ia e8, ib e0], [ia e1, ib d7, ia d8, ib d5, ia d6, ib d0, ia d1, ib c7, ia d2, ib c8, ia d3, ib c9], rfl, ⟨[ia e8], [ib e0], rfl, rfl, ⟨[ib e0], [], rfl, rfl, rfl⟩⟩, ⟨[ia e1, ib d7], [ia d8, ib d5, ia d6, ib d0, ia d1, ib c7, ia d2, ib c8, ia d3, ib c9], rfl, ⟨[ia e1], [ib d7], rfl, rfl, ⟨[ib d7], [], rfl, rfl, rfl⟩⟩, ⟨[ia d8, ib d5], [ia d6, ib d0, ia d1, ib c7, ia d2, ib c8, ia d3, ib c9], rfl, ⟨[ia d8], [ib d5], rfl, rfl, ⟨[ib d5], [], rfl, rfl, rfl⟩⟩, ⟨[ia d6, ib d0], [ia d1, ib c7, ia d2, ib c8, ia d3, ib c9], rfl, ⟨[ia d6], [ib d0], rfl, rfl, ⟨[ib d0], [], rfl, rfl, rfl⟩⟩, ⟨[ia d1, ib c7], [ia d2, ib c8, ia d3, ib c9], rfl, ⟨[ia d1], [ib c7], rfl, rfl, ⟨[ib c7], [], rfl, rfl, rfl⟩⟩, ⟨[ia d2, ib c8], [ia d3, ib c9], rfl, ⟨[ia d2], [ib c8], rfl, rfl, ⟨[ib c8], [], rfl, rfl, rfl⟩⟩, ⟨[ia d3, ib c9], [], rfl, ⟨[ia d3], [ib c9], rfl, rfl, ⟨[ib c9], [], rfl, rfl, rfl⟩⟩, rfl⟩⟩⟩⟩⟩⟩⟩)) ?_)
       intro p3 w hS
       obtain ⟨q3, H⟩ := ite_in H
       obtain ⟨f5, v0, H⟩ := lt_out H
       refine EL.of (EO.append hS 29 29 32 16 3 kS32 c5 c6 c4 rfl (some ⟨p3, 0, none⟩) 7 g9 (Rd.own 0 32 rfl) f5 v0 (fun i8 j4 => Ass.own 32 kS32 (some ⟨p3, 0, none⟩) 7 g9 :: Ass.own 32 kS32 c2 c3 b6 :: Ass.own 29 (Kd.slice kS32) a9 b0 a7 :: Ass.own 32 kS32 i8 j4 f5 :: os) 109 (by kernel_rfl) (by kernel_rfl) (by kernel_rfl) (by kernel_rfl) q3 (fun _ _ => rfl) ?_)
       intro i8 j4 w hS
       refine EL.quick 1 [0, 1, 2, 3, 4, 11, 12, 13, 14] [(0, sv (some b5) a2 a0), (1, ia a4), (2, ia a3), (3, ia a5), (4, .bool (a6)), (11, sv a9 b0 a7), (12, ia a1), (13, sv i8 j4 f5), (14, ia a8)] (by kernel_rfl) ?_
       refine EL.done (by kernel_rfl) ?_
       refine EQ.pop ?_
       refine EQ.to ?_
       refine EQ.keep [0, 1, 2, 3, 4, 11, 12, 13, 14] [(0, sv (some b5) a2 a0), (1, ia a4), (2, ia a3), (3, ia a5), (4, .bool (a6)), (11, sv a9 b0 a7), (12, ia a1), (13, sv i8 j4 f5), (14, ia a8)] (by kernel_rfl) ?_
       exact fun a ha => ⟨b6, f5, c2, c3, i8, j4, ha, (hS.re [3, 3, 3] [3] rfl (sub_cons 0 rfl (sub_tail (sub_self)))), H⟩
      rw [if_neg n9] at H
      refine EW.skip (by kernel_rfl) ?_
      refine EQ.pop ?_
      refine EQ.to ?_
      refine EQ.keep [0, 1, 2, 3, 4, 11, 12, 13, 14] [(0, sv (some b5) a2 a0), (1, ia a4), (2, ia a3), (3, ia a5), (4, .bool (a6)), (11, sv a9 b0 a7), (12, ia a1), (13, sv c5 c6 c4), (14, ia a8)] (by kernel_rfl) ?_
      exact fun a ha => ⟨b6, c4, c2, c3, c5, c6, ha, (hS.re [2, 2, 2] [] rfl (sub_cons 0 rfl (sub_tail (sub_self)))), H⟩
     obtain ⟨n4, e3, o7, p0, g5, g7, ha, hS, H⟩ := hI
     rw [u3] at H
     (try dsimp only at H)
     refine EW.at ?_ a ha
     clear ha a
     refine EW.rg (by kernel_rfl) ?_
     refine EL.quick 5 [0, 1, 2, 3, 4, 11, 12, 13, 14] [(0, sv b3 a2 a0), (1, ia a4), (2, ia a3), (3, ia a5), (4, .bool (a6)), (11, sv a9 b0 a7), (12, ia a1), (13, sv g5 g7 e3), (14, ia (IntKind.i64.wrap (a8 + (IntKind.i64.wrap (3 * a3)))))] (by kernel_rfl) ?_
     refine EL.done (by kernel_rfl) ?_
     refine EQ.to ?_
     refine EQ.keep [0, 1, 2, 3, 4, 11, 12, 13, 14] [(0, sv b3 a2 a0), (1, ia a4), (2, ia a3), (3, ia a5), (4, .bool (a6)), (11, sv a9 b0 a7), (12, ia a1), (13, sv g5 g7 e3), (14, ia (IntKind.i64.wrap (a8 + (IntKind.i64.wrap (3 * a3)))))] (by kernel_rfl) ?_
     exact fun a ha => ⟨n, Nat.lt_succ_self n, e3, IntKind.i64.wrap (a8 + (IntKind.i64.wrap (3 * a3))), g5, g7, ha, (hS.re [2, 2] [2] rfl (sub_cons 0 rfl (sub_tail (sub_self)))), H⟩
    rw [if_neg n7] at H
    refine EW.exit (id := 2) (by kernel_rfl) ?_
    refine EQ.exitCode ?_
    refine EQ.exitTo ?_
    refine EQ.exitHere ?_
    refine EQ.to ?_
    refine EQ.keep [0, 1, 2, 3, 4, 11, 12, 13] [(0, sv b3 a2 a0), (1, ia a4), (2, ia a3), (3, ia a5), (4, .bool (a6)), (11, sv a9 b0 a7), (12, ia a1), (13, sv b8 b9 b4)] (by kernel_rfl) ?_
    exact fun a ha => ⟨b4, b8, b9, ha, (hS.re [1, 1] [] rfl (sub_cons 0 rfl (sub_tail (sub_self)))), H⟩
   obtain ⟨b7, c0, c1, ha, hS, H⟩ := hI
   rw [u1] at H
   (try dsimp only at H)
   refine EW.at ?_ a ha
   clear ha a
   obtain ⟨n2, u5, H⟩ := lt_out H
   refine EW.ct (fun a w => ∃ d9 : List S32, ∃ f0 : Option Addr, ∃ f1 : Nat, Sat 149 [(0, sv b3 a2 a0), (1, ia a4), (2, ia a3), (3, ia a5), (4, .bool (a6)), (11, sv a9 b0 a7), (12, ia a1), (13, sv f0 f1 d9)] a ∧ St B w (Ass.own 29 (Kd.slice kS32) a9 b0 a7 :: Ass.own 32 kS32 f0 f1 d9 :: os) (Ro.sl (Kd.int .u8) b3 a2 a0 :: rs) ∧ n2 d9 = some d4) (by kernel_rfl) ?_ (fun a w hI => ?_)
   ·obtain ⟨m1, u6, H⟩ := lt_out H
    refine EW.ct (fun a w => ∃ i5 : Bool, Sat 149 [(0, sv b3 a2 a0), (1, ia a4), (2, ia a3), (3, ia a5), (4, .bool (a6)), (11, sv a9 b0 a7), (12, ia a1), (13, sv c0 c1 b7), (126, .bool (i5))] a ∧ St B w (Ass.own 29 (Kd.slice kS32) a9 b0 a7 :: Ass.own 32 kS32 c0 c1 b7 :: os) (Ro.sl (Kd.int .u8) b3 a2 a0 :: rs) ∧ m1 i5 = some d4) (by kernel_rfl) ?_ (fun a w hI => ?_)
    ·refine EW.rg (by kernel_rfl) ?_
     refine EL.quick 4 [0, 1, 2, 3, 4, 11, 12, 13, 113] [(0, sv b3 a2 a0), (1, ia a4), (2, ia a3), (3, ia a5), (4, .bool (a6)), (11, sv a9 b0 a7), (12, ia a1), (13, sv c0 c1 b7), (113, .bool (decide ((Int.tmod a1 3) = 2)))] (by kernel_rfl) ?_
     by_cases m7 : (Int.tmod a1 3) = 2
     ·rw [if_pos m7] at H
      refine EL.keep [0, 1, 2, 3, 4, 11, 12, 13, 113] [(0, sv b3 a2 a0), (1, ia a4), (2, ia a3), (3, ia a5), (4, .bool (a6)), (11, sv a9 b0 a7), (12, ia a1), (13, sv c0 c1 b7), (113, .bool (decide ((Int.tmod a1 3) = 2)))] (by kernel_rfl) ?_
      refine EL.as' [(0, sv b3 a2 a0), (1, ia a4), (2, ia a3), (3, ia a5), (4, .bool (a6)), (11, sv a9 b0 a7), (12, ia a1), (13, sv c0 c1 b7), (113, .bool (true))] (by simp only [sv, dec_t m7, Bool.not_true, Bool.not_false]) ?_
      refine EL.quick 6 [0, 1, 2, 3, 4, 11, 12, 13, 114, 115, 116, 117, 119] [(0, sv b3 a2 a0), (1, ia a4), (2, ia a3), (3, ia a5), (4, .bool (a6)), (11, sv a9 b0 a7), (12, ia a1), (13, sv c0 c1 b7), (114, sv b3 a2 a0), (115, ia (a0.length : Int)), (116, ia a1), (117, .bool (decide ((a0.length : Int) > a1))), (119, .bool (decide ((a0.length : Int) > a1)))] (by kernel_rfl) ?_
      by_cases m8 : (a0.length : Int) > a1
      ·rw [if_pos m8] at H
       refine EL.keep [0, 1, 2, 3, 4, 11, 12, 13, 114, 115, 116, 117, 119] [(0, sv b3 a2 a0), (1, ia a4), (2, ia a3), (3, ia a5), (4, .bool (a6)), (11, sv a9 b0 a7), (12, ia a1), (13, sv c0 c1 b7), (114, sv b3 a2 a0), (115, ia (a0.length : Int)), (116, ia a1), (117, .bool (decide ((a0.length : Int) > a1))), (119, .bool (decide ((a0.length : Int) > a1)))] (by kernel_rfl) ?_
       refine EL.as' [(0, sv b3 a2 a0), (1, ia a4), (2, ia a3), (3, ia a5), (4, .bool (a6)), (11, sv a9 b0 a7), (12, ia a1), (13, sv c0 c1 b7), (114, sv b3 a2 a0), (115, ia (a0.length : Int)), (116, ia a1), (117, .bool (true)), (119, .bool (true))] (by simp only [sv, dec_t m8, Bool.not_true, Bool.not_false]) ?_
       refine EL.quick 2 [0, 1, 2, 3, 4, 11, 12, 13, 114, 115, 116, 117, 119, 120, 121] [(0, sv b3 a2 a0), (1, ia a4), (2, ia a3), (3, ia a5), (4, .bool (a6)), (11, sv a9 b0 a7), (12, ia a1), (13, sv c0 c1 b7), (114, sv b3 a2 a0), (115, ia (a0.length : Int)), (116, ia a1), (117, .bool (true)), (119, .bool (true)), (120, sv b3 a2 a0), (121, ia a1)] (by kernel_rfl) ?_
       obtain ⟨o0, H⟩ := ite_in H
       obtain ⟨o1, H⟩ := ite_in H
       obtain ⟨f2, rfl⟩ := St.rd_some hS (Rd.ro 0 rfl) o0 o1
       refine EL.of (EO.Y (YO.idx 25 1 f2 a0.length a2 .i64 a1 122 (by kernel_rfl) (by kernel_rfl) (by kernel_rfl) (by kernel_rfl) o0 o1) ?_)
       refine EL.of (EO.Y (YO.loadEl hS (Kd.int .u8) f2 a2 a0 (Rd.ro 0 rfl) 0 (encI .u8) encI_of a1 o0 o1 5 1 0 1 rfl (ig (a0.getD a1.toNat 0)) 123 (by kernel_rfl) (by kernel_rfl) (by kernel_rfl) (by kernel_rfl)) ?_)
       refine EL.quick 3 [0, 1, 2, 3, 4, 11, 12, 13, 114, 115, 116, 117, 120, 121, 122, 123, 124, 125, 126] [(0, sv (some f2) a2 a0), (1, ia a4), (2, ia a3), (3, ia a5), (4, .bool (a6)), (11, sv a9 b0 a7), (12, ia a1), (13, sv c0 c1 b7), (114, sv (some f2) a2 a0), (115, ia (a0.length : Int)), (116, ia a1), (117, .bool (true)), (120, sv (some f2) a2 a0), (121, ia a1), (122, .pointer (some ((f2.add (a1.toNat * 1)).add 0))), (123, ig (a0.getD a1.toNat 0)), (124, ig (Int.tmod (a0.getD a1.toNat 0) 8)), (125, .bool (decide ((Int.tmod (a0.getD a1.toNat 0) 8) = 0))), (126, .bool (decide ((Int.tmod (a0.getD a1.toNat 0) 8) = 0)))] (by kernel_rfl) ?_
       refine EL.done (by kernel_rfl) ?_
       refine EQ.to ?_
       refine EQ.keep [0, 1, 2, 3, 4, 11, 12, 13, 126] [(0, sv (some f2) a2 a0), (1, ia a4), (2, ia a3), (3, ia a5), (4, .bool (a6)), (11, sv a9 b0 a7), (12, ia a1), (13, sv c0 c1 b7), (126, .bool (decide ((Int.tmod (a0.getD a1.toNat 0) 8) = 0)))] (by kernel_rfl) ?_
       exact fun a ha => ⟨decide ((Int.tmod (a0.getD a1.toNat 0) 8) = 0), ha, (hS.re [1, 1] [] rfl (sub_cons 0 rfl (sub_tail (sub_self)))), H⟩
      rw [if_neg m8] at H
      refine EL.keep [0, 1, 2, 3, 4, 11, 12, 13, 114, 115, 116, 117, 119] [(0, sv b3 a2 a0), (1, ia a4), (2, ia a3), (3, ia a5), (4, .bool (a6)), (11, sv a9 b0 a7), (12, ia a1), (13, sv c0 c1 b7), (114, sv b3 a2 a0), (115, ia (a0.length : Int)), (116, ia a1), (117, .bool (decide ((a0.length : Int) > a1))), (119, .bool (decide ((a0.length : Int) > a1)))] (by kernel_rfl) ?_
      refine EL.as' [(0, sv b3 a2 a0), (1, ia a4), (2, ia a3), (3, ia a5), (4, .bool (a6)), (11, sv a9 b0 a7), (12, ia a1), (13, sv c0 c1 b7), (114, sv b3 a2 a0), (115, ia (a0.length : Int)), (116, ia a1), (117, .bool (false)), (119, .bool (false))] (by simp only [sv, dec_f m8, Bool.not_true, Bool.not_false]) ?_
      refine EL.quick 7 [0, 1, 2, 3, 4, 11, 12, 13, 114, 115, 116, 117, 126] [(0, sv b3 a2 a0), (1, ia a4), (2, ia a3), (3, ia a5), (4, .bool (a6)), (11, sv a9 b0 a7), (12, ia a1), (13, sv c0 c1 b7), (114, sv b3 a2 a0), (115, ia (a0.length : Int)), (116, ia a1), (117, .bool (false)), (126, .bool (false))] (by kernel_rfl) ?_
      refine EL.done (by kernel_rfl) ?_
      refine EQ.to ?_
      refine EQ.keep [0, 1, 2, 3, 4, 11, 12, 13, 126] [(0, sv b3 a2 a0), (1, ia a4), (2, ia a3), (3, ia a5), (4, .bool (a6)), (11, sv a9 b0 a7), (12, ia a1), (13, sv c0 c1 b7), (126, .bool (false))] (by kernel_rfl) ?_
      exact fun a ha => ⟨false, ha, (hS.re [1, 1] [] rfl (sub_cons 0 rfl (sub_tail (sub_self)))), H⟩
     rw [if_neg m7] at H
     refine EL.keep [0, 1, 2, 3, 4, 11, 12, 13, 113] [(0, sv b3 a2 a0), (1, ia a4), (2, ia a3), (3, ia a5), (4, .bool (a6)), (11, sv a9 b0 a7), (12, ia a1), (13, sv c0 c1 b7), (113, .bool (decide ((Int.tmod a1 3) = 2)))] (by kernel_rfl) ?_
     refine EL.as' [(0, sv b3 a2 a0), (1, ia a4), (2, ia a3), (3, ia a5), (4, .bool (a6)), (11, sv a9 b0 a7), (12, ia a1), (13, sv c0 c1 b7), (113, .bool (false))] (by simp only [sv, dec_f m7, Bool.not_true, Bool.not_false]) ?_
     refine EL.quick 13 [0, 1, 2, 3, 4, 11, 12, 13, 126] [(0, sv b3 a2 a0), (1, ia a4), (2, ia a3), (3, ia a5), (4, .bool (a6)), (11, sv a9 b0 a7), (12, ia a1), (13, sv c0 c1 b7), (126, .bool (false))] (by kernel_rfl) ?_
     refine EL.done (by kernel_rfl) ?_
     refine EQ.to ?_
     refine EQ.keep [0, 1, 2, 3, 4, 11, 12, 13, 126] [(0, sv b3 a2 a0), (1, ia a4), (2, ia a3), (3, ia a5), (4, .bool (a6)), (11, sv a9 b0 a7), (12, ia a1), (13, sv c0 c1 b7), (126, .bool (false))] (by kernel_rfl) ?_
     exact fun a ha => ⟨false, ha, (hS.re [1, 1] [] rfl (sub_cons 0 rfl (sub_tail (sub_self)))), H⟩
    obtain ⟨i5, ha, hS, H⟩ := hI
    rw [u6] at H
    (try dsimp only at H)
    refine EW.at ?_ a ha
    clear ha a
    refine EW.cdP' (i5) (by kernel_rfl) (by kernel_rfl) (fun o2 => ?_) (fun o2 => ?_)
    ·rw [if_pos o2] at H
     refine EW.rg (by kernel_rfl) ?_
     refine EL.quick 3 [0, 1, 2, 3, 4, 11, 12, 127, 128, 129] [(0, sv b3 a2 a0), (1, ia a4), (2, ia a3), (3, ia a5), (4, .bool (a6)), (11, sv a9 b0 a7), (12, ia a1), (127, sv c0 c1 b7), (128, sv b3 a2 a0), (129, ia a1)] (by kernel_rfl) ?_
     obtain ⟨o3, H⟩ := ite_in H
     obtain ⟨o4, H⟩ := ite_in H
     obtain ⟨j8, rfl⟩ := St.rd_some hS (Rd.ro 0 rfl) o3 o4
     refine EL.of (EO.Y (YO.idx 25 1 j8 a0.length a2 .i64 a1 130 (by kernel_rfl) (by kernel_rfl) (by kernel_rfl) (by kernel_rfl) o3 o4) ?_)
     refine EL.of (EO.Y (YO.loadEl hS (Kd.int .u8) j8 a2 a0 (Rd.ro 0 rfl) 0 (encI .u8) encI_of a1 o3 o4 5 1 0 1 rfl (ig (a0.getD a1.toNat 0)) 131 (by kernel_rfl) (by kernel_rfl) (by kernel_rfl) (by kernel_rfl)) ?_)
     refine EL.quick 2 [0, 1, 2, 3, 4, 11, 12, 127, 133] [(0, sv (some j8) a2 a0), (1, ia a4), (2, ia a3), (3, ia a5), (4, .bool (a6)), (11, sv a9 b0 a7), (12, ia a1), (127, sv c0 c1 b7), (133, ia (IntKind.i64.wrap (IntKind.u8.wrap (Int.tdiv (a0.getD a1.toNat 0) 8))))] (by kernel_rfl) ?_
     obtain ⟨i2, g1, t7, H⟩ := b2_out H
     have hq := confidantseat_in.calls t7 hS
     refine EL.of (EO.callD 41 [ia 26, ia (IntKind.i64.wrap (IntKind.u8.wrap (Int.tdiv (a0.getD a1.toNat 0) 8)))] _ 134 (by kernel_rfl) (by kernel_rfl) (by kernel_rfl) hq ?_)
     rintro v w ⟨rfl, hS⟩
     obtain ⟨i0, p8, H⟩ := lt_out H
     refine EL.of (EO.lit hS kS32 32 29 1 #[(0, ag [ia i2, ib g1])] [ia i2, ib g1] i0 135 (by kernel_rfl) (by kernel_rfl) (by kernel_rfl) (fun _ => (by kernel_rfl)) (by rw [p8]; rfl) (by kernel_rfl) (fun w G hr => (by rw [p8]; exact ⟨[ia i2, ib g1], [], rfl, ⟨[ia i2], [ib g1], rfl, rfl, ⟨[ib g1], [], rfl, rfl, rfl⟩⟩, rfl⟩)) ?_)
     intro p4 w hS
     obtain ⟨q4, H⟩ := ite_in H
     obtain ⟨f6, v1, H⟩ := lt_out H
     refine EL.of (EO.append hS 29 29 32 16 2 kS32 c0 c1 b7 rfl (some ⟨p4, 0, none⟩) 1 i0 (Rd.own 0 32 rfl) f6 v1 (fun i9 j5 => Ass.own 32 kS32 (some ⟨p4, 0, none⟩) 1 i0 :: Ass.own 29 (Kd.slice kS32) a9 b0 a7 :: Ass.own 32 kS32 i9 j5 f6 :: os) 136 (by kernel_rfl) (by kernel_rfl) (by kernel_rfl) (by kernel_rfl) q4 (fun _ _ => rfl) ?_)
     intro i9 j5 w hS
     refine EL.quick 1 [0, 1, 2, 3, 4, 11, 12, 13] [(0, sv (some j8) a2 a0), (1, ia a4), (2, ia a3), (3, ia a5), (4, .bool (a6)), (11, sv a9 b0 a7), (12, ia a1), (13, sv i9 j5 f6)] (by kernel_rfl) ?_
     refine EL.done (by kernel_rfl) ?_
     refine EQ.to ?_
     refine EQ.keep [0, 1, 2, 3, 4, 11, 12, 13] [(0, sv (some j8) a2 a0), (1, ia a4), (2, ia a3), (3, ia a5), (4, .bool (a6)), (11, sv a9 b0 a7), (12, ia a1), (13, sv i9 j5 f6)] (by kernel_rfl) ?_
     exact fun a ha => ⟨f6, i9, j5, ha, (hS.re [2, 2] [2] rfl (sub_cons 0 rfl (sub_tail (sub_self)))), H⟩
    rw [if_neg o2] at H
    refine EW.rg (by kernel_rfl) ?_
    refine EL.quick 3 [0, 1, 2, 3, 4, 11, 12, 137, 139] [(0, sv b3 a2 a0), (1, ia a4), (2, ia a3), (3, ia a5), (4, .bool (a6)), (11, sv a9 b0 a7), (12, ia a1), (137, sv c0 c1 b7), (139, ia (Int.tmod a1 4))] (by kernel_rfl) ?_
    obtain ⟨i3, g2, t8, H⟩ := b2_out H
    have hq := confidantseat_in.calls t8 hS
    refine EL.of (EO.callD 41 [ia 12, ia (Int.tmod a1 4)] _ 140 (by kernel_rfl) (by kernel_rfl) (by kernel_rfl) hq ?_)
    rintro v w ⟨rfl, hS⟩
    obtain ⟨g3, e9, t9, H⟩ := b2_out H
    have hq := confidantseat_in.calls t9 hS
    refine EL.of (EO.callD 41 [ia 25, ia 0] _ 141 (by kernel_rfl) (by kernel_rfl) (by kernel_rfl) hq ?_)
    rintro v w ⟨rfl, hS⟩
    obtain ⟨i1, p9, H⟩ := lt_out H
    refine EL.of (EO.lit hS kS32 32 29 2 #[(0, ag [ia i3, ib g2]), (1, ag [ia g3, ib e9])] [ia i3, ib g2, ia g3, ib e9] i1 142 (by kernel_rfl) (by kernel_rfl) (by kernel_rfl) (fun _ => (by kernel_rfl)) (by rw [p9]; rfl) (by kernel_rfl) (fun w G hr => (by rw [p9]; exact ⟨[ia i3, ib g2], [ia g3, ib e9], rfl, ⟨[ia i3], [ib g2], rfl, rfl, ⟨[ib g2], [], rfl, rfl, rfl⟩⟩, ⟨[ia g3, ib e9], [], rfl, ⟨[ia g3], [ib e9], rfl, rfl, ⟨[ib e9], [], rfl, rfl, rfl⟩⟩, rfl⟩⟩)) ?_)
    intro p5 w hS
    obtain ⟨q5, H⟩ := ite_in H
    obtain ⟨f7, v2, H⟩ := lt_out H
    refine EL.of (EO.append hS 29 29 32 16 2 kS32 c0 c1 b7 rfl (some ⟨p5, 0, none⟩) 2 i1 (Rd.own 0 32 rfl) f7 v2 (fun j0 j6 => Ass.own 32 kS32 (some ⟨p5, 0, none⟩) 2 i1 :: Ass.own 29 (Kd.slice kS32) a9 b0 a7 :: Ass.own 32 kS32 j0 j6 f7 :: os) 143 (by kernel_rfl) (by kernel_rfl) (by kernel_rfl) (by kernel_rfl) q5 (fun _ _ => rfl) ?_)
    intro j0 j6 w hS
    refine EL.quick 1 [0, 1, 2, 3, 4, 11, 12, 13] [(0, sv b3 a2 a0), (1, ia a4), (2, ia a3), (3, ia a5), (4, .bool (a6)), (11, sv a9 b0 a7), (12, ia a1), (13, sv j0 j6 f7)] (by kernel_rfl) ?_
    refine EL.done (by kernel_rfl) ?_
    refine EQ.to ?_
    refine EQ.keep [0, 1, 2, 3, 4, 11, 12, 13] [(0, sv b3 a2 a0), (1, ia a4), (2, ia a3), (3, ia a5), (4, .bool (a6)), (11, sv a9 b0 a7), (12, ia a1), (13, sv j0 j6 f7)] (by kernel_rfl) ?_
    exact fun a ha => ⟨f7, j0, j6, ha, (hS.re [2, 2] [2] rfl (sub_cons 0 rfl (sub_tail (sub_self)))), H⟩
   obtain ⟨d9, f0, f1, ha, hS, H⟩ := hI
   rw [u5] at H
   (try dsimp only at H)
   refine EW.at ?_ a ha
   clear ha a
   refine EW.rg (by kernel_rfl) ?_
   refine EL.quick 2 [0, 1, 2, 3, 4, 12, 144, 145] [(0, sv b3 a2 a0), (1, ia a4), (2, ia a3), (3, ia a5), (4, .bool (a6)), (12, ia a1), (144, sv a9 b0 a7), (145, sv f0 f1 d9)] (by kernel_rfl) ?_
   have hS := St.fr hS 1 rfl
   obtain ⟨e5, q0, H⟩ := lt_out H
   refine EL.of (EO.lit hS (Kd.slice kS32) 29 23 1 #[(0, sv f0 f1 d9)] [sv f0 f1 d9] e5 146 (by kernel_rfl) (by kernel_rfl) (by kernel_rfl) (fun _ => (by kernel_rfl)) (by rw [q0]; rfl) (by kernel_rfl) (fun w G hr => (by rw [q0]; exact ⟨[sv f0 f1 d9], [], rfl, (hr _ (List.mem_of_getElem? (i := 0) rfl)), rfl⟩)) ?_)
   intro n5 w hS
   obtain ⟨q6, H⟩ := ite_in H
   obtain ⟨f8, v3, H⟩ := lt_out H
   refine EL.of (EO.append hS 23 23 29 24 1 (Kd.slice kS32) a9 b0 a7 rfl (some ⟨n5, 0, none⟩) 1 e5 (Rd.own 0 29 rfl) f8 v3 (fun j1 j7 => Ass.own 29 (Kd.slice kS32) (some ⟨n5, 0, none⟩) 1 e5 :: Ass.own 29 (Kd.slice kS32) j1 j7 f8 :: os) 147 (by kernel_rfl) (by kernel_rfl) (by kernel_rfl) (by kernel_rfl) q6 (fun _ _ => rfl) ?_)
   intro j1 j7 w hS
   refine EL.quick 1 [0, 1, 2, 3, 4, 11, 12] [(0, sv b3 a2 a0), (1, ia a4), (2, ia a3), (3, ia a5), (4, .bool (a6)), (11, sv j1 j7 f8), (12, ia a1)] (by kernel_rfl) ?_
   refine EL.done (by kernel_rfl) ?_
   refine EQ.pop ?_
   refine EQ.to ?_
   refine EQ.keep [0, 1, 2, 3, 4, 11, 12] [(0, sv b3 a2 a0), (1, ia a4), (2, ia a3), (3, ia a5), (4, .bool (a6)), (11, sv j1 j7 f8), (12, ia a1)] (by kernel_rfl) ?_
   exact fun a ha => ⟨e5, f8, (some ⟨n5, 0, none⟩), 1, j1, j7, ha, (hS.re [1, 1] [] rfl (sub_cons 1 rfl (sub_tail (sub_tail (sub_self))))), H⟩
  obtain ⟨n3, e2, o6, o9, g4, g6, ha, hS, H⟩ := hI
  rw [u0] at H
  (try dsimp only at H)
  refine EW.at ?_ a ha
  clear ha a
  refine EW.rg (by kernel_rfl) ?_
  refine EL.quick 3 [0, 1, 2, 3, 4, 11, 12] [(0, sv b3 a2 a0), (1, ia a4), (2, ia a3), (3, ia a5), (4, .bool (a6)), (11, sv g4 g6 e2), (12, ia (IntKind.i64.wrap (a1 + 1)))] (by kernel_rfl) ?_
  refine EL.done (by kernel_rfl) ?_
  refine EQ.to ?_
  refine EQ.keep [0, 1, 2, 3, 4, 11, 12] [(0, sv b3 a2 a0), (1, ia a4), (2, ia a3), (3, ia a5), (4, .bool (a6)), (11, sv g4 g6 e2), (12, ia (IntKind.i64.wrap (a1 + 1)))] (by kernel_rfl) ?_
  exact fun a ha => ⟨n, Nat.lt_succ_self n, e2, IntKind.i64.wrap (a1 + 1), g4, g6, ha, (hS.re [1] [1] rfl (sub_cons 0 rfl (sub_tail (sub_self)))), H⟩
 rw [if_neg n6] at H
 refine EW.exit (id := 0) (by kernel_rfl) ?_
 refine EQ.exitCode ?_
 refine EQ.exitTo ?_
 refine EQ.exitHere ?_
 refine EQ.code ?_
 refine EW.sq (by kernel_rfl) ?_
 refine EW.rg (by kernel_rfl) ?_
 refine EL.quick 2 [10] [(10, sv a9 b0 a7)] (by kernel_rfl) ?_
 refine EL.done (by kernel_rfl) ?_
 refine EQ.code ?_
 refine EW.ret (by kernel_rfl) ?_
 obtain rfl := Option.some.inj H
 exact EQ.leave (sv a9 b0 a7) (by kernel_rfl) ⟨_, rfl, a9, b0, rfl, (hS.re [0] [] rfl (sub_self))⟩

/-! ### confidant/confidantref5.Arg: function 24 -/
def confidantref5_Arg.f (K : Nat) (a0 : Int) : Option Int := lt (fun (a3 : Bool) => (if a3 = true then (some 1) else (lt (fun (a4 : Bool) => (if a4 = true then (some 2) else (lt (fun (a5 : Bool) => (if a5 = true then (some 3) else (lt (fun (a6 : Bool) => (if a6 = true then (some 4) else (if a0 = 20 then (some 5) else (lt (fun (a7 : Bool) => (if a7 = true then (some 6) else (some 0))) fun b8 => (if a0 = 23 then (b8 true) else (b8 (decide (a0 = 24)))))))) fun a2 => (if a0 = 15 then (a2 true) else (if a0 = 16 then (a2 true) else (if a0 = 17 then (a2 true) else (a2 (decide (a0 = 22))))))))) fun b7 => (if a0 = 12 then (b7 true) else (b7 (decide (a0 = 13))))))) fun b6 => (if a0 = 10 then (b6 true) else (b6 (decide (a0 = 11))))))) fun b5 => (if a0 = 1 then (b5 true) else (b5 (decide (a0 = 26))))
set_option maxRecDepth 100000 in
theorem confidantref5_Arg.calls {K : Nat} {a0 : Int} {a1 : Int} {B w : World} {os : List Ass} {rs : List Ro} (H : confidantref5_Arg.f K a0 = some a1) (hS : St B w (os) (rs)) :
  Calls Try.prog 24 [ia a0].toArray w (fun en w' => ∃ v, en = .returned v ∧ v = ia a1 ∧ St B w' (os) (rs)) := by
 unfold confidantref5_Arg.f at H
 refine calls_of_EW (args := [ia a0]) (c := Cd24) 23 Try.func24 (by kernel_rfl) (by kernel_rfl) (by kernel_rfl) ?_
 refine EW.sq (by kernel_rfl) ?_
 refine EW.rg (by kernel_rfl) ?_
 refine EL.quick 1 [0] [(0, ia a0)] (by kernel_rfl) ?_
 refine EL.done (by kernel_rfl) ?_
 refine EQ.code ?_
 refine EW.sq (by kernel_rfl) ?_
 refine EW.sq (by kernel_rfl) ?_
 refine EW.rg (by kernel_rfl) ?_
 refine EL.quick 1 [3] [(3, ia a0)] (by kernel_rfl) ?_
 refine EL.done (by kernel_rfl) ?_
 refine EQ.code ?_
 refine EW.bl 0 (by kernel_rfl) ?_
 obtain ⟨b5, c5, H⟩ := lt_out H
 refine EW.ct (fun a w => ∃ a3 : Bool, Sat 23 [(3, ia a0), (4, .bool (a3))] a ∧ St B w (os) (rs) ∧ b5 a3 = some a1) (by kernel_rfl) ?_ (fun a w hI => ?_)
 ·refine EW.sq (by kernel_rfl) ?_
  refine EW.rg (by kernel_rfl) ?_
  refine EL.quick 2 [3, 4] [(3, ia a0), (4, .bool (decide (a0 = 1)))] (by kernel_rfl) ?_
  refine EL.done (by kernel_rfl) ?_
  refine EQ.code ?_
  refine EW.cdP (a0 = 1) (by kernel_rfl) (by kernel_rfl) (fun a8 => ?_) (fun a8 => ?_)
  ·rw [if_pos a8] at H
   refine EW.keep [3, 4] [(3, ia a0), (4, .bool (decide (a0 = 1)))] (by kernel_rfl) ?_
   refine EW.as' [(3, ia a0), (4, .bool (true))] (by simp only [dec_t a8, Bool.not_true, Bool.not_false]) ?_
   refine EW.skip (by kernel_rfl) ?_
   refine EQ.to ?_
   refine EQ.keep [3, 4] [(3, ia a0), (4, .bool (true))] (by kernel_rfl) ?_
   exact fun a ha => ⟨true, ha, (hS.re [] [] rfl (sub_self)), H⟩
  rw [if_neg a8] at H
  refine EW.rg (by kernel_rfl) ?_
  refine EL.quick 2 [3, 4] [(3, ia a0), (4, .bool (decide (a0 = 26)))] (by kernel_rfl) ?_
  refine EL.done (by kernel_rfl) ?_
  refine EQ.to ?_
  refine EQ.keep [3, 4] [(3, ia a0), (4, .bool (decide (a0 = 26)))] (by kernel_rfl) ?_
  exact fun a ha => ⟨decide (a0 = 26), ha, (hS.re [] [] rfl (sub_self)), H⟩
 obtain ⟨a3, ha, hS, H⟩ := hI
 rw [c5] at H
 (try dsimp only at H)
 refine EW.at ?_ a ha
 clear ha a
 refine EW.cdP' (a3) (by kernel_rfl) (by kernel_rfl) (fun b9 => ?_) (fun b9 => ?_)
 ·rw [if_pos b9] at H
  refine EW.sq (by kernel_rfl) ?_
  refine EW.rg (by kernel_rfl) ?_
  refine EL.quick 1 [2] [(2, ia 1)] (by kernel_rfl) ?_
  refine EL.done (by kernel_rfl) ?_
  refine EQ.code ?_
  refine EW.ret (by kernel_rfl) ?_
  refine EQ.ret ?_
  refine EQ.ret ?_
  obtain rfl := Option.some.inj H
  exact EQ.leave (ia 1) (by kernel_rfl) ⟨_, rfl, rfl, (hS.re [] [] rfl (sub_self))⟩
 rw [if_neg b9] at H
 obtain ⟨b6, c6, H⟩ := lt_out H
 refine EW.ct (fun a w => ∃ a4 : Bool, Sat 23 [(3, ia a0), (7, .bool (a4))] a ∧ St B w (os) (rs) ∧ b6 a4 = some a1) (by kernel_rfl) ?_ (fun a w hI => ?_)
 ·refine EW.sq (by kernel_rfl) ?_
  refine EW.rg (by kernel_rfl) ?_
  refine EL.quick 2 [3, 7] [(3, ia a0), (7, .bool (decide (a0 = 10)))] (by kernel_rfl) ?_
  refine EL.done (by kernel_rfl) ?_
  refine EQ.code ?_
  refine EW.cdP (a0 = 10) (by kernel_rfl) (by kernel_rfl) (fun a9 => ?_) (fun a9 => ?_)
  ·rw [if_pos a9] at H
   refine EW.keep [3, 7] [(3, ia a0), (7, .bool (decide (a0 = 10)))] (by kernel_rfl) ?_
   refine EW.as' [(3, ia a0), (7, .bool (true))] (by simp only [dec_t a9, Bool.not_true, Bool.not_false]) ?_
   refine EW.skip (by kernel_rfl) ?_
   refine EQ.to ?_
   refine EQ.keep [3, 7] [(3, ia a0), (7, .bool (true))] (by kernel_rfl) ?_
   exact fun a ha => ⟨true, ha, (hS.re [] [] rfl (sub_self)), H⟩
  rw [if_neg a9] at H
  refine EW.rg (by kernel_rfl) ?_
  refine EL.quick 2 [3, 7] [(3, ia a0), (7, .bool (decide (a0 = 11)))] (by kernel_rfl) ?_
  refine EL.done (by kernel_rfl) ?_
  refine EQ.to ?_
  refine EQ.keep [3, 7] [(3, ia a0), (7, .bool (decide (a0 = 11)))] (by kernel_rfl) ?_
  exact fun a ha => ⟨decide (a0 = 11), ha, (hS.re [] [] rfl (sub_self)), H⟩
 obtain ⟨a4, ha, hS, H⟩ := hI
 rw [c6] at H
 (try dsimp only at H)
 refine EW.at ?_ a ha
 clear ha a
 refine EW.cdP' (a4) (by kernel_rfl) (by kernel_rfl) (fun c0 => ?_) (fun c0 => ?_)
 ·rw [if_pos c0] at H
  refine EW.sq (by kernel_rfl) ?_
  refine EW.rg (by kernel_rfl) ?_
  refine EL.quick 1 [2] [(2, ia 2)] (by kernel_rfl) ?_
  refine EL.done (by kernel_rfl) ?_
  refine EQ.code ?_
  refine EW.ret (by kernel_rfl) ?_
  refine EQ.ret ?_
  refine EQ.ret ?_
  obtain rfl := Option.some.inj H
  exact EQ.leave (ia 2) (by kernel_rfl) ⟨_, rfl, rfl, (hS.re [] [] rfl (sub_self))⟩
 rw [if_neg c0] at H
 obtain ⟨b7, c7, H⟩ := lt_out H
 refine EW.ct (fun a w => ∃ a5 : Bool, Sat 23 [(3, ia a0), (10, .bool (a5))] a ∧ St B w (os) (rs) ∧ b7 a5 = some a1) (by kernel_rfl) ?_ (fun a w hI => ?_)
 ·refine EW.sq (by kernel_rfl) ?_
  refine EW.rg (by kernel_rfl) ?_
  refine EL.quick 2 [3, 10] [(3, ia a0), (10, .bool (decide (a0 = 12)))] (by kernel_rfl) ?_
  refine EL.done (by kernel_rfl) ?_
  refine EQ.code ?_
  refine EW.cdP (a0 = 12) (by kernel_rfl) (by kernel_rfl) (fun b0 => ?_) (fun b0 => ?_)
  ·rw [if_pos b0] at H
   refine EW.keep [3, 10] [(3, ia a0), (10, .bool (decide (a0 = 12)))] (by kernel_rfl) ?_
   refine EW.as' [(3, ia a0), (10, .bool (true))] (by simp only [dec_t b0, Bool.not_true, Bool.not_false]) ?_
   refine EW.skip (by kernel_rfl) ?_
   refine EQ.to ?_
   refine EQ.keep [3, 10] [(3, ia a0), (10, .bool (true))] (by kernel_rfl) ?_
   exact fun a ha => ⟨true, ha, (hS.re [] [] rfl (sub_self)), H⟩
  rw [if_neg b0] at H
  refine EW.rg (by kernel_rfl) ?_
  refine EL.quick 2 [3, 10] [(3, ia a0), (10, .bool (decide (a0 = 13)))] (by kernel_rfl) ?_
  refine EL.done (by kernel_rfl) ?_
  refine EQ.to ?_
  refine EQ.keep [3, 10] [(3, ia a0), (10, .bool (decide (a0 = 13)))] (by kernel_rfl) ?_
  exact fun a ha => ⟨decide (a0 = 13), ha, (hS.re [] [] rfl (sub_self)), H⟩
 obtain ⟨a5, ha, hS, H⟩ := hI
 rw [c7] at H
 (try dsimp only at H)
 refine EW.at ?_ a ha
 clear ha a
 refine EW.cdP' (a5) (by kernel_rfl) (by kernel_rfl) (fun c1 => ?_) (fun c1 => ?_)
 ·rw [if_pos c1] at H
  refine EW.sq (by kernel_rfl) ?_
  refine EW.rg (by kernel_rfl) ?_
  refine EL.quick 1 [2] [(2, ia 3)] (by kernel_rfl) ?_
  refine EL.done (by kernel_rfl) ?_
  refine EQ.code ?_
  refine EW.ret (by kernel_rfl) ?_
  refine EQ.ret ?_
  refine EQ.ret ?_
  obtain rfl := Option.some.inj H
  exact EQ.leave (ia 3) (by kernel_rfl) ⟨_, rfl, rfl, (hS.re [] [] rfl (sub_self))⟩
 rw [if_neg c1] at H
 obtain ⟨a2, c8, H⟩ := lt_out H
 refine EW.ct (fun a w => ∃ a6 : Bool, Sat 23 [(3, ia a0), (13, .bool (a6))] a ∧ St B w (os) (rs) ∧ a2 a6 = some a1) (by kernel_rfl) ?_ (fun a w hI => ?_)
 ·refine EW.sq (by kernel_rfl) ?_
  refine EW.rg (by kernel_rfl) ?_
  refine EL.quick 2 [3, 13] [(3, ia a0), (13, .bool (decide (a0 = 15)))] (by kernel_rfl) ?_
  refine EL.done (by kernel_rfl) ?_
  refine EQ.code ?_
  refine EW.cdP (a0 = 15) (by kernel_rfl) (by kernel_rfl) (fun b1 => ?_) (fun b1 => ?_)
  ·rw [if_pos b1] at H
   refine EW.keep [3, 13] [(3, ia a0), (13, .bool (decide (a0 = 15)))] (by kernel_rfl) ?_
   refine EW.as' [(3, ia a0), (13, .bool (true))] (by simp only [dec_t b1, Bool.not_true, Bool.not_false]) ?_
   refine EW.skip (by kernel_rfl) ?_
   refine EQ.to ?_
   refine EQ.keep [3, 13] [(3, ia a0), (13, .bool (true))] (by kernel_rfl) ?_
   exact fun a ha => ⟨true, ha, (hS.re [] [] rfl (sub_self)), H⟩
  rw [if_neg b1] at H
  refine EW.sq (by kernel_rfl) ?_
  refine EW.rg (by kernel_rfl) ?_
  refine EL.quick 2 [3, 13] [(3, ia a0), (13, .bool (decide (a0 = 16)))] (by kernel_rfl) ?_
  refine EL.done (by kernel_rfl) ?_
  refine EQ.code ?_
  refine EW.cdP (a0 = 16) (by kernel_rfl) (by kernel_rfl) (fun b2 => ?_) (fun b2 => ?_)
  ·rw [if_pos b2] at H
   refine EW.keep [3, 13] [(3, ia a0), (13, .bool (decide (a0 = 16)))] (by kernel_rfl) ?_
   refine EW.as' [(3, ia a0), (13, .bool (true))] (by simp only [dec_t b2, Bool.not_true, Bool.not_false]) ?_
   refine EW.skip (by kernel_rfl) ?_
   refine EQ.to ?_
   refine EQ.keep [3, 13] [(3, ia a0), (13, .bool (true))] (by kernel_rfl) ?_
   exact fun a ha => ⟨true, ha, (hS.re [] [] rfl (sub_self)), H⟩
  rw [if_neg b2] at H
  refine EW.sq (by kernel_rfl) ?_
  refine EW.rg (by kernel_rfl) ?_
  refine EL.quick 2 [3, 13] [(3, ia a0), (13, .bool (decide (a0 = 17)))] (by kernel_rfl) ?_
  refine EL.done (by kernel_rfl) ?_
  refine EQ.code ?_
  refine EW.cdP (a0 = 17) (by kernel_rfl) (by kernel_rfl) (fun b3 => ?_) (fun b3 => ?_)
  ·rw [if_pos b3] at H
   refine EW.keep [3, 13] [(3, ia a0), (13, .bool (decide (a0 = 17)))] (by kernel_rfl) ?_
   refine EW.as' [(3, ia a0), (13, .bool (true))] (by simp only [dec_t b3, Bool.not_true, Bool.not_false]) ?_
   refine EW.skip (by kernel_rfl) ?_
   refine EQ.to ?_
   refine EQ.keep [3, 13] [(3, ia a0), (13, .bool (true))] (by kernel_rfl) ?_
   exact fun a ha => ⟨true, ha, (hS.re [] [] rfl (sub_self)), H⟩
  rw [if_neg b3] at H
  refine EW.rg (by kernel_rfl) ?_
  refine EL.quick 2 [3, 13] [(3, ia a0), (13, .bool (decide (a0 = 22)))] (by kernel_rfl) ?_
  refine EL.done (by kernel_rfl) ?_
  refine EQ.to ?_
  refine EQ.keep [3, 13] [(3, ia a0), (13, .bool (decide (a0 = 22)))] (by kernel_rfl) ?_
  exact fun a ha => ⟨decide (a0 = 22), ha, (hS.re [] [] rfl (sub_self)), H⟩
 obtain ⟨a6, ha, hS, H⟩ := hI
 rw [c8] at H
 (try dsimp only at H)
 refine EW.at ?_ a ha
 clear ha a
 refine EW.cdP' (a6) (by kernel_rfl) (by kernel_rfl) (fun c2 => ?_) (fun c2 => ?_)
 ·rw [if_pos c2] at H
  refine EW.sq (by kernel_rfl) ?_
  refine EW.rg (by kernel_rfl) ?_
  refine EL.quick 1 [2] [(2, ia 4)] (by kernel_rfl) ?_
  refine EL.done (by kernel_rfl) ?_
  refine EQ.code ?_
  refine EW.ret (by kernel_rfl) ?_
  refine EQ.ret ?_
  refine EQ.ret ?_
  obtain rfl := Option.some.inj H
  exact EQ.leave (ia 4) (by kernel_rfl) ⟨_, rfl, rfl, (hS.re [] [] rfl (sub_self))⟩
 rw [if_neg c2] at H
 refine EW.sq (by kernel_rfl) ?_
 refine EW.rg (by kernel_rfl) ?_
 refine EL.quick 2 [3, 18] [(3, ia a0), (18, .bool (decide (a0 = 20)))] (by kernel_rfl) ?_
 refine EL.done (by kernel_rfl) ?_
 refine EQ.code ?_
 refine EW.cdP (a0 = 20) (by kernel_rfl) (by kernel_rfl) (fun c3 => ?_) (fun c3 => ?_)
 ·rw [if_pos c3] at H
  refine EW.sq (by kernel_rfl) ?_
  refine EW.rg (by kernel_rfl) ?_
  refine EL.quick 1 [2] [(2, ia 5)] (by kernel_rfl) ?_
  refine EL.done (by kernel_rfl) ?_
  refine EQ.code ?_
  refine EW.ret (by kernel_rfl) ?_
  refine EQ.ret ?_
  refine EQ.ret ?_
  obtain rfl := Option.some.inj H
  exact EQ.leave (ia 5) (by kernel_rfl) ⟨_, rfl, rfl, (hS.re [] [] rfl (sub_self))⟩
 rw [if_neg c3] at H
 obtain ⟨b8, c9, H⟩ := lt_out H
 refine EW.ct (fun a w => ∃ a7 : Bool, Sat 23 [(20, .bool (a7))] a ∧ St B w (os) (rs) ∧ b8 a7 = some a1) (by kernel_rfl) ?_ (fun a w hI => ?_)
 ·refine EW.sq (by kernel_rfl) ?_
  refine EW.rg (by kernel_rfl) ?_
  refine EL.quick 2 [3, 20] [(3, ia a0), (20, .bool (decide (a0 = 23)))] (by kernel_rfl) ?_
  refine EL.done (by kernel_rfl) ?_
  refine EQ.code ?_
  refine EW.cdP (a0 = 23) (by kernel_rfl) (by kernel_rfl) (fun b4 => ?_) (fun b4 => ?_)
  ·rw [if_pos b4] at H
   refine EW.keep [20] [(20, .bool (decide (a0 = 23)))] (by kernel_rfl) ?_
   refine EW.as' [(20, .bool (true))] (by simp only [dec_t b4, Bool.not_true, Bool.not_false]) ?_
   refine EW.skip (by kernel_rfl) ?_
   refine EQ.to ?_
   refine EQ.keep [20] [(20, .bool (true))] (by kernel_rfl) ?_
   exact fun a ha => ⟨true, ha, (hS.re [] [] rfl (sub_self)), H⟩
  rw [if_neg b4] at H
  refine EW.rg (by kernel_rfl) ?_
  refine EL.quick 2 [20] [(20, .bool (decide (a0 = 24)))] (by kernel_rfl) ?_
  refine EL.done (by kernel_rfl) ?_
  refine EQ.to ?_
  refine EQ.keep [20] [(20, .bool (decide (a0 = 24)))] (by kernel_rfl) ?_
  exact fun a ha => ⟨decide (a0 = 24), ha, (hS.re [] [] rfl (sub_self)), H⟩
 obtain ⟨a7, ha, hS, H⟩ := hI
 rw [c9] at H
 (try dsimp only at H)
 refine EW.at ?_ a ha
 clear ha a
 refine EW.cdP' (a7) (by kernel_rfl) (by kernel_rfl) (fun c4 => ?_) (fun c4 => ?_)
 ·rw [if_pos c4] at H
  refine EW.sq (by kernel_rfl) ?_
  refine EW.rg (by kernel_rfl) ?_
  refine EL.quick 1 [2] [(2, ia 6)] (by kernel_rfl) ?_
  refine EL.done (by kernel_rfl) ?_
  refine EQ.code ?_
  refine EW.ret (by kernel_rfl) ?_
  refine EQ.ret ?_
  refine EQ.ret ?_
  obtain rfl := Option.some.inj H
  exact EQ.leave (ia 6) (by kernel_rfl) ⟨_, rfl, rfl, (hS.re [] [] rfl (sub_self))⟩
 rw [if_neg c4] at H
 refine EW.skip (by kernel_rfl) ?_
 refine EQ.pop ?_
 refine EQ.code ?_
 refine EW.sq (by kernel_rfl) ?_
 refine EW.rg (by kernel_rfl) ?_
 refine EL.quick 1 [2] [(2, ia 0)] (by kernel_rfl) ?_
 refine EL.done (by kernel_rfl) ?_
 refine EQ.code ?_
 refine EW.ret (by kernel_rfl) ?_
 obtain rfl := Option.some.inj H
 exact EQ.leave (ia 0) (by kernel_rfl) ⟨_, rfl, rfl, (hS.re [] [] rfl (sub_self))⟩

/-! ### confidant/confidantseat.Instr: function 23 -/
def confidantseat_Instr.f (K : Nat) (a0 : Int) (a1 : Int) : Option (Int × Int) := b1 (confidantref5_Arg.f K (IntKind.i64.wrap ((Int.tmod (IntKind.i64.wrap a0) 26) + 1))) fun (a7 : Int) => (if a7 = 0 then (b2 (confidantseat_in.f K (IntKind.i64.wrap ((Int.tmod (IntKind.i64.wrap a0) 26) + 1)) 0) fun (a3 : Int) (a4 : Int) => (some (a3, a4))) else (b2 (confidantseat_in.f K (IntKind.i64.wrap ((Int.tmod (IntKind.i64.wrap a0) 26) + 1)) (IntKind.i64.wrap (Int.tmod a1 12))) fun (a5 : Int) (a6 : Int) => (some (a5, a6))))
set_option maxRecDepth 100000 in
theorem confidantseat_Instr.calls {K : Nat} {a0 : Int} {a1 : Int} {a9 : Int} {b0 : Int} {B w : World} {os : List Ass} {rs : List Ro} (H : confidantseat_Instr.f K a0 a1 = some (a9, b0)) (hS : St B w (os) (rs)) :
  Calls Try.prog 23 [ig a0, ig a1].toArray w (fun en w' => ∃ v, en = .returned v ∧ v = ag [ia a9, ib b0] ∧ St B w' (os) (rs)) := by
 unfold confidantseat_Instr.f at H
 refine calls_of_EW (args := [ig a0, ig a1]) (c := Cd23) 20 Try.func23 (by kernel_rfl) (by kernel_rfl) (by kernel_rfl) ?_
 refine EW.sq (by kernel_rfl) ?_
 refine EW.rg (by kernel_rfl) ?_
 refine EL.of (EO.alloc hS 32 (ag [ia 0, ib 0]) [ia 0, ib 0] 4 (by kernel_rfl) (by kernel_rfl) (by kernel_rfl) (by kernel_rfl) (by first | rfl | kernel_rfl) ?_)
 intro a2 w hS
 refine EL.done (by kernel_rfl) ?_
 refine EQ.code ?_
 refine EW.sq (by kernel_rfl) ?_
 refine EW.rg (by kernel_rfl) ?_
 refine EL.quick 5 [1, 4, 5] [(1, ig a1), (4, pt a2 0), (5, ia (IntKind.i64.wrap ((Int.tmod (IntKind.i64.wrap a0) 26) + 1)))] (by kernel_rfl) ?_
 refine EL.done (by kernel_rfl) ?_
 refine EQ.code ?_
 refine EW.sq (by kernel_rfl) ?_
 refine EW.sq (by kernel_rfl) ?_
 refine EW.rg (by kernel_rfl) ?_
 refine EL.quick 1 [1, 4, 5, 10] [(1, ig a1), (4, pt a2 0), (5, ia (IntKind.i64.wrap ((Int.tmod (IntKind.i64.wrap a0) 26) + 1))), (10, ia (IntKind.i64.wrap ((Int.tmod (IntKind.i64.wrap a0) 26) + 1)))] (by kernel_rfl) ?_
 obtain ⟨a7, b3, H⟩ := b1_out H
 have hq := confidantref5_Arg.calls b3 hS
 refine EL.of (EO.callD 24 [ia (IntKind.i64.wrap ((Int.tmod (IntKind.i64.wrap a0) 26) + 1))] _ 11 (by kernel_rfl) (by kernel_rfl) (by kernel_rfl) hq ?_)
 rintro v w ⟨rfl, hS⟩
 refine EL.quick 1 [1, 4, 5, 12] [(1, ig a1), (4, pt a2 0), (5, ia (IntKind.i64.wrap ((Int.tmod (IntKind.i64.wrap a0) 26) + 1))), (12, .bool (decide (a7 = 0)))] (by kernel_rfl) ?_
 refine EL.done (by kernel_rfl) ?_
 refine EQ.code ?_
 refine EW.cdP (a7 = 0) (by kernel_rfl) (by kernel_rfl) (fun a8 => ?_) (fun a8 => ?_)
 ·rw [if_pos a8] at H
  refine EW.sq (by kernel_rfl) ?_
  refine EW.rg (by kernel_rfl) ?_
  refine EL.quick 1 [4, 13] [(4, pt a2 0), (13, ia (IntKind.i64.wrap ((Int.tmod (IntKind.i64.wrap a0) 26) + 1)))] (by kernel_rfl) ?_
  obtain ⟨a3, a4, b4, H⟩ := b2_out H
  have hq := confidantseat_in.calls b4 hS
  refine EL.of (EO.callD 41 [ia (IntKind.i64.wrap ((Int.tmod (IntKind.i64.wrap a0) 26) + 1)), ia 0] _ 14 (by kernel_rfl) (by kernel_rfl) (by kernel_rfl) hq ?_)
  rintro v w ⟨rfl, hS⟩
  refine EL.of (EO.storeBox (os' := Ass.box 32 a2 [ia a3, ib a4] :: os) hS 0 rfl 32 0 (ag [ia a3, ib a4]) [ia a3, ib a4] (by kernel_rfl) (by kernel_rfl) (by kernel_rfl) (by kernel_rfl) (by kernel_rfl) (by kernel_rfl) rfl rfl ?_)
  intro w hS
  refine EL.done (by kernel_rfl) ?_
  refine EQ.code ?_
  refine EW.ret (by kernel_rfl) ?_
  refine EQ.ret ?_
  simp only [Option.some.injEq, Prod.mk.injEq] at H
  obtain ⟨rfl, rfl⟩ := H
  exact EQ.leaveC hS 0 rfl 4 32 0 2 (ag [ia a3, ib a4]) (by kernel_rfl) (by kernel_rfl) (by kernel_rfl) ⟨_, rfl, rfl, (hS.re [] [0] rfl (sub_self))⟩
 rw [if_neg a8] at H
 refine EW.skip (by kernel_rfl) ?_
 refine EQ.code ?_
 refine EW.sq (by kernel_rfl) ?_
 refine EW.rg (by kernel_rfl) ?_
 refine EL.quick 4 [4, 15, 18] [(4, pt a2 0), (15, ia (IntKind.i64.wrap ((Int.tmod (IntKind.i64.wrap a0) 26) + 1))), (18, ia (IntKind.i64.wrap (Int.tmod a1 12)))] (by kernel_rfl) ?_
 obtain ⟨a5, a6, b5, H⟩ := b2_out H
 have hq := confidantseat_in.calls b5 hS
 refine EL.of (EO.callD 41 [ia (IntKind.i64.wrap ((Int.tmod (IntKind.i64.wrap a0) 26) + 1)), ia (IntKind.i64.wrap (Int.tmod a1 12))] _ 19 (by kernel_rfl) (by kernel_rfl) (by kernel_rfl) hq ?_)
 rintro v w ⟨rfl, hS⟩
 refine EL.of (EO.storeBox (os' := Ass.box 32 a2 [ia a5, ib a6] :: os) hS 0 rfl 32 0 (ag [ia a5, ib a6]) [ia a5, ib a6] (by kernel_rfl) (by kernel_rfl) (by kernel_rfl) (by kernel_rfl) (by kernel_rfl) (by kernel_rfl) rfl rfl ?_)
 intro w hS
 refine EL.done (by kernel_rfl) ?_
 refine EQ.code ?_
 refine EW.ret (by kernel_rfl) ?_
 simp only [Option.some.injEq, Prod.mk.injEq] at H
 obtain ⟨rfl, rfl⟩ := H
 exact EQ.leaveC hS 0 rfl 4 32 0 2 (ag [ia a5, ib a6]) (by kernel_rfl) (by kernel_rfl) (by kernel_rfl) ⟨_, rfl, rfl, (hS.re [] [0] rfl (sub_self))⟩

/-! ### confidant/confidantlaw8.code: function 15 -/
def confidantlaw8_code.l0 (K : Nat) (a0 : List S51) (a7 : Int) : Nat → (List S32) → Int → Option (List S32)
 | 0, _, _ => none
 | n + 1, a6, a1 => if a1 < (a0.length : Int) then (if 0 ≤ a1 then (b2 (confidantseat_Instr.f K ((a0.getD a1.toNat zS51).f0) ((a0.getD a1.toNat zS51).f1)) fun (b5 : Int) (b6 : Int) => (lt (fun (b7 : Int) (b3 : Int) => (lt ([(⟨b7, b3⟩ : S32)] : List S32) fun c5 => (if (a6.length + c5.length) * 16 ≤ 140737488355328 then (lt (a6 ++ c5) fun c0 => (confidantlaw8_code.l0 K a0 a7 n c0 (IntKind.i64.wrap (a1 + 1)))) else none))) fun c9 => (lt (fun (c6 : Bool) => (if c6 = true then (lt ([1, 3, 12, 1, 11, 10, 2, 4] : List Int) fun a4 => (if 0 ≤ (Int.tmod ((a0.getD a1.toNat zS51).f0) 8) then (if (Int.tmod ((a0.getD a1.toNat zS51).f0) 8) < (a4.length : Int) then (lt (fun (c1 : Int) => (lt (fun (c8 : Bool) => (if c8 = true then (if (a0.length : Int) = 0 then none else (c9 (a4.getD (Int.tmod ((a0.getD a1.toNat zS51).f0) 8).toNat 0) (IntKind.i32.wrap (Int.tmod (IntKind.i64.wrap ((a0.getD a1.toNat zS51).f1)) (a0.length : Int))))) else (c9 (a4.getD (Int.tmod ((a0.getD a1.toNat zS51).f0) 8).toNat 0) c1))) fun d7 => (if (a4.getD (Int.tmod ((a0.getD a1.toNat zS51).f0) 8).toNat 0) = 10 then (d7 true) else (lt ((a4.getD (Int.tmod ((a0.getD a1.toNat zS51).f0) 8).toNat 0)) fun f6 => (d7 (decide ((a4.getD (Int.tmod ((a0.getD a1.toNat zS51).f0) 8).toNat 0) = 11))))))) fun d6 => (lt (fun (c7 : Bool) => (if c7 = true then (d6 (IntKind.i32.wrap (Int.tmod ((a0.getD a1.toNat zS51).f1) 4))) else (d6 0))) fun c4 => (if (a4.getD (Int.tmod ((a0.getD a1.toNat zS51).f0) 8).toNat 0) = 1 then (c4 true) else (if (a4.getD (Int.tmod ((a0.getD a1.toNat zS51).f0) 8).toNat 0) = 12 then (lt ((a4.getD (Int.tmod ((a0.getD a1.toNat zS51).f0) 8).toNat 0)) fun f5 => (c4 true)) else (if (a4.getD (Int.tmod ((a0.getD a1.toNat zS51).f0) 8).toNat 0) = 10 then (lt ((a4.getD (Int.tmod ((a0.getD a1.toNat zS51).f0) 8).toNat 0)) fun e4 => (c4 true)) else (lt ((a4.getD (Int.tmod ((a0.getD a1.toNat zS51).f0) 8).toNat 0)) fun d8 => (c4 (decide ((a4.getD (Int.tmod ((a0.getD a1.toNat zS51).f0) 8).toNat 0) = 11))))))))) else none) else none)) else (c9 b5 b6))) fun d5 => (if (Int.tmod a7 3) = 0 then (d5 (decide ((Int.tmod ((a0.getD a1.toNat zS51).f1) 4) > 0))) else (d5 false))))) else none) else (some a6)
def confidantlaw8_code.f (K : Nat) (a0 : List S51) (a7 : Int) : Option (List S32) := confidantlaw8_code.l0 K a0 a7 K ([] : List S32) 0
set_option maxRecDepth 100000 in
theorem confidantlaw8_code.calls {K : Nat} {a0 : List S51} {a7 : Int} {b4 : Option Addr} {a3 : Nat} {b9 : List S32} {B w : World} {os : List Ass} {rs : List Ro} (H : confidantlaw8_code.f K a0 a7 = some b9) (hS : St B w (os) (Ro.sl kS51 b4 a3 a0 :: rs)) :
  Calls Try.prog 15 [sv b4 a3 a0, ig a7].toArray w (fun en w' => ∃ v, en = .returned v ∧ ∃ e5 : Option Addr, ∃ e6 : Nat, v = sv e5 e6 b9 ∧ St B w' (Ass.own 32 kS32 e5 e6 b9 :: os) (Ro.sl kS51 b4 a3 a0 :: rs)) := by
 unfold confidantlaw8_code.f at H
 refine calls_of_EW (args := [sv b4 a3 a0, ig a7]) (c := Cd15) 97 Try.func15 (by kernel_rfl) (by kernel_rfl) (by kernel_rfl) ?_
 refine EW.sq (by kernel_rfl) ?_
 refine EW.rg (by kernel_rfl) ?_
 refine EL.quick 1 [0, 1] [(0, sv b4 a3 a0), (1, ig a7)] (by kernel_rfl) ?_
 refine EL.done (by kernel_rfl) ?_
 refine EQ.code ?_
 refine EW.sq (by kernel_rfl) ?_
 refine EW.rg (by kernel_rfl) ?_
 refine EL.quick 1 [0, 1, 5] [(0, sv b4 a3 a0), (1, ig a7), (5, sv none 0 ([] : List S32))] (by kernel_rfl) ?_
 refine EL.done (by kernel_rfl) ?_
 refine EQ.code ?_
 refine EW.sq (by kernel_rfl) ?_
 refine EW.sq (by kernel_rfl) ?_
 refine EW.rg (by kernel_rfl) ?_
 refine EL.quick 1 [0, 1, 5, 6] [(0, sv b4 a3 a0), (1, ig a7), (5, sv none 0 ([] : List S32)), (6, ia 0)] (by kernel_rfl) ?_
 refine EL.done (by kernel_rfl) ?_
 refine EQ.code ?_
 refine EW.bl 0 (by kernel_rfl) ?_
 have hS := St.nilO hS 32 kS32
 refine EW.lp (fun n a w => ∃ a6 : List S32, ∃ a1 : Int, ∃ a8 : Option Addr, ∃ a9 : Nat, Sat 97 [(0, sv b4 a3 a0), (1, ig a7), (5, sv a8 a9 a6), (6, ia a1)] a ∧ St B w (Ass.own 32 kS32 a8 a9 a6 :: os) (Ro.sl kS51 b4 a3 a0 :: rs) ∧ confidantlaw8_code.l0 K a0 a7 n a6 a1 = some b9) K (by kernel_rfl) ?_ (fun n a w hI => ?_)
 ·refine EQ.keep [0, 1, 5, 6] [(0, sv b4 a3 a0), (1, ig a7), (5, sv none 0 ([] : List S32)), (6, ia 0)] (by kernel_rfl) ?_
  exact fun a ha => ⟨([] : List S32), 0, none, 0, ha, (hS.re [0] [] rfl (sub_cons 0 rfl (sub_tail (sub_self)))), H⟩
 obtain ⟨a6, a1, a8, a9, ha, hS, H⟩ := hI
 obtain _ | n := n
 ·simp [confidantlaw8_code.l0] at H
 rw [confidantlaw8_code.l0.eq_2] at H
 refine EW.at ?_ a ha
 clear ha a
 refine EW.sq (by kernel_rfl) ?_
 refine EW.sq (by kernel_rfl) ?_
 refine EW.rg (by kernel_rfl) ?_
 refine EL.quick 4 [0, 1, 5, 6, 11] [(0, sv b4 a3 a0), (1, ig a7), (5, sv a8 a9 a6), (6, ia a1), (11, .bool (decide (a1 < (a0.length : Int))))] (by kernel_rfl) ?_
 refine EL.done (by kernel_rfl) ?_
 refine EQ.code ?_
 refine EW.cdP (a1 < (a0.length : Int)) (by kernel_rfl) (by kernel_rfl) (fun b0 => ?_) (fun b0 => ?_)
 ·rw [if_pos b0] at H
  refine EW.skip (by kernel_rfl) ?_
  refine EQ.code ?_
  refine EW.sq (by kernel_rfl) ?_
  refine EW.bl 1 (by kernel_rfl) ?_
  refine EW.sq (by kernel_rfl) ?_
  obtain ⟨b1, H⟩ := ite_in H
  obtain ⟨a5, rfl⟩ := St.rd_some hS (Rd.ro 0 rfl) b1 b0
  obtain ⟨b5, b6, f2, H⟩ := b2_out H
  refine EW.mt (fun a w => ∃ a2 : Nat, Sat 97 [(0, sv (some a5) a3 a0), (1, ig a7), (5, sv a8 a9 a6), (6, ia a1), (7, pt a2 0)] a ∧ St B w (Ass.box 32 a2 [ia b5, ib b6] :: Ass.own 32 kS32 a8 a9 a6 :: os) (Ro.sl kS51 (some a5) a3 a0 :: rs)) (by kernel_rfl) ?_ (fun a w hI => ?_)
  ·have hS := hS.drew
   refine EW.dr (B := B) [Ass.own 32 kS32 a8 a9 a6] [Ro.sl kS51 (some a5) a3 a0] (by kernel_rfl) (by kernel_rfl) ?_
   have hN : Region.noSelect Cd15.r.r.l.r.l.l.r.l.l.l.ops = true := (by kernel_rfl)
   have hF : freeAll Cd15.r.r.l.r.l.l.r.l.l.l.ops = true := (by kernel_rfl)
   have hC : Core B [Ass.own 32 kS32 a8 a9 a6] [Ro.sl kS51 (some a5) a3 a0] _ := ⟨_, _, hS⟩
   refine ED.quick hN hF hC [0, 1, 5, 6] [0, 1, 5, 6, 14, 15, 19, 20] 9 [(0, sv (some a5) a3 a0), (1, ig a7), (5, sv a8 a9 a6), (6, ia a1), (14, sv (some a5) a3 a0), (15, ia a1), (19, sv (some a5) a3 a0), (20, ia a1)] (bm 13 99) (by kernel_rfl) (by kernel_rfl) ?_
   refine ED.Y hN hF hC 2 8 (bm 13 103) (by kernel_rfl) (by kernel_rfl) rfl (fun _ _ _ hS => YO.idx 24 2 a5 a0.length a3 .i64 a1 16 (by kernel_rfl) (by kernel_rfl) (by kernel_rfl) (by kernel_rfl) b1 b0) ?_
   refine ED.Y hN hF hC 3 7 (bm 13 111) (by kernel_rfl) (by kernel_rfl) rfl (fun _ _ _ hS => YO.idxEp hS (Rd.ro 0 rfl) a1 b1 b0 51 2 0 2 1 0 .i64 17 (by kernel_rfl) (by kernel_rfl) (by kernel_rfl) (by kernel_rfl) (by kernel_rfl)) ?_
   refine ED.Y hN hF hC 4 6 (bm 13 127) (by kernel_rfl) (by kernel_rfl) rfl (fun _ _ _ hS => YO.loadEl hS kS51 a5 a3 a0 (Rd.ro 0 rfl) zS51 encS51 encS51_of a1 b1 b0 5 2 0 1 rfl (ig ((a0.getD a1.toNat zS51).f0)) 18 (by kernel_rfl) (by kernel_rfl) (by kernel_rfl) (by kernel_rfl)) ?_
   refine ED.Y hN hF hC 7 5 (bm 13 255) (by kernel_rfl) (by kernel_rfl) rfl (fun _ _ _ hS => YO.idx 24 2 a5 a0.length a3 .i64 a1 21 (by kernel_rfl) (by kernel_rfl) (by kernel_rfl) (by kernel_rfl) b1 b0) ?_
   refine ED.Y hN hF hC 8 4 (bm 13 511) (by kernel_rfl) (by kernel_rfl) rfl (fun _ _ _ hS => YO.idxEp hS (Rd.ro 0 rfl) a1 b1 b0 51 2 0 2 1 1 .i64 22 (by kernel_rfl) (by kernel_rfl) (by kernel_rfl) (by kernel_rfl) (by kernel_rfl)) ?_
   refine ED.Y hN hF hC 9 3 (bm 13 1023) (by kernel_rfl) (by kernel_rfl) rfl (fun _ _ _ hS => YO.loadEl hS kS51 a5 a3 a0 (Rd.ro 0 rfl) zS51 encS51 encS51_of a1 b1 b0 5 2 1 1 rfl (ig ((a0.getD a1.toNat zS51).f1)) 23 (by kernel_rfl) (by kernel_rfl) (by kernel_rfl) (by kernel_rfl)) ?_
   refine ED.two 10 11 2 (by kernel_rfl) (by kernel_rfl) ?_ ?_
   ·have hq := confidantseat_Instr.calls f2 hS
    refine EO.callD 23 [ig ((a0.getD a1.toNat zS51).f0), ig ((a0.getD a1.toNat zS51).f1)] _ 24 (by kernel_rfl) (by kernel_rfl) (by kernel_rfl) hq ?_
    rintro v w ⟨rfl, hS⟩
    have hC := hC.again ⟨_, _, hS⟩
    refine ⟨hC, ?_⟩
    refine ED.at' (bm 13 2047) (by kernel_rfl) ?_
    refine ED.one 11 1 (bm 13 4095) (by kernel_rfl) (by kernel_rfl) (by kernel_rfl) (EO.alloc hS 32 (ag [ia 0, ib 0]) [ia 0, ib 0] 7 (by kernel_rfl) (by kernel_rfl) (by kernel_rfl) (by kernel_rfl) (by first | rfl | kernel_rfl) ?_)
    intro d9 w hS
    have hC := hC.again ⟨_, _, hS.re [1] [] rfl sub_self⟩
    refine ⟨hC, ?_⟩
    refine ED.one 12 0 (bm 13 8191) (by kernel_rfl) (by kernel_rfl) (by kernel_rfl) (EO.storeBox (os' := Ass.box 32 d9 [ia b5, ib b6] :: Ass.own 32 kS32 a8 a9 a6 :: os) hS 0 rfl 32 0 (ag [ia b5, ib b6]) [ia b5, ib b6] (by kernel_rfl) (by kernel_rfl) (by kernel_rfl) (by kernel_rfl) (by kernel_rfl) (by kernel_rfl) rfl rfl ?_)
    intro w hS
    have hC := hC.again ⟨_, _, hS.re [1] [] rfl sub_self⟩
    refine ⟨hC, ?_⟩
    refine ED.done (by kernel_rfl) ?_
    refine EQ.to ?_
    refine EQ.keep [0, 1, 5, 6, 7] [(0, sv (some a5) a3 a0), (1, ig a7), (5, sv a8 a9 a6), (6, ia a1), (7, pt d9 0)] (by kernel_rfl) ?_
    exact fun a ha => ⟨d9, ha, (hS.re [1, 1] [] rfl (sub_cons 0 rfl (sub_tail (sub_self))))⟩
   ·refine EO.alloc hS 32 (ag [ia 0, ib 0]) [ia 0, ib 0] 7 (by kernel_rfl) (by kernel_rfl) (by kernel_rfl) (by kernel_rfl) (by first | rfl | kernel_rfl) ?_
    intro e0 w hS
    have hC := hC.again ⟨_, _, hS.re [1] [] rfl sub_self⟩
    refine ⟨hC, ?_⟩
    refine ED.at' (bm 13 3071) (by kernel_rfl) ?_
    have hq := confidantseat_Instr.calls f2 hS
    refine ED.one 10 1 (bm 13 4095) (by kernel_rfl) (by kernel_rfl) (by kernel_rfl) (EO.callD 23 [ig ((a0.getD a1.toNat zS51).f0), ig ((a0.getD a1.toNat zS51).f1)] _ 24 (by kernel_rfl) (by kernel_rfl) (by kernel_rfl) hq ?_)
    rintro v w ⟨rfl, hS⟩
    have hC := hC.again ⟨_, _, hS.re [1] [] rfl sub_self⟩
    refine ⟨hC, ?_⟩
    refine ED.one 12 0 (bm 13 8191) (by kernel_rfl) (by kernel_rfl) (by kernel_rfl) (EO.storeBox (os' := Ass.box 32 e0 [ia b5, ib b6] :: Ass.own 32 kS32 a8 a9 a6 :: os) hS 0 rfl 32 0 (ag [ia b5, ib b6]) [ia b5, ib b6] (by kernel_rfl) (by kernel_rfl) (by kernel_rfl) (by kernel_rfl) (by kernel_rfl) (by kernel_rfl) rfl rfl ?_)
    intro w hS
    have hC := hC.again ⟨_, _, hS.re [1] [] rfl sub_self⟩
    refine ⟨hC, ?_⟩
    refine ED.done (by kernel_rfl) ?_
    refine EQ.to ?_
    refine EQ.keep [0, 1, 5, 6, 7] [(0, sv (some a5) a3 a0), (1, ig a7), (5, sv a8 a9 a6), (6, ia a1), (7, pt e0 0)] (by kernel_rfl) ?_
    exact fun a ha => ⟨e0, ha, (hS.re [1, 1] [] rfl (sub_cons 0 rfl (sub_tail (sub_self))))⟩
  ·obtain ⟨a2, ha, hS⟩ := hI
   refine EQ.at ?_ a ha
   clear ha a
   refine EQ.code ?_
   obtain ⟨c9, f9, H⟩ := lt_out H
   refine EW.ct (fun a w => ∃ b7 : Int, ∃ b3 : Int, Sat 97 [(0, sv (some a5) a3 a0), (1, ig a7), (5, sv a8 a9 a6), (6, ia a1), (7, pt a2 0)] a ∧ St B w (Ass.box 32 a2 [ia b7, ib b3] :: Ass.own 32 kS32 a8 a9 a6 :: os) (Ro.sl kS51 (some a5) a3 a0 :: rs) ∧ c9 b7 b3 = some b9) (by kernel_rfl) ?_ (fun a w hI => ?_)
   ·obtain ⟨d5, g0, H⟩ := lt_out H
    refine EW.ct (fun a w => ∃ c6 : Bool, Sat 97 [(0, sv (some a5) a3 a0), (1, ig a7), (5, sv a8 a9 a6), (6, ia a1), (7, pt a2 0), (36, .bool (c6))] a ∧ St B w (Ass.box 32 a2 [ia b5, ib b6] :: Ass.own 32 kS32 a8 a9 a6 :: os) (Ro.sl kS51 (some a5) a3 a0 :: rs) ∧ d5 c6 = some b9) (by kernel_rfl) ?_ (fun a w hI => ?_)
    ·refine EW.rg (by kernel_rfl) ?_
     refine EL.quick 4 [0, 1, 5, 6, 7, 28] [(0, sv (some a5) a3 a0), (1, ig a7), (5, sv a8 a9 a6), (6, ia a1), (7, pt a2 0), (28, .bool (decide ((Int.tmod a7 3) = 0)))] (by kernel_rfl) ?_
     by_cases d0 : (Int.tmod a7 3) = 0
     ·rw [if_pos d0] at H
      refine EL.keep [0, 1, 5, 6, 7, 28] [(0, sv (some a5) a3 a0), (1, ig a7), (5, sv a8 a9 a6), (6, ia a1), (7, pt a2 0), (28, .bool (decide ((Int.tmod a7 3) = 0)))] (by kernel_rfl) ?_
      refine EL.as' [(0, sv (some a5) a3 a0), (1, ig a7), (5, sv a8 a9 a6), (6, ia a1), (7, pt a2 0), (28, .bool (true))] (by simp only [encS51, sv, dec_t d0, Bool.not_true, Bool.not_false]) ?_
      refine EL.quick 2 [0, 1, 5, 6, 7, 28, 29, 30] [(0, sv (some a5) a3 a0), (1, ig a7), (5, sv a8 a9 a6), (6, ia a1), (7, pt a2 0), (28, .bool (true)), (29, sv (some a5) a3 a0), (30, ia a1)] (by kernel_rfl) ?_
      refine EL.of (EO.Y (YO.idx 24 2 a5 a0.length a3 .i64 a1 31 (by kernel_rfl) (by kernel_rfl) (by kernel_rfl) (by kernel_rfl) b1 b0) ?_)
      refine EL.of (EO.Y (YO.idxEp hS (Rd.ro 0 rfl) a1 b1 b0 51 2 0 2 1 1 .i64 32 (by kernel_rfl) (by kernel_rfl) (by kernel_rfl) (by kernel_rfl) (by kernel_rfl)) ?_)
      refine EL.of (EO.Y (YO.loadEl hS kS51 a5 a3 a0 (Rd.ro 0 rfl) zS51 encS51 encS51_of a1 b1 b0 5 2 1 1 rfl (ig ((a0.getD a1.toNat zS51).f1)) 33 (by kernel_rfl) (by kernel_rfl) (by kernel_rfl) (by kernel_rfl)) ?_)
      refine EL.quick 3 [0, 1, 5, 6, 7, 29, 30, 31, 32, 33, 34, 35, 36] [(0, sv (some a5) a3 a0), (1, ig a7), (5, sv a8 a9 a6), (6, ia a1), (7, pt a2 0), (29, sv (some a5) a3 a0), (30, ia a1), (31, .pointer (some ((a5.add (a1.toNat * 2)).add 0))), (32, .pointer (some ((a5.add (a1.toNat * 2)).add 1))), (33, ig ((a0.getD a1.toNat zS51).f1)), (34, ig (Int.tmod ((a0.getD a1.toNat zS51).f1) 4)), (35, .bool (decide ((Int.tmod ((a0.getD a1.toNat zS51).f1) 4) > 0))), (36, .bool (decide ((Int.tmod ((a0.getD a1.toNat zS51).f1) 4) > 0)))] (by kernel_rfl) ?_
      refine EL.done (by kernel_rfl) ?_
      refine EQ.to ?_
      refine EQ.keep [0, 1, 5, 6, 7, 36] [(0, sv (some a5) a3 a0), (1, ig a7), (5, sv a8 a9 a6), (6, ia a1), (7, pt a2 0), (36, .bool (decide ((Int.tmod ((a0.getD a1.toNat zS51).f1) 4) > 0)))] (by kernel_rfl) ?_
      exact fun a ha => ⟨decide ((Int.tmod ((a0.getD a1.toNat zS51).f1) 4) > 0), ha, (hS.re [1, 1] [] rfl (sub_cons 0 rfl (sub_tail (sub_self)))), H⟩
     rw [if_neg d0] at H
     refine EL.keep [0, 1, 5, 6, 7, 28] [(0, sv (some a5) a3 a0), (1, ig a7), (5, sv a8 a9 a6), (6, ia a1), (7, pt a2 0), (28, .bool (decide ((Int.tmod a7 3) = 0)))] (by kernel_rfl) ?_
     refine EL.as' [(0, sv (some a5) a3 a0), (1, ig a7), (5, sv a8 a9 a6), (6, ia a1), (7, pt a2 0), (28, .bool (false))] (by simp only [encS51, sv, dec_f d0, Bool.not_true, Bool.not_false]) ?_
     refine EL.quick 8 [0, 1, 5, 6, 7, 36] [(0, sv (some a5) a3 a0), (1, ig a7), (5, sv a8 a9 a6), (6, ia a1), (7, pt a2 0), (36, .bool (false))] (by kernel_rfl) ?_
     refine EL.done (by kernel_rfl) ?_
     refine EQ.to ?_
     refine EQ.keep [0, 1, 5, 6, 7, 36] [(0, sv (some a5) a3 a0), (1, ig a7), (5, sv a8 a9 a6), (6, ia a1), (7, pt a2 0), (36, .bool (false))] (by kernel_rfl) ?_
     exact fun a ha => ⟨false, ha, (hS.re [1, 1] [] rfl (sub_cons 0 rfl (sub_tail (sub_self)))), H⟩
    obtain ⟨c6, ha, hS, H⟩ := hI
    rw [g0] at H
    (try dsimp only at H)
    refine EW.at ?_ a ha
    clear ha a
    refine EW.cdP' (c6) (by kernel_rfl) (by kernel_rfl) (fun e1 => ?_) (fun e1 => ?_)
    ·rw [if_pos e1] at H
     refine EW.sq (by kernel_rfl) ?_
     refine EW.rg (by kernel_rfl) ?_
     obtain ⟨a4, f3, H⟩ := lt_out H
     refine EL.of (EO.lit hS (Kd.int .i64) 3 39 8 #[(0, ia 1), (1, ia 3), (2, ia 12), (3, ia 1), (4, ia 11), (5, ia 10), (6, ia 2), (7, ia 4)] [ia 1, ia 3, ia 12, ia 1, ia 11, ia 10, ia 2, ia 4] a4 37 (by kernel_rfl) (by kernel_rfl) (by kernel_rfl) (fun _ => (by kernel_rfl)) (by rw [f3]; rfl) (by kernel_rfl) (fun w G hr => (by rw [f3]; exact ⟨[ia 1], [ia 3, ia 12, ia 1, ia 11, ia 10, ia 2, ia 4], rfl, rfl, ⟨[ia 3], [ia 12, ia 1, ia 11, ia 10, ia 2, ia 4], rfl, rfl, ⟨[ia 12], [ia 1, ia 11, ia 10, ia 2, ia 4], rfl, rfl, ⟨[ia 1], [ia 11, ia 10, ia 2, ia 4], rfl, rfl, ⟨[ia 11], [ia 10, ia 2, ia 4], rfl, rfl, ⟨[ia 10], [ia 2, ia 4], rfl, rfl, ⟨[ia 2], [ia 4], rfl, rfl, ⟨[ia 4], [], rfl, rfl, rfl⟩⟩⟩⟩⟩⟩⟩⟩)) ?_)
     intro b8 w hS
     refine EL.quick 2 [0, 1, 5, 6, 7, 37, 38, 39] [(0, sv (some a5) a3 a0), (1, ig a7), (5, sv a8 a9 a6), (6, ia a1), (7, pt a2 0), (37, sv (some ⟨b8, 0, none⟩) 8 a4), (38, sv (some a5) a3 a0), (39, ia a1)] (by kernel_rfl) ?_
     refine EL.of (EO.Y (YO.idx 24 2 a5 a0.length a3 .i64 a1 40 (by kernel_rfl) (by kernel_rfl) (by kernel_rfl) (by kernel_rfl) b1 b0) ?_)
     refine EL.of (EO.Y (YO.idxEp hS (Rd.ro 0 rfl) a1 b1 b0 51 2 0 2 1 0 .i64 41 (by kernel_rfl) (by kernel_rfl) (by kernel_rfl) (by kernel_rfl) (by kernel_rfl)) ?_)
     refine EL.of (EO.Y (YO.loadEl hS kS51 a5 a3 a0 (Rd.ro 0 rfl) zS51 encS51 encS51_of a1 b1 b0 5 2 0 1 rfl (ig ((a0.getD a1.toNat zS51).f0)) 42 (by kernel_rfl) (by kernel_rfl) (by kernel_rfl) (by kernel_rfl)) ?_)
     refine EL.quick 1 [0, 1, 5, 6, 7, 37, 43] [(0, sv (some a5) a3 a0), (1, ig a7), (5, sv a8 a9 a6), (6, ia a1), (7, pt a2 0), (37, sv (some ⟨b8, 0, none⟩) 8 a4), (43, ig (Int.tmod ((a0.getD a1.toNat zS51).f0) 8))] (by kernel_rfl) ?_
     obtain ⟨e8, H⟩ := ite_in H
     obtain ⟨e9, H⟩ := ite_in H
     refine EL.of (EO.Y (YO.idx 39 1 ⟨b8, 0, none⟩ a4.length 8 .u8 (Int.tmod ((a0.getD a1.toNat zS51).f0) 8) 44 (by kernel_rfl) (by kernel_rfl) (by kernel_rfl) (by kernel_rfl) e8 e9) ?_)
     refine EL.of (EO.Y (YO.loadEl hS (Kd.int .i64) ⟨b8, 0, none⟩ 8 a4 (Rd.own 0 3 rfl) 0 (encI .i64) encI_of (Int.tmod ((a0.getD a1.toNat zS51).f0) 8) e8 e9 3 1 0 1 rfl (ia (a4.getD (Int.tmod ((a0.getD a1.toNat zS51).f0) 8).toNat 0)) 45 (by kernel_rfl) (by kernel_rfl) (by kernel_rfl) (by kernel_rfl)) ?_)
     refine EL.quick 1 [0, 1, 5, 6, 7, 46] [(0, sv (some a5) a3 a0), (1, ig a7), (5, sv a8 a9 a6), (6, ia a1), (7, pt a2 0), (46, ag [ia (a4.getD (Int.tmod ((a0.getD a1.toNat zS51).f0) 8).toNat 0), ib 0])] (by kernel_rfl) ?_
     refine EL.of (EO.storeBox (os' := Ass.own 3 (Kd.int .i64) (some ⟨b8, 0, none⟩) 8 a4 :: Ass.box 32 a2 [ia (a4.getD (Int.tmod ((a0.getD a1.toNat zS51).f0) 8).toNat 0), ib 0] :: Ass.own 32 kS32 a8 a9 a6 :: os) hS 1 rfl 32 0 (ag [ia (a4.getD (Int.tmod ((a0.getD a1.toNat zS51).f0) 8).toNat 0), ib 0]) [ia (a4.getD (Int.tmod ((a0.getD a1.toNat zS51).f0) 8).toNat 0), ib 0] (by kernel_rfl) (by kernel_rfl) (by kernel_rfl) (by kernel_rfl) (by kernel_rfl) (by kernel_rfl) rfl rfl ?_)
     intro w hS
     refine EL.done (by kernel_rfl) ?_
     refine EQ.code ?_
     obtain ⟨d6, g1, H⟩ := lt_out H
     refine EW.ct (fun a w => ∃ c1 : Int, Sat 97 [(0, sv (some a5) a3 a0), (1, ig a7), (5, sv a8 a9 a6), (6, ia a1), (7, pt a2 0)] a ∧ St B w (Ass.own 3 (Kd.int .i64) (some ⟨b8, 0, none⟩) 8 a4 :: Ass.box 32 a2 [ia (a4.getD (Int.tmod ((a0.getD a1.toNat zS51).f0) 8).toNat 0), ib c1] :: Ass.own 32 kS32 a8 a9 a6 :: os) (Ro.sl kS51 (some a5) a3 a0 :: rs) ∧ d6 c1 = some b9) (by kernel_rfl) ?_ (fun a w hI => ?_)
     ·obtain ⟨c4, g2, H⟩ := lt_out H
      refine EW.ct (fun a w => ∃ c7 : Bool, Sat 97 [(0, sv (some a5) a3 a0), (1, ig a7), (5, sv a8 a9 a6), (6, ia a1), (7, pt a2 0), (64, .bool (c7))] a ∧ St B w (Ass.own 3 (Kd.int .i64) (some ⟨b8, 0, none⟩) 8 a4 :: Ass.box 32 a2 [ia (a4.getD (Int.tmod ((a0.getD a1.toNat zS51).f0) 8).toNat 0), ib 0] :: Ass.own 32 kS32 a8 a9 a6 :: os) (Ro.sl kS51 (some a5) a3 a0 :: rs) ∧ c4 c7 = some b9) (by kernel_rfl) ?_ (fun a w hI => ?_)
      ·refine EW.rg (by kernel_rfl) ?_
       refine EL.quick 1 [0, 1, 5, 6, 7, 47] [(0, sv (some a5) a3 a0), (1, ig a7), (5, sv a8 a9 a6), (6, ia a1), (7, pt a2 0), (47, pt a2 0)] (by kernel_rfl) ?_
       refine EL.of (EO.Y (YO.loadBox hS 1 rfl 3 0 1 (ia (a4.getD (Int.tmod ((a0.getD a1.toNat zS51).f0) 8).toNat 0)) 48 (by kernel_rfl) (by kernel_rfl) (by kernel_rfl) (by kernel_rfl)) ?_)
       refine EL.quick 2 [0, 1, 5, 6, 7, 50] [(0, sv (some a5) a3 a0), (1, ig a7), (5, sv a8 a9 a6), (6, ia a1), (7, pt a2 0), (50, .bool (decide ((a4.getD (Int.tmod ((a0.getD a1.toNat zS51).f0) 8).toNat 0) = 1)))] (by kernel_rfl) ?_
       by_cases d1 : (a4.getD (Int.tmod ((a0.getD a1.toNat zS51).f0) 8).toNat 0) = 1
       ·rw [if_pos d1] at H
        refine EL.keep [0, 1, 5, 6, 7, 50] [(0, sv (some a5) a3 a0), (1, ig a7), (5, sv a8 a9 a6), (6, ia a1), (7, pt a2 0), (50, .bool (decide ((a4.getD (Int.tmod ((a0.getD a1.toNat zS51).f0) 8).toNat 0) = 1)))] (by kernel_rfl) ?_
        refine EL.as' [(0, sv (some a5) a3 a0), (1, ig a7), (5, sv a8 a9 a6), (6, ia a1), (7, pt a2 0), (50, .bool (true))] (by simp only [encS51, sv, dec_t d1, Bool.not_true, Bool.not_false]) ?_
        refine EL.quick 14 [0, 1, 5, 6, 7, 64] [(0, sv (some a5) a3 a0), (1, ig a7), (5, sv a8 a9 a6), (6, ia a1), (7, pt a2 0), (64, .bool (true))] (by kernel_rfl) ?_
        refine EL.done (by kernel_rfl) ?_
        refine EQ.to ?_
        refine EQ.keep [0, 1, 5, 6, 7, 64] [(0, sv (some a5) a3 a0), (1, ig a7), (5, sv a8 a9 a6), (6, ia a1), (7, pt a2 0), (64, .bool (true))] (by kernel_rfl) ?_
        exact fun a ha => ⟨true, ha, (hS.re [2, 2, 2] [] rfl (sub_cons 0 rfl (sub_tail (sub_self)))), H⟩
       rw [if_neg d1] at H
       refine EL.keep [0, 1, 5, 6, 7, 50] [(0, sv (some a5) a3 a0), (1, ig a7), (5, sv a8 a9 a6), (6, ia a1), (7, pt a2 0), (50, .bool (decide ((a4.getD (Int.tmod ((a0.getD a1.toNat zS51).f0) 8).toNat 0) = 1)))] (by kernel_rfl) ?_
       refine EL.as' [(0, sv (some a5) a3 a0), (1, ig a7), (5, sv a8 a9 a6), (6, ia a1), (7, pt a2 0), (50, .bool (false))] (by simp only [encS51, sv, dec_f d1, Bool.not_true, Bool.not_false]) ?_
       refine EL.quick 1 [0, 1, 5, 6, 7, 50, 51] [(0, sv (some a5) a3 a0), (1, ig a7), (5, sv a8 a9 a6), (6, ia a1), (7, pt a2 0), (50, .bool (false)), (51, pt a2 0)] (by kernel_rfl) ?_
       refine EL.of (EO.Y (YO.loadBox hS 1 rfl 3 0 1 (ia (a4.getD (Int.tmod ((a0.getD a1.toNat zS51).f0) 8).toNat 0)) 52 (by kernel_rfl) (by kernel_rfl) (by kernel_rfl) (by kernel_rfl)) ?_)
       refine EL.quick 3 [0, 1, 5, 6, 7, 51, 52, 53, 55] [(0, sv (some a5) a3 a0), (1, ig a7), (5, sv a8 a9 a6), (6, ia a1), (7, pt a2 0), (51, pt a2 0), (52, ia (a4.getD (Int.tmod ((a0.getD a1.toNat zS51).f0) 8).toNat 0)), (53, .bool (decide ((a4.getD (Int.tmod ((a0.getD a1.toNat zS51).f0) 8).toNat 0) = 12))), (55, .bool (decide ((a4.getD (Int.tmod ((a0.getD a1.toNat zS51).f0) 8).toNat 0) = 12)))] (by kernel_rfl) ?_
       by_cases d2 : (a4.getD (Int.tmod ((a0.getD a1.toNat zS51).f0) 8).toNat 0) = 12
       ·rw [if_pos d2] at H
        refine EL.keep [0, 1, 5, 6, 7, 51, 52, 53, 55] [(0, sv (some a5) a3 a0), (1, ig a7), (5, sv a8 a9 a6), (6, ia a1), (7, pt a2 0), (51, pt a2 0), (52, ia (a4.getD (Int.tmod ((a0.getD a1.toNat zS51).f0) 8).toNat 0)), (53, .bool (decide ((a4.getD (Int.tmod ((a0.getD a1.toNat zS51).f0) 8).toNat 0) = 12))), (55, .bool (decide ((a4.getD (Int.tmod ((a0.getD a1.toNat zS51).f0) 8).toNat 0) = 12)))] (by kernel_rfl) ?_
        refine EL.as' [(0, sv (some a5) a3 a0), (1, ig a7), (5, sv a8 a9 a6), (6, ia a1), (7, pt a2 0), (51, pt a2 0), (52, ia (a4.getD (Int.tmod ((a0.getD a1.toNat zS51).f0) 8).toNat 0)), (53, .bool (true)), (55, .bool (true))] (by simp only [encS51, sv, dec_t d2, Bool.not_true, Bool.not_false]) ?_
        refine EL.quick 9 [0, 1, 5, 6, 7, 51, 52, 53, 64] [(0, sv (some a5) a3 a0), (1, ig a7), (5, sv a8 a9 a6), (6, ia a1), (7, pt a2 0), (51, pt a2 0), (52, ia (a4.getD (Int.tmod ((a0.getD a1.toNat zS51).f0) 8).toNat 0)), (53, .bool (true)), (64, .bool (true))] (by kernel_rfl) ?_
        obtain ⟨f5, g5, H⟩ := lt_out H
        refine EL.keep [0, 1, 5, 6, 7, 51, 52, 53, 64] [(0, sv (some a5) a3 a0), (1, ig a7), (5, sv a8 a9 a6), (6, ia a1), (7, pt a2 0), (51, pt a2 0), (52, ia (a4.getD (Int.tmod ((a0.getD a1.toNat zS51).f0) 8).toNat 0)), (53, .bool (true)), (64, .bool (true))] (by kernel_rfl) ?_
        refine EL.as' [(0, sv (some a5) a3 a0), (1, ig a7), (5, sv a8 a9 a6), (6, ia a1), (7, pt a2 0), (51, pt a2 0), (52, ia f5), (53, .bool (true)), (64, .bool (true))] (by subst g5; rfl) ?_
        refine EL.done (by kernel_rfl) ?_
        refine EQ.to ?_
        refine EQ.keep [0, 1, 5, 6, 7, 64] [(0, sv (some a5) a3 a0), (1, ig a7), (5, sv a8 a9 a6), (6, ia a1), (7, pt a2 0), (64, .bool (true))] (by kernel_rfl) ?_
        exact fun a ha => ⟨true, ha, (hS.re [2, 2, 2] [] rfl (sub_cons 0 rfl (sub_tail (sub_self)))), H⟩
       rw [if_neg d2] at H
       refine EL.keep [0, 1, 5, 6, 7, 51, 52, 53, 55] [(0, sv (some a5) a3 a0), (1, ig a7), (5, sv a8 a9 a6), (6, ia a1), (7, pt a2 0), (51, pt a2 0), (52, ia (a4.getD (Int.tmod ((a0.getD a1.toNat zS51).f0) 8).toNat 0)), (53, .bool (decide ((a4.getD (Int.tmod ((a0.getD a1.toNat zS51).f0) 8).toNat 0) = 12))), (55, .bool (decide ((a4.getD (Int.tmod ((a0.getD a1.toNat zS51).f0) 8).toNat 0) = 12)))] (by kernel_rfl) ?_
       refine EL.as' [(0, sv (some a5) a3 a0), (1, ig a7), (5, sv a8 a9 a6), (6, ia a1), (7, pt a2 0), (51, pt a2 0), (52, ia (a4.getD (Int.tmod ((a0.getD a1.toNat zS51).f0) 8).toNat 0)), (53, .bool (false)), (55, .bool (false))] (by simp only [encS51, sv, dec_f d2, Bool.not_true, Bool.not_false]) ?_
       refine EL.quick 1 [0, 1, 5, 6, 7, 51, 52, 53, 55, 56] [(0, sv (some a5) a3 a0), (1, ig a7), (5, sv a8 a9 a6), (6, ia a1), (7, pt a2 0), (51, pt a2 0), (52, ia (a4.getD (Int.tmod ((a0.getD a1.toNat zS51).f0) 8).toNat 0)), (53, .bool (false)), (55, .bool (false)), (56, pt a2 0)] (by kernel_rfl) ?_
       refine EL.of (EO.Y (YO.loadBox hS 1 rfl 3 0 1 (ia (a4.getD (Int.tmod ((a0.getD a1.toNat zS51).f0) 8).toNat 0)) 57 (by kernel_rfl) (by kernel_rfl) (by kernel_rfl) (by kernel_rfl)) ?_)
       refine EL.quick 3 [0, 1, 5, 6, 7, 51, 52, 53, 56, 57, 58, 60] [(0, sv (some a5) a3 a0), (1, ig a7), (5, sv a8 a9 a6), (6, ia a1), (7, pt a2 0), (51, pt a2 0), (52, ia (a4.getD (Int.tmod ((a0.getD a1.toNat zS51).f0) 8).toNat 0)), (53, .bool (false)), (56, pt a2 0), (57, ia (a4.getD (Int.tmod ((a0.getD a1.toNat zS51).f0) 8).toNat 0)), (58, .bool (decide ((a4.getD (Int.tmod ((a0.getD a1.toNat zS51).f0) 8).toNat 0) = 10))), (60, .bool (decide ((a4.getD (Int.tmod ((a0.getD a1.toNat zS51).f0) 8).toNat 0) = 10)))] (by kernel_rfl) ?_
       by_cases d3 : (a4.getD (Int.tmod ((a0.getD a1.toNat zS51).f0) 8).toNat 0) = 10
       ·rw [if_pos d3] at H
        refine EL.keep [0, 1, 5, 6, 7, 51, 52, 53, 56, 57, 58, 60] [(0, sv (some a5) a3 a0), (1, ig a7), (5, sv a8 a9 a6), (6, ia a1), (7, pt a2 0), (51, pt a2 0), (52, ia (a4.getD (Int.tmod ((a0.getD a1.toNat zS51).f0) 8).toNat 0)), (53, .bool (false)), (56, pt a2 0), (57, ia (a4.getD (Int.tmod ((a0.getD a1.toNat zS51).f0) 8).toNat 0)), (58, .bool (decide ((a4.getD (Int.tmod ((a0.getD a1.toNat zS51).f0) 8).toNat 0) = 10))), (60, .bool (decide ((a4.getD (Int.tmod ((a0.getD a1.toNat zS51).f0) 8).toNat 0) = 10)))] (by kernel_rfl) ?_
        refine EL.as' [(0, sv (some a5) a3 a0), (1, ig a7), (5, sv a8 a9 a6), (6, ia a1), (7, pt a2 0), (51, pt a2 0), (52, ia (a4.getD (Int.tmod ((a0.getD a1.toNat zS51).f0) 8).toNat 0)), (53, .bool (false)), (56, pt a2 0), (57, ia (a4.getD (Int.tmod ((a0.getD a1.toNat zS51).f0) 8).toNat 0)), (58, .bool (true)), (60, .bool (true))] (by simp only [encS51, sv, dec_t d3, Bool.not_true, Bool.not_false]) ?_
        refine EL.quick 4 [0, 1, 5, 6, 7, 51, 52, 53, 56, 57, 58, 64] [(0, sv (some a5) a3 a0), (1, ig a7), (5, sv a8 a9 a6), (6, ia a1), (7, pt a2 0), (51, pt a2 0), (52, ia (a4.getD (Int.tmod ((a0.getD a1.toNat zS51).f0) 8).toNat 0)), (53, .bool (false)), (56, pt a2 0), (57, ia (a4.getD (Int.tmod ((a0.getD a1.toNat zS51).f0) 8).toNat 0)), (58, .bool (true)), (64, .bool (true))] (by kernel_rfl) ?_
        obtain ⟨e4, g6, H⟩ := lt_out H
        refine EL.keep [0, 1, 5, 6, 7, 51, 52, 53, 56, 57, 58, 64] [(0, sv (some a5) a3 a0), (1, ig a7), (5, sv a8 a9 a6), (6, ia a1), (7, pt a2 0), (51, pt a2 0), (52, ia (a4.getD (Int.tmod ((a0.getD a1.toNat zS51).f0) 8).toNat 0)), (53, .bool (false)), (56, pt a2 0), (57, ia (a4.getD (Int.tmod ((a0.getD a1.toNat zS51).f0) 8).toNat 0)), (58, .bool (true)), (64, .bool (true))] (by kernel_rfl) ?_
        refine EL.as' [(0, sv (some a5) a3 a0), (1, ig a7), (5, sv a8 a9 a6), (6, ia a1), (7, pt a2 0), (51, pt a2 0), (52, ia e4), (53, .bool (false)), (56, pt a2 0), (57, ia e4), (58, .bool (true)), (64, .bool (true))] (by subst g6; rfl) ?_
        refine EL.done (by kernel_rfl) ?_
        refine EQ.to ?_
        refine EQ.keep [0, 1, 5, 6, 7, 64] [(0, sv (some a5) a3 a0), (1, ig a7), (5, sv a8 a9 a6), (6, ia a1), (7, pt a2 0), (64, .bool (true))] (by kernel_rfl) ?_
        exact fun a ha => ⟨true, ha, (hS.re [2, 2, 2] [] rfl (sub_cons 0 rfl (sub_tail (sub_self)))), H⟩
       rw [if_neg d3] at H
       refine EL.keep [0, 1, 5, 6, 7, 51, 52, 53, 56, 57, 58, 60] [(0, sv (some a5) a3 a0), (1, ig a7), (5, sv a8 a9 a6), (6, ia a1), (7, pt a2 0), (51, pt a2 0), (52, ia (a4.getD (Int.tmod ((a0.getD a1.toNat zS51).f0) 8).toNat 0)), (53, .bool (false)), (56, pt a2 0), (57, ia (a4.getD (Int.tmod ((a0.getD a1.toNat zS51).f0) 8).toNat 0)), (58, .bool (decide ((a4.getD (Int.tmod ((a0.getD a1.toNat zS51).f0) 8).toNat 0) = 10))), (60, .bool (decide ((a4.getD (Int.tmod ((a0.getD a1.toNat zS51).f0) 8).toNat 0) = 10)))] (by kernel_rfl) ?_
       refine EL.as' [(0, sv (some a5) a3 a0), (1, ig a7), (5, sv a8 a9 a6), (6, ia a1), (7, pt a2 0), (51, pt a2 0), (52, ia (a4.getD (Int.tmod ((a0.getD a1.toNat zS51).f0) 8).toNat 0)), (53, .bool (false)), (56, pt a2 0), (57, ia (a4.getD (Int.tmod ((a0.getD a1.toNat zS51).f0) 8).toNat 0)), (58, .bool (false)), (60, .bool (false))] (by simp only [encS51, sv, dec_f d3, Bool.not_true, Bool.not_false]) ?_
       refine EL.quick 1 [0, 1, 5, 6, 7, 51, 52, 53, 56, 57, 58, 60, 61] [(0, sv (some a5) a3 a0), (1, ig a7), (5, sv a8 a9 a6), (6, ia a1), (7, pt a2 0), (51, pt a2 0), (52, ia (a4.getD (Int.tmod ((a0.getD a1.toNat zS51).f0) 8).toNat 0)), (53, .bool (false)), (56, pt a2 0), (57, ia (a4.getD (Int.tmod ((a0.getD a1.toNat zS51).f0) 8).toNat 0)), (58, .bool (false)), (60, .bool (false)), (61, pt a2 0)] (by kernel_rfl) ?_
       refine EL.of (EO.Y (YO.loadBox hS 1 rfl 3 0 1 (ia (a4.getD (Int.tmod ((a0.getD a1.toNat zS51).f0) 8).toNat 0)) 62 (by kernel_rfl) (by kernel_rfl) (by kernel_rfl) (by kernel_rfl)) ?_)
       refine EL.quick 2 [0, 1, 5, 6, 7, 51, 52, 53, 56, 57, 58, 61, 62, 63, 64] [(0, sv (some a5) a3 a0), (1, ig a7), (5, sv a8 a9 a6), (6, ia a1), (7, pt a2 0), (51, pt a2 0), (52, ia (a4.getD (Int.tmod ((a0.getD a1.toNat zS51).f0) 8).toNat 0)), (53, .bool (false)), (56, pt a2 0), (57, ia (a4.getD (Int.tmod ((a0.getD a1.toNat zS51).f0) 8).toNat 0)), (58, .bool (false)), (61, pt a2 0), (62, ia (a4.getD (Int.tmod ((a0.getD a1.toNat zS51).f0) 8).toNat 0)), (63, .bool (decide ((a4.getD (Int.tmod ((a0.getD a1.toNat zS51).f0) 8).toNat 0) = 11))), (64, .bool (decide ((a4.getD (Int.tmod ((a0.getD a1.toNat zS51).f0) 8).toNat 0) = 11)))] (by kernel_rfl) ?_
       obtain ⟨d8, g7, H⟩ := lt_out H
       refine EL.keep [0, 1, 5, 6, 7, 51, 52, 53, 56, 57, 58, 61, 62, 63, 64] [(0, sv (some a5) a3 a0), (1, ig a7), (5, sv a8 a9 a6), (6, ia a1), (7, pt a2 0), (51, pt a2 0), (52, ia (a4.getD (Int.tmod ((a0.getD a1.toNat zS51).f0) 8).toNat 0)), (53, .bool (false)), (56, pt a2 0), (57, ia (a4.getD (Int.tmod ((a0.getD a1.toNat zS51).f0) 8).toNat 0)), (58, .bool (false)), (61, pt a2 0), (62, ia (a4.getD (Int.tmod ((a0.getD a1.toNat zS51).f0) 8).toNat 0)), (63, .bool (decide ((a4.getD (Int.tmod ((a0.getD a1.toNat zS51).f0) 8).toNat 0) = 11))), (64, .bool (decide ((a4.getD (Int.tmod ((a0.getD a1.toNat zS51).f0) 8).toNat 0) = 11)))] (by kernel_rfl) ?_
       refine EL.as' [(0, sv (some a5) a3 a0), (1, ig a7), (5, sv a8 a9 a6), (6, ia a1), (7, pt a2 0), (51, pt a2 0), (52, ia d8), (53, .bool (false)), (56, pt a2 0), (57, ia d8), (58, .bool (false)), (61, pt a2 0), (62, ia d8), (63, .bool (decide ((a4.getD (Int.tmod ((a0.getD a1.toNat zS51).f0) 8).toNat 0) = 11))), (64, .bool (decide ((a4.getD (Int.tmod ((a0.getD a1.toNat zS51).f0) 8).toNat 0) = 11)))] (by subst g7; rfl) ?_
       refine EL.done (by kernel_rfl) ?_
       refine EQ.to ?_
       refine EQ.keep [0, 1, 5, 6, 7, 64] [(0, sv (some a5) a3 a0), (1, ig a7), (5, sv a8 a9 a6), (6, ia a1), (7, pt a2 0), (64, .bool (decide ((a4.getD (Int.tmod ((a0.getD a1.toNat zS51).f0) 8).toNat 0) = 11)))] (by kernel_rfl) ?_
       exact fun a ha => ⟨decide ((a4.getD (Int.tmod ((a0.getD a1.toNat zS51).f0) 8).toNat 0) = 11), ha, (hS.re [2, 2, 2] [] rfl (sub_cons 0 rfl (sub_tail (sub_self)))), H⟩
      obtain ⟨c7, ha, hS, H⟩ := hI
      rw [g2] at H
      (try dsimp only at H)
      refine EW.at ?_ a ha
      clear ha a
      refine EW.cdP' (c7) (by kernel_rfl) (by kernel_rfl) (fun e2 => ?_) (fun e2 => ?_)
      ·rw [if_pos e2] at H
       refine EW.rg (by kernel_rfl) ?_
       refine EL.quick 2 [0, 1, 5, 6, 7, 65, 66] [(0, sv (some a5) a3 a0), (1, ig a7), (5, sv a8 a9 a6), (6, ia a1), (7, pt a2 0), (65, sv (some a5) a3 a0), (66, ia a1)] (by kernel_rfl) ?_
       refine EL.of (EO.Y (YO.idx 24 2 a5 a0.length a3 .i64 a1 67 (by kernel_rfl) (by kernel_rfl) (by kernel_rfl) (by kernel_rfl) b1 b0) ?_)
       refine EL.of (EO.Y (YO.idxEp hS (Rd.ro 0 rfl) a1 b1 b0 51 2 0 2 1 1 .i64 68 (by kernel_rfl) (by kernel_rfl) (by kernel_rfl) (by kernel_rfl) (by kernel_rfl)) ?_)
       refine EL.of (EO.Y (YO.loadEl hS kS51 a5 a3 a0 (Rd.ro 0 rfl) zS51 encS51 encS51_of a1 b1 b0 5 2 1 1 rfl (ig ((a0.getD a1.toNat zS51).f1)) 69 (by kernel_rfl) (by kernel_rfl) (by kernel_rfl) (by kernel_rfl)) ?_)
       refine EL.quick 3 [0, 1, 5, 6, 7, 71, 72] [(0, sv (some a5) a3 a0), (1, ig a7), (5, sv a8 a9 a6), (6, ia a1), (7, pt a2 0), (71, ib (IntKind.i32.wrap (Int.tmod ((a0.getD a1.toNat zS51).f1) 4))), (72, pt a2 1)] (by kernel_rfl) ?_
       refine EL.of (EO.storeBox (os' := Ass.own 3 (Kd.int .i64) (some ⟨b8, 0, none⟩) 8 a4 :: Ass.box 32 a2 [ia (a4.getD (Int.tmod ((a0.getD a1.toNat zS51).f0) 8).toNat 0), ib (IntKind.i32.wrap (Int.tmod ((a0.getD a1.toNat zS51).f1) 4))] :: Ass.own 32 kS32 a8 a9 a6 :: os) hS 1 rfl 21 1 (ib (IntKind.i32.wrap (Int.tmod ((a0.getD a1.toNat zS51).f1) 4))) [ia (a4.getD (Int.tmod ((a0.getD a1.toNat zS51).f0) 8).toNat 0), ib (IntKind.i32.wrap (Int.tmod ((a0.getD a1.toNat zS51).f1) 4))] (by kernel_rfl) (by kernel_rfl) (by kernel_rfl) (by kernel_rfl) (by kernel_rfl) (by kernel_rfl) rfl rfl ?_)
       intro w hS
       refine EL.done (by kernel_rfl) ?_
       refine EQ.to ?_
       refine EQ.keep [0, 1, 5, 6, 7] [(0, sv (some a5) a3 a0), (1, ig a7), (5, sv a8 a9 a6), (6, ia a1), (7, pt a2 0)] (by kernel_rfl) ?_
       exact fun a ha => ⟨IntKind.i32.wrap (Int.tmod ((a0.getD a1.toNat zS51).f1) 4), ha, (hS.re [2, 2, 2] [] rfl (sub_cons 0 rfl (sub_tail (sub_self)))), H⟩
      rw [if_neg e2] at H
      refine EW.skip (by kernel_rfl) ?_
      refine EQ.to ?_
      refine EQ.keep [0, 1, 5, 6, 7] [(0, sv (some a5) a3 a0), (1, ig a7), (5, sv a8 a9 a6), (6, ia a1), (7, pt a2 0)] (by kernel_rfl) ?_
      exact fun a ha => ⟨0, ha, (hS.re [2, 2, 2] [] rfl (sub_cons 0 rfl (sub_tail (sub_self)))), H⟩
     obtain ⟨c1, ha, hS, H⟩ := hI
     rw [g1] at H
     (try dsimp only at H)
     refine EW.at ?_ a ha
     clear ha a
     obtain ⟨d7, g3, H⟩ := lt_out H
     refine EW.ct (fun a w => ∃ c8 : Bool, Sat 97 [(0, sv (some a5) a3 a0), (1, ig a7), (5, sv a8 a9 a6), (6, ia a1), (7, pt a2 0), (80, .bool (c8))] a ∧ St B w (Ass.own 3 (Kd.int .i64) (some ⟨b8, 0, none⟩) 8 a4 :: Ass.box 32 a2 [ia (a4.getD (Int.tmod ((a0.getD a1.toNat zS51).f0) 8).toNat 0), ib c1] :: Ass.own 32 kS32 a8 a9 a6 :: os) (Ro.sl kS51 (some a5) a3 a0 :: rs) ∧ d7 c8 = some b9) (by kernel_rfl) ?_ (fun a w hI => ?_)
     ·refine EW.rg (by kernel_rfl) ?_
      refine EL.quick 1 [0, 1, 5, 6, 7, 73] [(0, sv (some a5) a3 a0), (1, ig a7), (5, sv a8 a9 a6), (6, ia a1), (7, pt a2 0), (73, pt a2 0)] (by kernel_rfl) ?_
      refine EL.of (EO.Y (YO.loadBox hS 1 rfl 3 0 1 (ia (a4.getD (Int.tmod ((a0.getD a1.toNat zS51).f0) 8).toNat 0)) 74 (by kernel_rfl) (by kernel_rfl) (by kernel_rfl) (by kernel_rfl)) ?_)
      refine EL.quick 2 [0, 1, 5, 6, 7, 76] [(0, sv (some a5) a3 a0), (1, ig a7), (5, sv a8 a9 a6), (6, ia a1), (7, pt a2 0), (76, .bool (decide ((a4.getD (Int.tmod ((a0.getD a1.toNat zS51).f0) 8).toNat 0) = 10)))] (by kernel_rfl) ?_
      by_cases d4 : (a4.getD (Int.tmod ((a0.getD a1.toNat zS51).f0) 8).toNat 0) = 10
      ·rw [if_pos d4] at H
       refine EL.keep [0, 1, 5, 6, 7, 76] [(0, sv (some a5) a3 a0), (1, ig a7), (5, sv a8 a9 a6), (6, ia a1), (7, pt a2 0), (76, .bool (decide ((a4.getD (Int.tmod ((a0.getD a1.toNat zS51).f0) 8).toNat 0) = 10)))] (by kernel_rfl) ?_
       refine EL.as' [(0, sv (some a5) a3 a0), (1, ig a7), (5, sv a8 a9 a6), (6, ia a1), (7, pt a2 0), (76, .bool (true))] (by simp only [encS51, sv, dec_t d4, Bool.not_true, Bool.not_false]) ?_
       refine EL.quick 4 [0, 1, 5, 6, 7, 80] [(0, sv (some a5) a3 a0), (1, ig a7), (5, sv a8 a9 a6), (6, ia a1), (7, pt a2 0), (80, .bool (true))] (by kernel_rfl) ?_
       refine EL.done (by kernel_rfl) ?_
       refine EQ.to ?_
       refine EQ.keep [0, 1, 5, 6, 7, 80] [(0, sv (some a5) a3 a0), (1, ig a7), (5, sv a8 a9 a6), (6, ia a1), (7, pt a2 0), (80, .bool (true))] (by kernel_rfl) ?_
       exact fun a ha => ⟨true, ha, (hS.re [2, 2, 2] [] rfl (sub_cons 0 rfl (sub_tail (sub_self)))), H⟩
      rw [if_neg d4] at H
      refine EL.keep [0, 1, 5, 6, 7, 76] [(0, sv (some a5) a3 a0), (1, ig a7), (5, sv a8 a9 a6), (6, ia a1), (7, pt a2 0), (76, .bool (decide ((a4.getD (Int.tmod ((a0.getD a1.toNat zS51).f0) 8).toNat 0) = 10)))] (by kernel_rfl) ?_
      refine EL.as' [(0, sv (some a5) a3 a0), (1, ig a7), (5, sv a8 a9 a6), (6, ia a1), (7, pt a2 0), (76, .bool (false))] (by simp only [encS51, sv, dec_f d4, Bool.not_true, Bool.not_false]) ?_
      refine EL.quick 1 [0, 1, 5, 6, 7, 76, 77] [(0, sv (some a5) a3 a0), (1, ig a7), (5, sv a8 a9 a6), (6, ia a1), (7, pt a2 0), (76, .bool (false)), (77, pt a2 0)] (by kernel_rfl) ?_
      refine EL.of (EO.Y (YO.loadBox hS 1 rfl 3 0 1 (ia (a4.getD (Int.tmod ((a0.getD a1.toNat zS51).f0) 8).toNat 0)) 78 (by kernel_rfl) (by kernel_rfl) (by kernel_rfl) (by kernel_rfl)) ?_)
      refine EL.quick 2 [0, 1, 5, 6, 7, 77, 78, 79, 80] [(0, sv (some a5) a3 a0), (1, ig a7), (5, sv a8 a9 a6), (6, ia a1), (7, pt a2 0), (77, pt a2 0), (78, ia (a4.getD (Int.tmod ((a0.getD a1.toNat zS51).f0) 8).toNat 0)), (79, .bool (decide ((a4.getD (Int.tmod ((a0.getD a1.toNat zS51).f0) 8).toNat 0) = 11))), (80, .bool (decide ((a4.getD (Int.tmod ((a0.getD a1.toNat zS51).f0) 8).toNat 0) = 11)))] (by kernel_rfl) ?_
      obtain ⟨f6, g8, H⟩ := lt_out H
      refine EL.keep [0, 1, 5, 6, 7, 77, 78, 79, 80] [(0, sv (some a5) a3 a0), (1, ig a7), (5, sv a8 a9 a6), (6, ia a1), (7, pt a2 0), (77, pt a2 0), (78, ia (a4.getD (Int.tmod ((a0.getD a1.toNat zS51).f0) 8).toNat 0)), (79, .bool (decide ((a4.getD (Int.tmod ((a0.getD a1.toNat zS51).f0) 8).toNat 0) = 11))), (80, .bool (decide ((a4.getD (Int.tmod ((a0.getD a1.toNat zS51).f0) 8).toNat 0) = 11)))] (by kernel_rfl) ?_
      refine EL.as' [(0, sv (some a5) a3 a0), (1, ig a7), (5, sv a8 a9 a6), (6, ia a1), (7, pt a2 0), (77, pt a2 0), (78, ia f6), (79, .bool (decide ((a4.getD (Int.tmod ((a0.getD a1.toNat zS51).f0) 8).toNat 0) = 11))), (80, .bool (decide ((a4.getD (Int.tmod ((a0.getD a1.toNat zS51).f0) 8).toNat 0) = 11)))] (by subst g8; rfl) ?_
      refine EL.done (by kernel_rfl) ?_
      refine EQ.to ?_
      refine EQ.keep [0, 1, 5, 6, 7, 80] [(0, sv (some a5) a3 a0), (1, ig a7), (5, sv a8 a9 a6), (6, ia a1), (7, pt a2 0), (80, .bool (decide ((a4.getD (Int.tmod ((a0.getD a1.toNat zS51).f0) 8).toNat 0) = 11)))] (by kernel_rfl) ?_
      exact fun a ha => ⟨decide ((a4.getD (Int.tmod ((a0.getD a1.toNat zS51).f0) 8).toNat 0) = 11), ha, (hS.re [2, 2, 2] [] rfl (sub_cons 0 rfl (sub_tail (sub_self)))), H⟩
     obtain ⟨c8, ha, hS, H⟩ := hI
     rw [g3] at H
     (try dsimp only at H)
     refine EW.at ?_ a ha
     clear ha a
     refine EW.cdP' (c8) (by kernel_rfl) (by kernel_rfl) (fun e3 => ?_) (fun e3 => ?_)
     ·rw [if_pos e3] at H
      refine EW.rg (by kernel_rfl) ?_
      refine EL.quick 2 [0, 1, 5, 6, 7, 81, 82] [(0, sv (some a5) a3 a0), (1, ig a7), (5, sv a8 a9 a6), (6, ia a1), (7, pt a2 0), (81, sv (some a5) a3 a0), (82, ia a1)] (by kernel_rfl) ?_
      refine EL.of (EO.Y (YO.idx 24 2 a5 a0.length a3 .i64 a1 83 (by kernel_rfl) (by kernel_rfl) (by kernel_rfl) (by kernel_rfl) b1 b0) ?_)
      refine EL.of (EO.Y (YO.idxEp hS (Rd.ro 0 rfl) a1 b1 b0 51 2 0 2 1 1 .i64 84 (by kernel_rfl) (by kernel_rfl) (by kernel_rfl) (by kernel_rfl) (by kernel_rfl)) ?_)
      refine EL.of (EO.Y (YO.loadEl hS kS51 a5 a3 a0 (Rd.ro 0 rfl) zS51 encS51 encS51_of a1 b1 b0 5 2 1 1 rfl (ig ((a0.getD a1.toNat zS51).f1)) 85 (by kernel_rfl) (by kernel_rfl) (by kernel_rfl) (by kernel_rfl)) ?_)
      refine EL.quick 3 [0, 1, 5, 6, 7, 86, 88] [(0, sv (some a5) a3 a0), (1, ig a7), (5, sv a8 a9 a6), (6, ia a1), (7, pt a2 0), (86, ia (IntKind.i64.wrap ((a0.getD a1.toNat zS51).f1))), (88, ia (a0.length : Int))] (by kernel_rfl) ?_
      obtain ⟨f7, H⟩ := ite_out H
      refine EL.of (EO.Y (YO.div .rem .i64 (IntKind.i64.wrap ((a0.getD a1.toNat zS51).f1)) (a0.length : Int) (Int.tmod (IntKind.i64.wrap ((a0.getD a1.toNat zS51).f1)) (a0.length : Int)) 89 (by kernel_rfl) (by kernel_rfl) (by kernel_rfl) f7 (by first | exact .inl ⟨rfl, rfl⟩ | exact .inr ⟨rfl, rfl⟩)) ?_)
      refine EL.quick 2 [0, 1, 5, 6, 7, 90, 91] [(0, sv (some a5) a3 a0), (1, ig a7), (5, sv a8 a9 a6), (6, ia a1), (7, pt a2 0), (90, ib (IntKind.i32.wrap (Int.tmod (IntKind.i64.wrap ((a0.getD a1.toNat zS51).f1)) (a0.length : Int)))), (91, pt a2 1)] (by kernel_rfl) ?_
      refine EL.of (EO.storeBox (os' := Ass.own 3 (Kd.int .i64) (some ⟨b8, 0, none⟩) 8 a4 :: Ass.box 32 a2 [ia (a4.getD (Int.tmod ((a0.getD a1.toNat zS51).f0) 8).toNat 0), ib (IntKind.i32.wrap (Int.tmod (IntKind.i64.wrap ((a0.getD a1.toNat zS51).f1)) (a0.length : Int)))] :: Ass.own 32 kS32 a8 a9 a6 :: os) hS 1 rfl 21 1 (ib (IntKind.i32.wrap (Int.tmod (IntKind.i64.wrap ((a0.getD a1.toNat zS51).f1)) (a0.length : Int)))) [ia (a4.getD (Int.tmod ((a0.getD a1.toNat zS51).f0) 8).toNat 0), ib (IntKind.i32.wrap (Int.tmod (IntKind.i64.wrap ((a0.getD a1.toNat zS51).f1)) (a0.length : Int)))] (by kernel_rfl) (by kernel_rfl) (by kernel_rfl) (by kernel_rfl) (by kernel_rfl) (by kernel_rfl) rfl rfl ?_)
      intro w hS
      refine EL.done (by kernel_rfl) ?_
      refine EQ.to ?_
      refine EQ.keep [0, 1, 5, 6, 7] [(0, sv (some a5) a3 a0), (1, ig a7), (5, sv a8 a9 a6), (6, ia a1), (7, pt a2 0)] (by kernel_rfl) ?_
      exact fun a ha => ⟨(a4.getD (Int.tmod ((a0.getD a1.toNat zS51).f0) 8).toNat 0), IntKind.i32.wrap (Int.tmod (IntKind.i64.wrap ((a0.getD a1.toNat zS51).f1)) (a0.length : Int)), ha, (hS.re [2, 2] [2] rfl (sub_cons 0 rfl (sub_tail (sub_self)))), H⟩
     rw [if_neg e3] at H
     refine EW.skip (by kernel_rfl) ?_
     refine EQ.to ?_
     refine EQ.keep [0, 1, 5, 6, 7] [(0, sv (some a5) a3 a0), (1, ig a7), (5, sv a8 a9 a6), (6, ia a1), (7, pt a2 0)] (by kernel_rfl) ?_
     exact fun a ha => ⟨(a4.getD (Int.tmod ((a0.getD a1.toNat zS51).f0) 8).toNat 0), c1, ha, (hS.re [2, 2] [2] rfl (sub_cons 0 rfl (sub_tail (sub_self)))), H⟩
    rw [if_neg e1] at H
    refine EW.skip (by kernel_rfl) ?_
    refine EQ.to ?_
    refine EQ.keep [0, 1, 5, 6, 7] [(0, sv (some a5) a3 a0), (1, ig a7), (5, sv a8 a9 a6), (6, ia a1), (7, pt a2 0)] (by kernel_rfl) ?_
    exact fun a ha => ⟨b5, b6, ha, (hS.re [1, 1] [] rfl (sub_cons 0 rfl (sub_tail (sub_self)))), H⟩
   obtain ⟨b7, b3, ha, hS, H⟩ := hI
   rw [f9] at H
   (try dsimp only at H)
   refine EW.at ?_ a ha
   clear ha a
   refine EW.rg (by kernel_rfl) ?_
   refine EL.quick 1 [0, 1, 6, 7, 92] [(0, sv (some a5) a3 a0), (1, ig a7), (6, ia a1), (7, pt a2 0), (92, sv a8 a9 a6)] (by kernel_rfl) ?_
   refine EL.of (EO.Y (YO.loadBox hS 0 rfl 32 0 2 (ag [ia b7, ib b3]) 93 (by kernel_rfl) (by kernel_rfl) (by kernel_rfl) (by kernel_rfl)) ?_)
   obtain ⟨c5, f4, H⟩ := lt_out H
   refine EL.of (EO.lit hS kS32 32 29 1 #[(0, ag [ia b7, ib b3])] [ia b7, ib b3] c5 94 (by kernel_rfl) (by kernel_rfl) (by kernel_rfl) (fun _ => (by kernel_rfl)) (by rw [f4]; rfl) (by kernel_rfl) (fun w G hr => (by rw [f4]; exact ⟨[ia b7, ib b3], [], rfl, ⟨[ia b7], [ib b3], rfl, rfl, ⟨[ib b3], [], rfl, rfl, rfl⟩⟩, rfl⟩)) ?_)
   intro e7 w hS
   obtain ⟨f8, H⟩ := ite_in H
   obtain ⟨c0, g4, H⟩ := lt_out H
   refine EL.of (EO.append hS 29 29 32 16 2 kS32 a8 a9 a6 rfl (some ⟨e7, 0, none⟩) 1 c5 (Rd.own 0 32 rfl) c0 g4 (fun c2 c3 => Ass.own 32 kS32 (some ⟨e7, 0, none⟩) 1 c5 :: Ass.box 32 a2 [ia b7, ib b3] :: Ass.own 32 kS32 c2 c3 c0 :: os) 95 (by kernel_rfl) (by kernel_rfl) (by kernel_rfl) (by kernel_rfl) f8 (fun _ _ => rfl) ?_)
   intro c2 c3 w hS
   refine EL.quick 1 [0, 1, 5, 6] [(0, sv (some a5) a3 a0), (1, ig a7), (5, sv c2 c3 c0), (6, ia a1)] (by kernel_rfl) ?_
   refine EL.done (by kernel_rfl) ?_
   refine EQ.pop ?_
   refine EQ.code ?_
   refine EW.rg (by kernel_rfl) ?_
   refine EL.quick 3 [0, 1, 5, 6] [(0, sv (some a5) a3 a0), (1, ig a7), (5, sv c2 c3 c0), (6, ia (IntKind.i64.wrap (a1 + 1)))] (by kernel_rfl) ?_
   refine EL.done (by kernel_rfl) ?_
   refine EQ.to ?_
   refine EQ.keep [0, 1, 5, 6] [(0, sv (some a5) a3 a0), (1, ig a7), (5, sv c2 c3 c0), (6, ia (IntKind.i64.wrap (a1 + 1)))] (by kernel_rfl) ?_
   exact fun a ha => ⟨n, Nat.lt_succ_self n, c0, IntKind.i64.wrap (a1 + 1), c2, c3, ha, (hS.re [2] [1, 1] rfl (sub_cons 0 rfl (sub_tail (sub_self)))), H⟩
 rw [if_neg b0] at H
 refine EW.exit (id := 0) (by kernel_rfl) ?_
 refine EQ.exitCode ?_
 refine EQ.exitTo ?_
 refine EQ.exitHere ?_
 refine EQ.code ?_
 refine EW.sq (by kernel_rfl) ?_
 refine EW.rg (by kernel_rfl) ?_
 refine EL.quick 2 [4] [(4, sv a8 a9 a6)] (by kernel_rfl) ?_
 refine EL.done (by kernel_rfl) ?_
 refine EQ.code ?_
 refine EW.ret (by kernel_rfl) ?_
 obtain rfl := Option.some.inj H
 exact EQ.leave (sv a8 a9 a6) (by kernel_rfl) ⟨_, rfl, a8, a9, rfl, (hS.re [0] [] rfl (sub_self))⟩

/-! ### confidant/confidantref5.Known: function 86 -/
def confidantref5_Known.f (K : Nat) (a0 : Int) : Option Bool := if a0 ≥ 1 then (some (decide (a0 ≤ 26))) else (some false)
set_option maxRecDepth 100000 in
theorem confidantref5_Known.calls {K : Nat} {a0 : Int} {a2 : Bool} {B w : World} {os : List Ass} {rs : List Ro} (H : confidantref5_Known.f K a0 = some a2) (hS : St B w (os) (rs)) :
  Calls Try.prog 86 [ia a0].toArray w (fun en w' => ∃ v, en = .returned v ∧ v = .bool (a2) ∧ St B w' (os) (rs)) := by
 unfold confidantref5_Known.f at H
 refine calls_of_EW (args := [ia a0]) (c := Cd86) 9 Try.func86 (by kernel_rfl) (by kernel_rfl) (by kernel_rfl) ?_
 refine EW.sq (by kernel_rfl) ?_
 refine EW.rg (by kernel_rfl) ?_
 refine EL.quick 1 [0] [(0, ia a0)] (by kernel_rfl) ?_
 refine EL.done (by kernel_rfl) ?_
 refine EQ.code ?_
 refine EW.sq (by kernel_rfl) ?_
 refine EW.rg (by kernel_rfl) ?_
 refine EL.quick 3 [0, 5] [(0, ia a0), (5, .bool (decide (a0 ≥ 1)))] (by kernel_rfl) ?_
 by_cases a1 : a0 ≥ 1
 ·rw [if_pos a1] at H
  refine EL.keep [0, 5] [(0, ia a0), (5, .bool (decide (a0 ≥ 1)))] (by kernel_rfl) ?_
  refine EL.as' [(0, ia a0), (5, .bool (true))] (by simp only [dec_t a1, Bool.not_true, Bool.not_false]) ?_
  refine EL.quick 4 [2] [(2, .bool (decide (a0 ≤ 26)))] (by kernel_rfl) ?_
  refine EL.done (by kernel_rfl) ?_
  refine EQ.code ?_
  refine EW.ret (by kernel_rfl) ?_
  obtain rfl := Option.some.inj H
  exact EQ.leave (.bool (decide (a0 ≤ 26))) (by kernel_rfl) ⟨_, rfl, rfl, (hS.re [] [] rfl (sub_self))⟩
 rw [if_neg a1] at H
 refine EL.keep [0, 5] [(0, ia a0), (5, .bool (decide (a0 ≥ 1)))] (by kernel_rfl) ?_
 refine EL.as' [(0, ia a0), (5, .bool (false))] (by simp only [dec_f a1, Bool.not_true, Bool.not_false]) ?_
 refine EL.quick 4 [2] [(2, .bool (false))] (by kernel_rfl) ?_
 refine EL.done (by kernel_rfl) ?_
 refine EQ.code ?_
 refine EW.ret (by kernel_rfl) ?_
 obtain rfl := Option.some.inj H
 exact EQ.leave (.bool (false)) (by kernel_rfl) ⟨_, rfl, rfl, (hS.re [] [] rfl (sub_self))⟩

end Go.Proofs.Ytlcnkngpankkpaa.G
